/- On the way to GuardsSuffice. Conditions: none of ours. -/
import Derived.Shelf.SlSortCmp.NoneTotal
import Derived.Test.YtikknocmfjfohaaGreatDoorProg
import Derived.KernelRfl
import Derived.Test.YtikknocmfjfohaaGreatDoorAmT13
theorem Go.AM.bNEjg{p:Prop}(h:p:=by
 refine⟨[(41,.blk 41 0),(61,.blk 61 0),(70,.blk 70 0),(71,.blk 71 0),(72,.blk 72 0),(74,.blk 74 1)],rfl,au0,?_,au11⟩;repeat'(first|exact ZcD|(refine Zct ?_;first|rfl|(simp only[noRef,noRefs,Qaf,Zae,Zad,Zai,Qaa,Qam,Qag,Qan,Qap,Qay,Qai,Qah,Qab,Qar,Qaj,Qal,Qao,Qaq];done))|exact ZcR rfl|exact ZcJ|exact(True.intro:RnM _ _ _ [] [])|refine ZcK ?_ ?_|(refine Zcs ?_;first|rfl|(simp only[noRef,noRefs,Qaf,Zae,Zad,Zai,Qaa,Qam,Qag,Qan,Qap,Qay,Qai,Qah,Qab,Qar,Qaj,Qal,Qao,Qaq];done))|exact Rn.x1 rfl rfl|exact Rn.x2 rfl rfl|exact Rn.x3 rfl rfl|exact Rn.x4 rfl rfl|exact Rn.x5 rfl|exact Rn.x6 rfl|exact Rn.x7 rfl|refine ZcF rfl rfl ?_|refine ZcE rfl rfl rfl ?_ ?_|refine ZcG rfl rfl rfl ?_ ?_|refine ZcH rfl rfl ?_ ?_|refine ZcI rfl rfl ?_ ?_)
 exact ZcW fun x _=>Zcs (Qab _)):p:=h
theorem Go.AM.b3Xlw{p:Prop}(h:p:=by
 refine⟨(),?_⟩;refine⟨[(41,.blk 41 0),(61,.blk 61 0),(70,.blk 70 0),(71,.blk 71 0),(72,.blk 72 0),(74,.blk 74 0)],rfl,au0,?_,au11⟩;repeat'(first|exact ZcD|(refine Zct ?_;first|rfl|(simp only[noRef,noRefs,Qaf,Zae,Zad,Zai,Qaa,Qam,Qag,Qan,Qap,Qay,Qai,Qah,Qab,Qar,Qaj,Qal,Qao,Qaq];done))|exact ZcR rfl|exact ZcJ|exact(True.intro:RnM _ _ _ [] [])|refine ZcK ?_ ?_|(refine Zcs ?_;first|rfl|(simp only[noRef,noRefs,Qaf,Zae,Zad,Zai,Qaa,Qam,Qag,Qan,Qap,Qay,Qai,Qah,Qab,Qar,Qaj,Qal,Qao,Qaq];done))|exact Rn.x1 rfl rfl|exact Rn.x2 rfl rfl|exact Rn.x3 rfl rfl|exact Rn.x4 rfl rfl|exact Rn.x5 rfl|exact Rn.x6 rfl|exact Rn.x7 rfl|refine ZcF rfl rfl ?_|refine ZcE rfl rfl rfl ?_ ?_|refine ZcG rfl rfl rfl ?_ ?_|refine ZcH rfl rfl ?_ ?_|refine ZcI rfl rfl ?_ ?_)
 exact ZcW fun x _=>Zcs (Qab _)):p:=h
theorem Go.AM.bQRKF{p:Prop}(h:p:=by
 refine⟨[(41,.blk 41 0),(61,.blk 61 0),(70,.blk 70 0),(71,.blk 71 0),(72,.blk 72 0),(74,.blk 74 0)],rfl,au0,?_,au11⟩;repeat'(first|exact ZcD|(refine Zct ?_;first|rfl|(simp only[noRef,noRefs,Qaf,Zae,Zad,Zai,Qaa,Qam,Qag,Qan,Qap,Qay,Qai,Qah,Qab,Qar,Qaj,Qal,Qao,Qaq];done))|exact ZcR rfl|exact ZcJ|exact(True.intro:RnM _ _ _ [] [])|refine ZcK ?_ ?_|(refine Zcs ?_;first|rfl|(simp only[noRef,noRefs,Qaf,Zae,Zad,Zai,Qaa,Qam,Qag,Qan,Qap,Qay,Qai,Qah,Qab,Qar,Qaj,Qal,Qao,Qaq];done))|exact Rn.x1 rfl rfl|exact Rn.x2 rfl rfl|exact Rn.x3 rfl rfl|exact Rn.x4 rfl rfl|exact Rn.x5 rfl|exact Rn.x6 rfl|exact Rn.x7 rfl|refine ZcF rfl rfl ?_|refine ZcE rfl rfl rfl ?_ ?_|refine ZcG rfl rfl rfl ?_ ?_|refine ZcH rfl rfl ?_ ?_|refine ZcI rfl rfl ?_ ?_)
 exact ZcW fun x _=>Zcs (Qab _)):p:=h
theorem Go.AM.boS7y{p:Prop}(h:p:=by
 refine⟨[(41,.blk 41 0),(61,.blk 61 0),(70,.blk 70 0),(71,.blk 71 0),(72,.blk 72 0),(74,.blk 74 0),(76,.blk 76 0),(77,.blk 77 0)],rfl,au0,?_,au11⟩;repeat'(first|exact ZcD|(refine Zct ?_;first|rfl|(simp only[noRef,noRefs,Qaf,Zae,Zad,Zai,Qaa,Qam,Qag,Qan,Qap,Qay,Qai,Qah,Qab,Qar,Qaj,Qal,Qao,Qaq];done))|exact ZcR rfl|exact ZcJ|exact(True.intro:RnM _ _ _ [] [])|refine ZcK ?_ ?_|(refine Zcs ?_;first|rfl|(simp only[noRef,noRefs,Qaf,Zae,Zad,Zai,Qaa,Qam,Qag,Qan,Qap,Qay,Qai,Qah,Qab,Qar,Qaj,Qal,Qao,Qaq];done))|exact Rn.x1 rfl rfl|exact Rn.x2 rfl rfl|exact Rn.x3 rfl rfl|exact Rn.x4 rfl rfl|exact Rn.x5 rfl|exact Rn.x6 rfl|exact Rn.x7 rfl|refine ZcF rfl rfl ?_|refine ZcE rfl rfl rfl ?_ ?_|refine ZcG rfl rfl rfl ?_ ?_|refine ZcH rfl rfl ?_ ?_|refine ZcI rfl rfl ?_ ?_)
 exact ZcW fun x _=>Zcs (Qab _)):p:=h
theorem Go.AM.b8I0r{p:Prop}(h:p:=by
 rintro⟨i,out⟩⟨hi,l,A⟩;dsimp only at hi l A⊢;have F:=l.len;by_cases d:i<out.length
 ·obtain⟨s,E⟩:=Qak d;have C:fQ a.al a.es (a.n+1-(i+1)) (i+1) (fRow a.al a.es s out)=found a:=by rw[<-A,show a.n+1-i=(a.n+1-(i+1))+1 by omega];simp only[fQ,E]
  have f:=fun k=>FI.row h.esn s (a.al.take k) out l;refine Zc7 d ?_;refine Qas 200 (fun k:Nat=>[(1,.ptr 50 0 0),(3,.sl 75 0 0 ((a.al.take k).foldl (fEv a.es s) out).length 1),(4,.int .i64 i),(5,.int .i64 k)]) (fun k=>[(50,.cells 0 [ZN a.al,.int .i64 (a.n:Int),ZN a.ms,egsN a.es]),(75,.cells 0 (ZI (nz ((a.al.take k).foldl (fEv a.es s) out))))]) (fun k=>k<=a.al.length) (fun k=>a.al.length-k) 0 2 300 (fun _:Unit=>[(1,.ptr 50 0 0),(3,.sl 75 0 0 (fRow a.al a.es s out).length 1),(4,.int .i64 i)]) (fun _=>[(50,.cells 0 [ZN a.al,.int .i64 (a.n:Int),ZN a.ms,egsN a.es]),(75,.cells 0 (ZI (nz (fRow a.al a.es s out))))]) (fun _=>True) ?_ (Zaj _) ?_ ?_;·exact⟨[(50,.blk 50 0),(75,.blk 75 0)],rfl,au0,au12,au11⟩
  ·rintro k hk;by_cases g:k<a.al.length
   ·obtain⟨ev,v⟩:=Qak g;have b:=QlL (es:=a.es) (s:=s) (out:=out) v;obtain⟨w,⟨t,n⟩,_⟩:=f k;have H:=w.len;have p:((a.al.take k).foldl (fEv a.es s) out)[i]?=some s:=by rw[n,ZaP d];exact E
    generalize(a.al.take k).foldl (fEv a.es s) out=o at*;have B:i<o.length:=(Zaf.1 p).1
    refine Zc7 (Zda g B (QbG (nz_at p)) (QaI v)) ?_;refine cp (step60 a s ev h.el) ?_;cases c:ZA a.es s ev with|none=>
     have h1:stepI a.es s ev=-1:=by unfold stepI;rw[c]
     have q:fEv a.es s o ev=o:=by unfold fEv;rw[c]
     rw[q]at b;rw[h1];refine Zc6 ?_;refine⟨k+1,by omega,by omega,?_⟩;rw[b];exact⟨[(50,.blk 50 0),(75,.blk 75 0)],rfl,au0,au12,au11⟩|some to=>
     have h1:stepI a.es s ev=to:=by unfold stepI;rw[c]
     have I:=QeS h.esn c;rw[h1];refine Zc6 ?_;have u:=has36 (nz o) to (by simp;omega);rw[QeU,QbE]at u;by_cases hc:o.contains to=true
     ·have q:fEv a.es s o ev=o:=by unfold fEv;rw[c];exact if_pos hc
      rw[q]at b;rw[hc]at u;refine ch (ZcQ (ZcT (FrzTo.all gg (by simp[ZI])) (ZcT (Zcy _) ZcS)) u rfl) ?_;refine Zc6 ?_;refine⟨k+1,by omega,by omega,?_⟩;rw[b];exact⟨[(50,.blk 50 0),(75,.blk 75 0)],rfl,au0,au12,au11⟩
     have q:fEv a.es s o ev=o++[to]:=by unfold fEv;rw[c];exact if_neg hc
     rw[q]at b;rw[Zam]at hc;rw[hc]at u;refine ch (ZcQ (ZcT (FrzTo.all gg (by simp[ZI])) (ZcT (Zcy _) ZcS)) u rfl) ?_;refine Zc6 ?_;refine⟨k+1,by omega,by omega,?_⟩;rw[b,Zag,QaM,QaB];exact⟨[(50,.blk 50 0),(75,.blk 75 1)],rfl,au0,au12,au11⟩
   have e:k=a.al.length:=by omega
   subst e;refine Zc7 g ?_;refine⟨(),?_⟩;exact⟨[(50,.blk 50 0),(75,.blk 75 0)],rfl,au0,au12,au11⟩
  rintro _ _;obtain⟨w,⟨t,n⟩,_⟩:=f a.al.length;rw[Zan]at w n;have n:fRow a.al a.es s out=out++t:=n;refine Zc6 ?_;refine⟨(i+1,fRow a.al a.es s out),by dsimp only;omega,⟨by dsimp only;rw[n,List.length_append];omega,w,C⟩,?_⟩;exact⟨[(50,.blk 50 0),(75,.blk 75 0)],rfl,au0,au12,au11⟩
 have G:out[i]?=none:=ZaG (by omega);have y:out=found a:=by rw[<-A,show a.n+1-i=(a.n-i)+1 by omega];simp only[fQ,G]
 refine Zc7 d ?_;refine⟨.inr trivial,_,rfl,?_⟩;rw[y];exact ZcM (g:=0) rfl (by simp[ZI]) (Zct (Qaa _))):p:=h
theorem Go.AM.bIDW4{p:Prop}(h:p:=by
 rintro k hk;by_cases c:k<a.al.length
 ·obtain⟨ev,d⟩:=Qak c;have q:=Zaa d;have w:=QlM (a:=a) (f:=f) (i:=i) (s:=s) d;have F:(cPart a f i s k).length<=2000:=by unfold cPart;rw[Zag];have h1:=List.length_filterMap_le (fun ev=>(ZA a.es s ev).map fun to=>(i,ev,idx f to)) (a.al.take k);rw[Zap]at h1;omega
  have u:=QbH (cPart a f i s k);have g:cPart a f i s (k+1)=cPart a f i s k++match ZA a.es s ev with|some to=>[(i,ev,idx f to)]|none=>[]:=by unfold cPart;rw[w,ZaQ]
  generalize cPart a f i s k=R at*;refine Zc7 (Zda c o (QaI v) (QaI d)) ?_;refine cp (step60 a s ev h.el) ?_;cases b:ZA a.es s ev with|none=>
   have h1:stepI a.es s ev=-1:=by unfold stepI;rw[b]
   rw[b,Zas]at g;rw[h1];refine Zc6 ?_;refine⟨k+1,by omega,by omega,?_⟩;rw[g];exact⟨[(50,.blk 50 0),(51,.blk 51 0),(52,.blk 52 0),(76,.blk 76 0),(77,.blk 77 0)],rfl,au0,au12,au11⟩|some to=>
   have h1:stepI a.es s ev=to:=by unfold stepI;rw[b]
   rw[b]at g;have l:=index61 (nz f) to (by simp;omega);rw[QbE,QnB (f3 s z ev q to b)]at l;rw[h1];refine Zc7 (Zc8 c (QaI d)) ?_;refine cp l ?_;refine Zc7 u ?_;refine⟨k+1,by omega,by omega,?_⟩;rw[g,Zao,Zag];exact⟨[(50,.blk 50 0),(51,.blk 51 0),(52,.blk 52 0),(76,.blk 76 1),(77,.blk 77 0)],rfl,au0,au12,au11⟩
 have e:k=a.al.length:=by omega
 subst e;refine Zc7 c ?_;refine⟨(),?_⟩;rw[m];exact⟨[(50,.blk 50 0),(51,.blk 51 0),(52,.blk 52 0),(76,.blk 76 0),(77,.blk 77 0)],rfl,au0,au12,au11⟩):p:=h
theorem Go.AM.bPXa0{p:Prop}(h:p:=by
 rintro _ _;refine Zc6 ?_;refine⟨i+1,by omega,by omega,?_⟩;rw[y];exact⟨[(50,.blk 50 0),(51,.blk 51 0),(52,.blk 52 0),(76,.blk 76 0),(77,.blk 77 0)],rfl,au0,au12,au11⟩):p:=h
theorem Go.AM.bBKVo{p:Prop}(h:p:=by
 rintro k hk;by_cases b:k<al.length
 ·obtain⟨ev,f⟩:=Qak b;have c:al.getD k 0=ev:=by rw[Zah,f];rfl
  obtain⟨x,v⟩:=Qak (l:=T) (i:=i*5+k) (by omega);have u:T.getD (i*5+k) 0=x:=by rw[Zah,v];rfl
  have Q:=A x (Zaa v);have d:(k:Int)<5:=by omega
  have o:(i:Int)<5:=by omega
  have g:(AV.int .u8 (st:Int)::AV.int .u8 (mk:Int)::u8s T)[2+i*5+k]?=some (.int .u8 (x:Int)):=by rw[show 2+i*5+k=(i*5+k)+2 by omega];simpa using QgX v
  have m:(x:Int).tmod ((n:Int)+2)=((x%(n+2):Nat):Int):=by rw[Zbl (ZaV _)];norm_cast
  have l:¬(n:Int)+2=0:=by omega
  have P:x%(n+2)<=10:=by have:=Zce x (show 0<n+2 by omega);omega
  have t:=QlO (al:=al) (n:=n) (T:=T) (i:=i) (k:=k);have L:=@QiG al n T i k;have a:gPart al n T i (k+1)=gPart al n T i k++match gEd al n T i k with|some e=>[e]|none=>[]:=by unfold gPart;rw[t,ZaQ]
  have F:(gPart al n T i k).length<=100:=by unfold gPart;rw[Zag];omega
  have y:=QbH (gPart al n T i k);unfold gEd at a;rw[u,c]at a;generalize gPart al n T i k=R at*;by_cases p:x%(n+2)<n;·rw[if_pos p]at a;refine Zc7 (Zdf b d o g l m p (QaI f) y) ?_;refine⟨k+1,by omega,by omega,?_⟩;rw[a,Zao,Zag];exact⟨[(50,.blk 50 0),(51,.blk 51 0),(52,.blk 52 0),(76,.blk 76 1),(77,.blk 77 0)],rfl,au0,au13,au14⟩
  rw[if_neg p,Zas]at a;refine Zc7 (Zdd b d o g l m p) ?_;refine⟨k+1,by omega,by omega,?_⟩;rw[a];exact⟨[(50,.blk 50 0),(51,.blk 51 0),(52,.blk 52 0),(76,.blk 76 0),(77,.blk 77 0)],rfl,au0,au13,au14⟩
 have e:k=al.length:=by omega
 subst e;refine Zc7 b ?_;refine⟨(),?_⟩;rw[H];exact⟨[(50,.blk 50 0),(51,.blk 51 0),(52,.blk 52 0),(76,.blk 76 0),(77,.blk 77 0)],rfl,au0,au13,au14⟩):p:=h
theorem Go.AM.btGvW{p:Prop}(h:p:=by
 rintro _ _;refine Zc6 ?_;refine⟨i+1,by omega,by omega,?_⟩;rw[G];exact⟨[(50,.blk 50 0),(51,.blk 51 0),(52,.blk 52 0),(76,.blk 76 0),(77,.blk 77 0)],rfl,au0,au13,au14⟩):p:=h
theorem Go.AM.bjPJZ{p:Prop}(h:p:=by
 by_cases hc:e.1<t
 ·have d:(e.1:Int)-(t:Int)<0:=by omega
  refine Zc7 d ?_;refine⟨(k+1,j),by dsimp only;omega,⟨by dsimp only;omega,s,fun q l=>?_,g⟩,⟨[],rfl,au0,au13,au14⟩⟩;have:=QdT v (p:=q) (q:=k) (by dsimp only at l;omega) (by omega);omega
 have d:¬(e.1:Int)-(t:Int)<0:=by omega
 refine Zc7 d ?_;refine⟨(i,k),by dsimp only;omega,⟨w,by dsimp only;omega,h1,fun q l z=>?_⟩,⟨[],rfl,au0,au13,au14⟩⟩;have:=QdT v (p:=k) (q:=q) l (by omega);omega):p:=h
theorem Go.AM.bd8a9{p:Prop}(h:p:=by
 refine Zc7 (Zc8 c (QaR he)) ?_;refine cp (sub229 e t f u) ?_;refine Zc7 d ?_;exact⟨.inr trivial,_,rfl,rfl⟩):p:=h
theorem Go.AM.bsh5l{p:Prop}(h:p:=by
 refine Zc7 (Zc8 c (QaR he)) ?_;refine cp (sub230 e t f u) ?_;refine Zc7 d ?_;exact⟨.inr trivial,_,rfl,rfl⟩):p:=h
theorem Go.AM.bCBln{p:Prop}(h:p:=by
 rintro j hj;by_cases f:j<(ZO a.es tru v).length
 ·obtain⟨e,he⟩:=Qak f;have G:=QaV.1 (Zaa he);have c:=(h.esn e G.1).2;obtain⟨X,_,_,_,_⟩:=C j;have Z:=X.len;have b:=QgV (i:=i) (s:=s) he;have n:=Qcx (i:=i) ((ZO a.es tru v).take j) s;rw[Zap]at n;generalize(((ZO a.es tru v).take j).foldl (sEd i) s)=t at*;have l:=QbH t.2;have hpl:=QjC (n:=a.n) (o:=t.1);have g:=QjD (o:=t.1) c;have z:e.2.2<(pl a.n t.1).length:=by omega
  have u:e.2.2+1<=(pl a.n t.1).length:=by omega
  by_cases hc:e.2.2∈t.1
  ·have I:sEd i t e=(t.1,t.2++[(i,e.2.1,SD.idx t.1 e.2.2)]):=if_pos (by simpa using hc);rw[I]at b;rw[if_pos (by simpa using hc)]at g;have J:¬((SD.idx t.1 e.2.2:Nat):Int)<0:=by omega
   generalize SD.idx t.1 e.2.2=q at*;refine Zc7 (Zdd f (QaR he) c (Qbo z) g J l) ?_;refine⟨j+1,by omega,by omega,?_⟩;rw[b,Zao,Zag];exact⟨[(50,.blk 50 0),(60,.blk 60 0),(69,.blk 69 0),(83,.blk 83 0),(78,.blk 78 0),(75,.blk 75 0),(76,.blk 76 1),(77,.blk 77 0)],rfl,au0,au13,au14⟩
  have I:sEd i t e=(t.1++[e.2.2],t.2++[(i,e.2.1,t.1.length)]):=if_neg (by simpa using hc);rw[I]at b;rw[if_neg (by simpa using hc)]at g;have m:=Qr2 (n:=a.n) hc;have J:(-1:Int)<0:=by decide
  have p:e.2.2<(pl a.n (t.1++[e.2.2])).length:=by rw[QjC];exact c
  have w:(pl a.n (t.1++[e.2.2])).getD e.2.2 0=(t.1.length:Int):=by rw[QjD c,if_pos (by simp),SD.QdM hc]
  refine Zc7 (Zdi f (QaR he) c (Qbo z) g J l u @QbN m (Qbo p) w) ?_;refine⟨j+1,by omega,by omega,?_⟩;rw[b,Zao,Zag];dsimp only;rw[Zag,QaM,QaB];exact⟨[(50,.blk 50 0),(60,.blk 60 0),(69,.blk 69 0),(83,.blk 83 0),(78,.blk 78 0),(75,.blk 75 1),(76,.blk 76 1),(77,.blk 77 0)],rfl,au0,au13,au14⟩
 have e:j=(ZO a.es tru v).length:=by omega
 subst e;refine Zc7 f ?_;refine⟨(),?_⟩;exact⟨[(50,.blk 50 0),(60,.blk 60 0),(69,.blk 69 0),(83,.blk 83 0),(78,.blk 78 0),(75,.blk 75 0),(76,.blk 76 0),(77,.blk 77 0)],rfl,au0,au13,au14⟩):p:=h
theorem Go.AM.bBTdu{p:Prop}(h:p:=by
 rintro _ _;have R:(sRow a.es tru i v s).2.length=s.2.length+(ZO a.es tru v).length:=Qcx _ _;have Q:=QcM a.es tru v;refine Zc6 ?_;refine⟨(i+1,sRow a.es tru i v s),by dsimp only;omega,⟨E,F,by dsimp only;omega,N⟩,?_⟩;dsimp only;rw[y];exact⟨[(50,.blk 50 0),(60,.blk 60 0),(69,.blk 69 0),(83,.blk 83 0),(78,.blk 78 0),(75,.blk 75 0),(76,.blk 76 0),(77,.blk 77 0)],rfl,au0,au13,au14⟩):p:=h
theorem Go.AM.bbkqv{p:Prop}(h:p:=by
 refine Zc7 (Zc9 n p l) ?_;refine QeW gg c (by omega) ?_;refine Zc7 @QiI ?_;refine⟨i+1,by omega,by omega,?_⟩;rw[k];refine⟨[(68,.blk 68 0)],rfl,au0,?_,au8⟩;exact ZcG rfl rfl gg (RnM.mapS fun _ _=>Zcs rfl) ZcD):p:=h
set_option linter.unusedSectionVars false
set_option maxHeartbeats 32000000
set_option maxRecDepth 100000
set_option linter.unusedVariables false
set_option linter.unusedSimpArgs false
namespace Go.AM
open Go.Proofs Go.Shelf Go.Sort
variable{P:Program}{ρ:Ren}{α:Type}[Inhabited α]
variable{C:Array Value}{h:Heap}{F:List Value}{k o:Nat}{w:World}{enc:α->List Value}
abbrev encI(ci:α->List Int)(x:α):List Value:=(ci x).map (Value.int .i64)
abbrev avI(ci:α->List Int)(x:α):List AV:=(ci x).map (AV.int .i64)
theorem QlI{ok}{c:Ctx ok}:∀{a:List Int}{vs:List Value},VPre c w (a.map (AV.int .i64)) vs->∃r,vs=a.map (Value.int .i64)++r|[],vs,_=>⟨vs,rfl⟩|n::a,vs,h=>by simp only[ZaL,VPre]at h;obtain⟨v,f,rfl,b,d⟩:=h;obtain⟨r,rfl⟩:=QlI d;simp only[VRel]at b;simp_all
theorem Qh9{ok}{c:Ctx ok}:∀{a:List Int}{r:List Value},VPre c w (a.map (AV.int .i64)) (a.map (Value.int .i64)++r)|[],r=>by simp[VPre]|n::a,r=>by simp only[ZaL,VPre,ZaW];exact⟨_,_,rfl,by simp[VRel],Qh9⟩
theorem QpC(ci:α->List Int)(l:List α):l.flatMap (avI ci)=(l.flatMap ci).map (AV.int .i64):=by rw[List.map_flatMap]
theorem Qnz(ci:α->List Int)(l:List α):l.flatMap (encI ci)=(l.flatMap ci).map (Value.int .i64):=by rw[List.map_flatMap]
theorem Qia{β γ:Type}{f:β->List γ}(hk:∀x,(f x).length=k)(a:0<k):∀{l:List β}{t:Nat},(l.flatMap f)[t]?=(l[t/k]?).bind fun x=>(f x)[t%k]?
 |[],t=>by simp|x::l,t=>by
  rw[Zaz];by_cases h:t<k;·simp_all[ZaP,Nat.div_eq_of_lt,Nat.mod_eq_of_lt]
  rw[Zbk (by rw[hk];omega),hk,Qia hk a (l:=l)];simp_all[Nat.div_eq_sub_div,Nat.mod_eq_sub_mod]
theorem QjA(hk:∀x,(enc x).length=k)(c:0<k)(l:List α):Go.Sort.flatK enc k l.toArray=(l.flatMap enc).toArray:=by
 refine ext_get! ?_ fun t a=>?_;·simp_all[List.map_const']
 have b:t<l.length*k:=by simpa using a
 have d:t/k<l.length:=by simp_all[Nat.div_lt_iff_lt_mul]
 grind[get_flatK,Qia]
theorem Qmk(h:o+F.length<=C.size):(putCells id o F.toArray C).toList.drop o=F++C.toList.drop (o+F.length):=by apply ZbG;grind[putCells]
theorem HSpec.sortK{f g b γ:Nat}(L:SlLaysF0.n6 P ρ)(hf:ρ.f 6=f)(B:Callable P f)(k:Nat)(h0:0<k)(aE:∀w,(isAgg (ρ.t 24)).run P w=.ok true w)(zE:∀w,(Go.sizeOf (ρ.t 24)).run P w=.ok k w)(ci:α->List Int)(hk:∀x,(ci x).length=k)(cf:α->α->Int)(hO:SWO (ltOf cf))(eg:∀args w,(callFunc g args).run P w=.ok (.enter g args) w)(U:∀x y w,Calls P g #[.agg (encI ci x).toArray,.agg (encI ci y).toArray] w fun e w'=>e=.returned (.int .i64 (cf x y))/\∃q os',w'=grow (w.drewN q) os')(l:List α)(hl:l.length<4611686018427387904)(hb:h.get b=some (.cells γ (l.flatMap (avI ci))))(hlim:b<1099511627775):∃Z:List α,Z.Perm l/\Z.Pairwise (fun x y=>ltOf cf y x=false)/\HSpec P f [.sl b γ 0 l.length k,.fn g [] []] h (.tup []) (h.set b (.cells γ (Z.flatMap (avI ci)))):=by
 obtain⟨a,Y⟩:∃a,a=pdq (ltOf cf) l.toArray 0 l.length (Lib.bitLen l.length) true true:=⟨_,rfl⟩;have hs:=pdq_sorts (ltOf cf) hO l.toArray 0 l.length (Lib.bitLen l.length) true true (Zaj _) (by simp) (Or.inl rfl);rw[<-Y]at hs;obtain⟨⟨hsz,_,s⟩,I⟩:=hs;have T:a.size=l.length:=by simpa using hsz
 have V:(a.extract 0 l.length).toList=a.toList:=by rw[<-T];simp
 have G:(l.toArray.extract 0 l.length).toList=l:=by simp
 rw[V,G]at s;have z:∀x,(encI ci x).length=k:=fun x=>by simp[hk]
 have Q:∀x,∀v∈encI ci x,v.oneCell'=true:=fun x v hv=>by obtain⟨n,_,rfl⟩:=Zaq.1 hv;rfl
 refine⟨a.toList,s,?_,B,?_⟩;·rw[Za0];intro i j hi hj hij;have:=I i j (Zaj _) hij (by simp_all);grind
 intro c w u H ha;have hget:∀x j,(h.set b x).get j=if j=b then some x else h.get j:=fun x j=>Zcl h (by simp_all[lim]) j x;obtain⟨v1,v2,hca,O,hv2⟩:∃v1 v2,u.toList=[v1,v2]/\VRel c w (.sl b γ 0 l.length k) v1/\v2=.func (.func g) #[] #[]:=by simp_all[VRels,VRel]
 have X:u=#[v1,v2]:=Array.toList_inj.1 (by rw[hca]);subst X hv2;have none:l=[]->∀p cap,v1=.slice p 0 cap->Calls P f #[v1,.func (.func g) #[] #[]] w fun e w'=>∃cv c',e=.returned cv/\Evo c w c' w'/\HRel c' (h.set b (.cells γ (a.toList.flatMap (avI ci)))) w'/\VRel c' w' (.tup []) cv:=by rintro e p cap rfl;have hn:=AnyF.slices_SortFunc_none {L with} p cap (.func (.func g) #[] #[]) w;rw[hf]at hn;refine hn.mono ?_;rintro e1 w'⟨rfl,rfl⟩;refine⟨_,c,rfl,Evo.refl c _,Qcw (fun j=>?_) H,by simp[VRel,VRels]⟩;simp_all
 simp only[VRel]at O;rcases O with⟨_,h1,_,rfl⟩|⟨t,base,o,cap,C,e,fr,hp,rfl,hlc,S,R⟩;·simp_all
 by_cases hl0:l.length=0;·simp_all
 obtain⟨ho,hbd⟩:=R.resolve_left (by omega);have ho':base=o:=ho.symm;subst ho';obtain⟨C',e',fr',hcO,J,hfr,hbs,A⟩:=H.here hb hp;rw[S]at J;cases J;have hlen:(l.flatMap ci).length=l.length*k:=by simp[List.length_flatMap,hk,List.map_const',List.sum_replicate_nat]
 have hlen':(a.toList.flatMap ci).length=l.length*k:=by grind
 have hlk:l.length*k<=cap*k:=Zbe k hlc;rw[QpC]at A;obtain⟨r,hr⟩:=QlI A;have hfl:Go.Sort.flatK (encI ci) k l.toArray=((l.flatMap ci).map (Value.int .i64)).toArray:=by rw[QjA z h0,Qnz]
 have K:Go.Sort.flatK (encI ci) k a=((a.toList.flatMap ci).map (Value.int .i64)).toArray:=by have:=QjA z h0 a.toList;rw[Qnz]at this;exact this
 have hblk:=Qbk S;have hH:HoldsK (encI ci) k w t base l.toArray:=by
  unfold HoldsK;rw[hfl];intro j hj;have hj':j<l.length*k:=by grind
  have hjC:base+j<C.size:=by omega
  refine⟨?_,?_⟩
  ·simp only[World.cell?,S];have h2:C.toList[base+j]?=some (((l.flatMap ci).map (Value.int .i64))[j]'(by omega)):=by rw[<-ZbN,hr,ZaP (by omega),Zak]
   grind
  simp only[World.frozen?,S];have:=hfr (base+j) hjC;grind
 have d:=AnyQ.slices_SortFunc_eq L k aE zE (encI ci) z Q cf hO g #[] t base cap l.toArray w eg (fun m os dk _ x y=>U x y _) hH hblk (by simpa using hl);rw[hf]at d;have e0:(base+0:Nat)=base:=rfl;have esz:(l.toArray).size=l.length:=by simp
 rw[esz,<-Y]at d;refine d.mono ?_;rintro e1 w'⟨rfl,n,os,rfl⟩;have F:∀j,j<w.heap.size->(sortWorldK (encI ci) k w t base n a os).heap[j]?=if j=t then some (.cells (putCells id base ((a.toList.flatMap ci).map (Value.int .i64)).toArray C) e fr)else w.heap[j]?:=fun j hj=>by
  unfold sortWorldK putRowK;rw[heap_grow_old _ _ (by grind[putRow,mapBlock,Sort.ahead]),K];show(w.heap.modify t _)[j]?=_;rw[Array.getElem?_modify];by_cases e2:t=j;·subst e2;rw[if_pos rfl,if_pos rfl,S];rfl
  grind
 have M:w.heap.size<=(sortWorldK (encI ci) k w t base n a os).heap.size:=by grind
 have N:=F t hblk;rw[if_pos rfl]at N;obtain⟨E,H2⟩:=H.put (w':=sortWorldK (encI ci) k w t base n a os) (b:=b) (cb:=t) (base:=base) (x:=.cells γ (a.toList.flatMap (avI ci))) (by grind[lim]) (fun y hy=>H.later b _ hb y hy) (.inr hp) (.inr ⟨γ,base,⟨_,hb,rfl,fun k=>by simp⟩,hp⟩) rfl rfl rfl M (by omega) (fun j hj hne=>by grind) (fun C2 e2 fr2 h2=>by grind[putCells]) (fun E=>.inr ⟨t,base,_,_,_,by show(if b=b/\γ=γ then _ else _)=_;grind,.inr rfl,N,by grind[putCells],by grind[putCells],by grind[Qmk,QpC,Qh9]⟩);exact⟨_,_,rfl,E,H2,by simp[VRel,VRels]⟩
end Go.AM
namespace Go.Proofs
open Go.Shelf Go.RowKit Go.Lib Go.Sort
def Tryz.QqE:Go.Shelf.Ren:=⟨fun|6=>120|15=>179|14=>178|28=>233|29=>234|20=>225|21=>226|22=>227|23=>228|24=>229|25=>230|26=>231|27=>232|46=>268|47=>269|48=>270|49=>271|50=>272|57=>284|n=>n,fun|22=>65|24=>244|25=>250|3=>3|39=>304|0=>0|53=>349|55=>351|4=>4|46=>343|45=>342|50=>164|5=>5|9=>9|66=>372|70=>172|76=>384|77=>258|n=>n,fun|n=>n⟩
theorem Tryz.sortRm:Go.Proofs.SlLaysF0.n6 Tryz.prog Tryz.QqE:={
 mixed:=by kernel_rfl
 f6:=⟨Tryz.f120.name,by decide,Tryz.func120.trans (congrArg some (by kernel_rfl))⟩
 f14:=⟨Tryz.f178.name,by decide,Tryz.func178.trans (congrArg some (by kernel_rfl))⟩
 f15:=Tryz.func179.trans (congrArg some (by kernel_rfl))
 f20:=⟨Tryz.f225.name,by decide,Tryz.func225.trans (congrArg some (by kernel_rfl))⟩
 f21:=⟨Tryz.f226.name,by decide,Tryz.func226.trans (congrArg some (by kernel_rfl))⟩
 f22:=⟨Tryz.f227.name,by decide,Tryz.func227.trans (congrArg some (by kernel_rfl))⟩
 f23:=⟨Tryz.f228.name,by decide,Tryz.func228.trans (congrArg some (by kernel_rfl))⟩
 f24:=⟨Tryz.f229.name,by decide,Tryz.func229.trans (congrArg some (by kernel_rfl))⟩
 f25:=⟨Tryz.f230.name,by decide,Tryz.func230.trans (congrArg some (by kernel_rfl))⟩
 f26:=⟨Tryz.f231.name,by decide,Tryz.func231.trans (congrArg some (by kernel_rfl))⟩
 f27:=⟨Tryz.f232.name,by decide,Tryz.func232.trans (congrArg some (by kernel_rfl))⟩
 f28:=Tryz.func233.trans (congrArg some (by kernel_rfl))
 f29:=Tryz.func234.trans (congrArg some (by kernel_rfl))
 f46:=⟨Tryz.f268.name,by decide,Tryz.func268.trans (congrArg some (by kernel_rfl))⟩
 f47:=Tryz.func269.trans (congrArg some (by kernel_rfl))
 f48:=Tryz.func270.trans (congrArg some (by kernel_rfl))
 f49:=⟨Tryz.f271.name,by decide,Tryz.func271.trans (congrArg some (by kernel_rfl))⟩
 f50:=⟨Tryz.f272.name,by decide,Tryz.func272.trans (congrArg some (by kernel_rfl))⟩
 f57:=⟨Tryz.f284.name,by decide,Tryz.func284.trans (congrArg some (by kernel_rfl))⟩
 t0:=Tryz.underlying0
 a0:=Tryz.isAgg0
 z0:=Tryz.sizeOf0
 v0:=Tryz.zeroValue0
 t3:=Tryz.underlying3
 a3:=Tryz.isAgg3
 z3:=Tryz.sizeOf3
 v3:=Tryz.zeroValue3
 t4:=Tryz.underlying4
 a4:=Tryz.isAgg4
 z4:=Tryz.sizeOf4
 v4:=Tryz.zeroValue4
 t5:=Tryz.underlying5
 a5:=Tryz.isAgg5
 z5:=Tryz.sizeOf5
 v5:=Tryz.zeroValue5
 t9:=Tryz.underlying9
 a9:=Tryz.isAgg9
 z9:=Tryz.sizeOf9
 v9:=Tryz.zeroValue9
 t22:=Tryz.underlying65
 a22:=Tryz.isAgg65
 z22:=Tryz.sizeOf65
 v22:=Tryz.zeroValue65
 t25:=Tryz.underlying250
 a25:=Tryz.isAgg250
 z25:=Tryz.sizeOf250
 v25:=Tryz.zeroValue250
 t39:=Tryz.underlying304
 a39:=Tryz.isAgg304
 z39:=Tryz.sizeOf304
 v39:=Tryz.zeroValue304
 t45:=Tryz.underlying342
 a45:=Tryz.isAgg342
 z45:=Tryz.sizeOf342
 v45:=Tryz.zeroValue342
 t46:=Tryz.underlying343
 a46:=Tryz.isAgg343
 z46:=Tryz.sizeOf343
 v46:=Tryz.zeroValue343
 t50:=Tryz.underlying164
 a50:=Tryz.isAgg164
 z50:=Tryz.sizeOf164
 v50:=Tryz.zeroValue164
 t53:=Tryz.underlying349
 a53:=Tryz.isAgg349
 z53:=Tryz.sizeOf349
 v53:=Tryz.zeroValue349
 t55:=Tryz.underlying351
 a55:=Tryz.isAgg351
 z55:=Tryz.sizeOf351
 v55:=Tryz.zeroValue351
 t66:=Tryz.underlying372
 a66:=Tryz.isAgg372
 z66:=Tryz.sizeOf372
 v66:=Tryz.zeroValue372
 t70:=Tryz.underlying172
 a70:=Tryz.isAgg172
 z70:=Tryz.sizeOf172
 v70:=Tryz.zeroValue172
 t76:=Tryz.underlying384
 a76:=Tryz.isAgg384
 z76:=Tryz.sizeOf384
 v76:=Tryz.zeroValue384
 t77:=Tryz.underlying258
 a77:=Tryz.isAgg258
 z77:=Tryz.sizeOf258
 v77:=Tryz.zeroValue258}
abbrev Rm4:=Fin 1048576×Int×Int×Int
def ciR(x:Rm4):List Int:=[(x.1.val:Int),x.2.1,x.2.2.1,x.2.2.2]
def cfR(x y:Rm4):Int:=(x.1.val:Int)-(y.1.val:Int)
theorem Tryz.cmp180(x y)(W):Calls Tryz.prog 121 #[.agg #[.int .i64 (x.1.val:Int),.int .i64 x.2.1,.int .i64 x.2.2.1,.int .i64 x.2.2.2],.agg #[.int .i64 (y.1.val:Int),.int .i64 y.2.1,.int .i64 y.2.2.1,.int .i64 y.2.2.2]] W fun e w'=>e=.returned (.int .i64 (cfR x y))/\∃q f,w'=grow (W.drewN q) f:=by obtain⟨⟨a,h⟩,b,c,d⟩:=x;obtain⟨⟨m,g⟩,k,i,l⟩:=y;unfold cfR;go_enter Tryz.func121,Tryz.ntmps121;go_wp2;go_ret;exact⟨rfl,0,_,by rw[alloc_eq_grow,alloc_eq_grow,grow_grow];rfl⟩
theorem QgW(x y):ltOf cfR x y=decide (x.1.val<y.1.val):=by unfold ltOf cfR;grind
theorem QuR:SWO (ltOf cfR)where
 irrefl x:=by rw[QgW];simp
 trans x y z h1 a:=by rw[QgW,decide_eq_true_eq]at*;omega
 ntrans x y z h1 a:=by grind[QgW]
end Go.Proofs
namespace Go.AM.SE
open Go.Proofs Go.AM.SD Go.Sort Go.Shelf
variable{a:Aut}{h:Heap}{l:LB}{es:List Ed}{d:List Int}{T al f xs:List Nat}{i k mk n s st x:Nat}{α:Type}{p:α->Bool}
def toR(r:Rm):Rm4:=(⟨r.st%1048576,Zce _ (by decide)⟩,r.rank,(r.reason:Int),r.ev)
theorem Qwd{r}(h:r.st<=4096):avI ciR (toR r)=rmC r:=by simp[avI,ciR,toR,rmC,Nat.mod_eq_of_lt (show r.st<1048576 by omega)]
theorem QiE:∀{l:List Rm},(∀r∈l,r.st<=4096)->(l.map toR).flatMap (avI ciR)=l.flatMap rmC|[],_=>rfl|e::l,h=>by rw[ZaL,Zaz,Zaz,Qwd (h e (by simp)),QiE fun x a=>h x (by simp[a])]
theorem call179:Callable Tryz.prog 120:=⟨_,Tryz.func120,by kernel_rfl,by kernel_rfl⟩
theorem sortH{l:List Rm}(b:∀r∈l,r.st<=4096)(z:l.length<1000000000)(t:(l.map (·.st)).Nodup)(u:h.get 74=some (.cells 0 (l.flatMap rmC))):HSpec Tryz.prog 120 [.sl 74 0 0 l.length 4,.fn 121 [] []] h (.tup []) (h.set 74 (.cells 0 ((srtR l).flatMap rmC))):=by
 have m:=QrT l;have f:∀r∈srtR l,r.st<=4096:=fun r p=>b r (m.mem_iff.1 p);obtain⟨s,hp,d,v⟩:=HSpec.sortK (f:=120) (g:=121) (γ:=0) (h:=h) (b:=74) Tryz.sortRm rfl call179 4 (by decide) Tryz.isAgg244 Tryz.sizeOf244 ciR (fun _=>rfl) cfR QuR (enters_of Tryz.func121 (by kernel_rfl) rfl) (fun x y w=>Tryz.cmp180 x y w) (l.map toR) (by rw[Zax];omega) (by rw[u,QiE b]) (by decide);have e:s=(srtR l).map toR:=by
  refine List.Perm.eq_of_pairwise (le:=fun x y=>ltOf cfR y x=false) ?_ d ?_ (hp.trans (m.map toR).symm)
  ·intro x y g k h1 n;obtain⟨m1,c,rfl⟩:=Zaq.1 (hp.mem_iff.1 g);obtain⟨m2,a,rfl⟩:=Zaq.1 k;have a:=m.mem_iff.1 a;have o:=b m1 c;have b2:=b m2 a;rw[QgW,decide_eq_false_iff_not]at h1 n;simp only[toR]at h1 n;have e:m1.st=m2.st:=by omega
   obtain⟨i,hi,rfl⟩:=ZaO c;obtain⟨j,q,rfl⟩:=ZaO a;have:i=j:=(List.getElem_inj t (h₀:=by simpa using hi) (h₁:=by simpa using q)).1 (by simpa using e);subst this;rfl
  rw[Zbr];refine(QrU l).imp_of_mem fun{x y}g k h=>?_;have o:=f x g;have b2:=f y k;rw[QgW,decide_eq_false_iff_not];simp only[toR];omega
 simp_all[QiE]
theorem Agr0(hf:∀x∈f,x<n)(d:f.Nodup):Agr n (left0 n f) (f.map rm0) ((List.range n).map rm0):=by
 refine⟨by simp,fun i r h=>?_,?_,fun r=>?_⟩
 ·rw[ZaA]at h;by_cases hi:i<n;·rw[Zbu hi]at h;cases h;rfl
  rw[ZaG (by simpa using hi)]at h;cases h
 ·rw[Zci];have:(fun x:Rm=>x.st)∘rm0=id:=rfl;rw[this,List.map_id];exact d
 constructor
 ·intro h;obtain⟨x,g,rfl⟩:=Zaq.1 h;have a:=hf x g;refine⟨a,?_,?_⟩;·rw[ZaI];intro b;exact(Qiz.1 b).2 g
  show((List.range n).map rm0)[x]?=_;rw[ZaA,Zbu a];rfl
 rintro⟨h1,b,c⟩;rw[ZaA,Zbu h1]at c;have c:rm0 r.st=r:=by simpa using c
 refine Zaq.2 ⟨r.st,?_,c⟩;refine Classical.byContradiction fun k=>?_;have:=Qiz.2 ⟨h1,k⟩;rw[this]at b;cases b
theorem QnA{rs rr}(h:Agr n l rs rr):rs.length<=n:=by
 have:=Qa1 n (rs.map (·.st)) h.nd fun x b=>by obtain⟨r,a,rfl⟩:=Zaq.1 b;exact((h.mem r).1 a).1
 simpa using this
theorem QrV(h:xs[i]?=some x):offs l (xs.take (i+1))=(offs l (xs.take i)).set x false:=by unfold offs;rw[Za6,h,Option.toList,Zba];rfl
def dists(n:Nat)(l:LB)(d:List Int):List Int:=(kept n l).map fun i=>d.getD i 0
theorem QlJ:kept (i+1) l=kept i l++if lf l i=true then[i]else[]:=by unfold kept;rw[ZaK,Zbj];congr 1;rw[ZbT];rfl
theorem QtF{i}{l}:(kept i l).length<=i:=by unfold kept;exact ZaC (Za4 _ _) (by simp)
structure Res where
 kept:List Nat
 dist:List Int
 rem:List Rm
 rounds:Nat
 sup:Aut
 orig:List Nat
abbrev rsV(r:Res):AV:=.agg [ZN r.kept,sli r.dist,rms r.rem,.int .i64 (r.rounds:Int),ZN r.sup.al,.int .i64 (r.sup.n:Int),ZN r.sup.ms,egsN r.sup.es,ZN r.orig]
theorem Qfb(r):noRef (rsV r)=true:=by simp only[noRef,noRefs,Qaa,Qan,Qag];rfl
def pRes(a:Aut)(f u:List Nat)(all:Bool):Res:=let F:=fin a.n a.es a.ms f u all
 ⟨kept a.n F.1,dists a.n F.1 (pDist a.n a.es a.ms (lf F.1)),srtR F.2.1,F.2.2,ZR a (lf F.1),(sAll a (lf F.1)).1⟩
abbrev nine:List AV:=[.nilsl,.nilsl,.nilsl,.int .i64 0,.nilsl,.int .i64 0,.nilsl,.nilsl,.nilsl]
def rnd0(i:Nat):Nat:=if i=0 then 0 else 1
theorem Qwe(l:List Rm):(l.flatMap rmC).all AV.one=true:=by induction l with|nil=>rfl|cons x l a=>rw[Zaz,ZbR,a];rfl
theorem QqF:dists (i+1) l d=dists i l d++if lf l i=true then[d.getD i 0]else[]:=by unfold dists;rw[QlJ,ZaJ];congr 1;split<;>rfl
theorem QlK{i}{l}{d}:(dists i l d).length=(kept i l).length:=by unfold dists;simp
abbrev St4:=Nat×LB×List Rm×Nat
abbrev rkH(a:Aut)(u:List Nat)(t:St4):HL:=[(41,.cells 0 nine),(61,.cells 0 [.nilsl,.nilsl,.sl 74 0 0 t.2.2.1.length 4,.int .i64 (t.2.2.2:Int),.nilsl,.int .i64 0,.nilsl,.nilsl,.nilsl]),(70,.cells 0 (pblk a u)),(71,.map 0 (mapF .i64 (backF a.es) (keysR a.es))),(72,.cells 0 (bls t.2.1)),(74,.cells 0 (t.2.2.1.flatMap rmC))]
theorem result39(a)(f u)(all)(h:WfA a)(z:QOk a f u)(p:a.es.length<=1000000):Ps 53 [aV a,ZN f,ZN u,.bool all] (rsV (pRes a f u all)):=by
 have hn5:=h.n5;have hfl:=QbZ z.fS z.fn;have hul:=QbZ z.uS z.un;have hml:a.ms.length<=a.n:=Qa1 a.n a.ms h.nd h.msn;refine Zcu 40 (Ok s53) rfl (by(try simp only[noRefs,Qal,Qao,Qaa,Qam,Qag,Qan,Qap,Qai,noRef,Zae,Zad])<;>rfl) (Qfb _) ?_;unfold s53;refine Zc6 ?_;refine ch (ZcU (b:=70) (by(try simp only[noRefs,Qal,Qao,Qaa,Qam,Qag,Qan,Qap,Qai,noRef,Zae,Zad])<;>rfl) (start34 a f u h.esn z.fn (by omega) p (by omega)) (by repeat(first|exact Fresh.e|exact Zcw (by assumption) (by omega)|refine Zcx ?_ (by omega) (by omega))) rfl) ?_;refine Zc6 ?_;refine Qas 100 (fun i:Nat=>[(3,.bool all),(8,.ptr 41 0 0),(9,.ptr 70 0 0),(10,.ptr 61 0 0),(23,ZN f),(24,.int .i64 f.length),(25,.int .i64 i)]) (fun i=>rkH a u (2,left0 a.n f,(f.take i).map rm0,rnd0 i)) (fun i=>i<=f.length) (fun i=>f.length-i) 0 0 160 (fun _:Unit=>[(3,.bool all),(8,.ptr 41 0 0),(9,.ptr 70 0 0),(10,.ptr 61 0 0)]) (fun _=>rkH a u (2,left0 a.n f,f.map rm0,rnd0 f.length)) (fun _=>True) ?_ (Zaj _) ?_ ?_
 ·refine⟨[(41,.blk 41 0),(61,.blk 47 0),(70,.blk 70 0),(71,.blk 71 0),(72,.blk 72 0),(74,.nil)],rfl,ZcA,?_,au11⟩;repeat'(first|exact ZcD|(refine Zct ?_;first|rfl|(simp only[noRef,noRefs,Qaf,Zae,Zad,Zai,Qaa,Qam,Qag,Qan,Qap,Qay,Qai,Qah,Qab,Qar,Qaj,Qal,Qao,Qaq];done))|exact ZcR rfl|exact ZcJ|exact(True.intro:RnM _ _ _ [] [])|refine ZcK ?_ ?_|(refine Zcs ?_;first|rfl|(simp only[noRef,noRefs,Qaf,Zae,Zad,Zai,Qaa,Qam,Qag,Qan,Qap,Qay,Qai,Qah,Qab,Qar,Qaj,Qal,Qao,Qaq];done))|exact Rn.x1 rfl rfl|exact Rn.x2 rfl rfl|exact Rn.x3 rfl rfl|exact Rn.x4 rfl rfl|exact Rn.x5 rfl|exact Rn.x6 rfl|exact Rn.x7 rfl|refine ZcF rfl rfl ?_|refine ZcE rfl rfl rfl ?_ ?_|refine ZcG rfl rfl rfl ?_ ?_|refine ZcH rfl rfl ?_ ?_|refine ZcI rfl rfl ?_ ?_)
  exact ZcW fun x _=>Zcs (Qab _)
 ·rintro i hi;by_cases g:i<f.length
  ·obtain⟨x,hx⟩:=Qak g;have U:=QgT ((f.take i).map rm0);rw[Zax,Zap,Nat.min_eq_left (by omega)]at U;have htk:((f.take (i+1)).map rm0)=(f.take i).map rm0++[rm0 x]:=by rw[Za6,hx,Option.toList,ZaJ];rfl
   have M:((f.take i).map rm0).length=i:=by rw[Zax,Zap];omega
   generalize hF:(f.take i).map rm0=G at*;refine Zc7 (Zda g (QaI hx) U M) ?_;refine⟨i+1,by omega,by omega,?_⟩;rw[htk];dsimp only[rkH];rw[Zao,Zag,M];exact bNEjg
  have e:i=f.length:=by omega
  subst e;dsimp only[rkH];refine Zc7 g ?_;exact b3Xlw
 rintro _ _;have hrn0:rnd0 f.length=if f.length=0 then 0 else 1:=rfl;have X:cntL a.n (left0 a.n f)<a.n+1:=by
  have:cntL a.n (left0 a.n f)<=a.n:=by unfold cntL;exact ZaC List.countP_le_length (by simp)
  omega
 have Y:=Agr0 (n:=a.n) z.fn (by rw[ZaN];exact z.fS.imp fun h=>by omega);dsimp only[rkH];refine Zc6 ?_;refine Qas 170 (fun t:St4=>[(3,.bool all),(8,.ptr 41 0 0),(9,.ptr 70 0 0),(10,.ptr 61 0 0),(13,.int .i64 t.1)]) (rkH a u) (fun t=>t.2.1.length=a.n/\(∃rr,Agr a.n t.2.1 t.2.2.1 rr)/\t.1+cntL a.n t.2.1<=a.n+2/\∃A,cntL a.n t.2.1<A/\pRounds a.n a.es a.ms u all A t.1 t.2.1 t.2.2.1 t.2.2.2=fin a.n a.es a.ms f u all) (fun t=>cntL a.n t.2.1) (2,left0 a.n f,f.map rm0,rnd0 f.length) 2 260 (fun t:St4=>[(8,.ptr 41 0 0),(9,.ptr 70 0 0),(10,.ptr 61 0 0)]) (rkH a u) (fun t=>t.2=fin a.n a.es a.ms f u all/\t.2.1.length=a.n/\∃rr,Agr a.n t.2.1 t.2.2.1 rr) ?_ ⟨Qly,⟨_,Y⟩,by dsimp only;omega,a.n+1,X,rfl⟩ ?_ ?_
 ·dsimp only[rkH];rw[Zax];exact bQRKF
 ·rintro⟨b,l,rs,k⟩⟨o,⟨rr,hA⟩,hrk,A,hfu,n⟩;dsimp only at o hA hrk hfu n⊢;dsimp only[rkH];have hN:=next35 a u l b all h.inN h.nd o (by omega) p (by omega) (by omega);have s:=Qm9 (left:=lf l) (unc:=u) (rank:=b) (all:=all) h.inN h.nd h.srt;obtain⟨A,rfl⟩:∃m,A=m+1:=⟨A-1,by omega⟩;have I:∀r∈pNext a.n a.es a.ms (lf l) u b all,cntL a.n (offs l ((pNext a.n a.es a.ms (lf l) u b all).map (·.st)))<cntL a.n l:=fun r w=>by
   obtain⟨h1,h2⟩:=s.2 r w;refine Qpm (fun i _ hi=>?_) h1 h2 ?_;·rw[QdL]at hi;simp only[Zac]at hi;exact hi.1
   rw[QdL,Qe5 (Zaq.2 ⟨r,w,rfl⟩)];simp
  unfold pRounds at n;have hrl:=QnA hA;have R:=hA.step o s.1 s.2;generalize pNext a.n a.es a.ms (lf l) u b all=c at*;refine Zc6 ?_;refine ch (HSpec.of_F (ZcT (frzP (a:=a) (u:=u) (l:=l) gg gg gg o) (ZcT (Zcy _) (ZcT (Zcy _) ZcS))) (FSpec.QbD hN (by(try simp only[noRefs,Qal,Qao,Qaa,Qam,Qag,Qan,Qap,Qai,noRef,Zae,Zad])<;>rfl) (QuN _) (QgT _) rfl)) ?_;by_cases V:c.length=0
  ·rw[if_pos V]at n;refine Zc7 V ?_;refine⟨(b,l,rs,k),⟨n,o,rr,hA⟩,?_⟩;exact bQRKF
  rw[if_neg V]at n;have hnl:=QnA R;rw[Zag]at hnl;obtain⟨r0,hr0⟩:∃r,r∈c:=by cases c with|nil=>exact absurd rfl V|cons r _=>exact⟨r,by simp⟩
  have hd0:=I r0 hr0;have h0':¬(c.length:Int)=0:=by omega
  refine Zc7 h0' ?_;refine Qas 300 (fun j:Nat=>[(49,rms c),(50,.int .i64 c.length),(51,.int .i64 j),(3,.bool all),(8,.ptr 41 0 0),(9,.ptr 70 0 0),(10,.ptr 61 0 0),(13,.int .i64 b),(14,rms c)]) (fun j=>rkH a u (b,offs l ((c.map (·.st)).take j),rs,k)) (fun j=>j<=c.length) (fun j=>c.length-j) 0 4 400 (fun _:Unit=>[(3,.bool all),(8,.ptr 41 0 0),(9,.ptr 70 0 0),(10,.ptr 61 0 0),(13,.int .i64 b),(14,rms c)]) (fun _=>rkH a u (b,offs l (c.map (·.st)),rs,k)) (fun _=>True) ?_ (Zaj _) ?_ ?_
  ·exact bQRKF
  ·rintro j hj;dsimp only[rkH];by_cases B:j<c.length
   ·obtain⟨r,w⟩:=Qak B;have hrn:=(s.2 r (Zaa w)).1;have P:=QrV (l:=l) (xs:=c.map (·.st)) (i:=j) (x:=r.st) (by rw[ZaA,w];rfl);have hol:(offs l ((c.map (·.st)).take j)).length=a.n:=by rw[Qiy];exact o
    generalize offs l ((c.map (·.st)).take j)=L at*;have h1:r.st+1<=L.length:=by omega
    refine Zc7 (Zdb B (Qtz w) hrn h1 @Qke) ?_;refine⟨j+1,by omega,by omega,?_⟩;rw[P];exact bQRKF
   have e:j=c.length:=by omega
   have e2:(c.map (·.st)).take j=c.map (·.st):=by rw[ZaM];simp;omega
   rw[e2];refine Zc7 B ?_;exact b3Xlw
  rintro _ _;have E:=QgT rs;have hon:=Qwe c;dsimp only[rkH];refine Zc7 (Zc8 E hon) ?_;refine⟨(b+1,offs l (c.map (·.st)),rs++c,b),by dsimp only;exact hd0,⟨by dsimp only;rw[Qiy];exact o,⟨_,R⟩,by dsimp only;omega,A,by dsimp only;omega,n⟩,?_⟩;dsimp only[rkH];rw[Zao,Zag];exact bNEjg
 rintro⟨b,l,rs,k⟩⟨y,o,rr,hA⟩;dsimp only at y o hA⊢;have hrl:=QnA hA;have hpd:=QlB (left:=lf l) h.inN h.nd;have N:=super54 a u l h o p (by omega);have Z:=dist53 a u l h.inN h.nd o (by omega) p (by omega);have F:pRes a f u all=⟨kept a.n l,dists a.n l (pDist a.n a.es a.ms (lf l)),srtR rs,k,ZR a (lf l),(sAll a (lf l)).1⟩:=by unfold pRes;rw[<-y]
 rw[F];have J:=QtE rs;have hsrl:=QgT (srtR rs);generalize pDist a.n a.es a.ms (lf l)=d at*;dsimp only[rkH];refine Zc6 ?_;refine ch (sortH (l:=rs) (fun r w=>by have:=((hA.mem r).1 w).1;omega) (by omega) hA.nd gg) ?_;refine Zc6 ?_;refine ch (HSpec.of_F (ZcT (frzP (a:=a) (u:=u) (l:=l) gg gg gg o) ZcS) (FSpec.QbD Z (by(try simp only[noRefs,Qal,Qao,Qaa,Qam,Qag,Qan,Qap,Qai,noRef,Zae,Zad])<;>rfl) (QcK _) (by rw[Qc6,hpd,ZbY]) rfl)) ?_;refine Zc6 ?_;refine Qas 500 (fun i:Nat=>[(8,.ptr 41 0 0),(9,.ptr 70 0 0),(10,.ptr 61 0 0),(77,.fsl (ZI d) a.n 1),(78,.int .i64 a.n),(79,.int .i64 i)]) (fun i=>[(41,.cells 0 nine),(61,.cells 0 [.sl 76 0 0 (kept i l).length 1,.sl 77 0 0 (kept i l).length 1,.sl 74 0 0 rs.length 4,.int .i64 (k:Int),.nilsl,.int .i64 0,.nilsl,.nilsl,.nilsl]),(70,.cells 0 (pblk a u)),(71,.map 0 (mapF .i64 (backF a.es) (keysR a.es))),(72,.cells 0 (bls l)),(74,.cells 0 ((srtR rs).flatMap rmC)),(76,.cells 0 (ZI (nz (kept i l)))),(77,.cells 0 (ZI (dists i l d)))]) (fun i=>i<=a.n) (fun i=>a.n-i) 0 6 600 (fun _:Unit=>[(8,.ptr 41 0 0),(9,.ptr 70 0 0),(10,.ptr 61 0 0)]) (fun _=>[(41,.cells 0 nine),(61,.cells 0 [.sl 76 0 0 (kept a.n l).length 1,.sl 77 0 0 (kept a.n l).length 1,.sl 74 0 0 rs.length 4,.int .i64 (k:Int),.nilsl,.int .i64 0,.nilsl,.nilsl,.nilsl]),(70,.cells 0 (pblk a u)),(71,.map 0 (mapF .i64 (backF a.es) (keysR a.es))),(72,.cells 0 (bls l)),(74,.cells 0 ((srtR rs).flatMap rmC)),(76,.cells 0 (ZI (nz (kept a.n l)))),(77,.cells 0 (ZI (dists a.n l d)))]) (fun _=>True) ?_ (Zaj _) ?_ ?_
 ·refine⟨[(41,.blk 41 0),(61,.blk 61 0),(70,.blk 70 0),(71,.blk 71 0),(72,.blk 72 0),(74,.blk 74 0),(76,.nil),(77,.nil)],rfl,au0,?_,au11⟩;repeat'(first|exact ZcD|(refine Zct ?_;first|rfl|(simp only[noRef,noRefs,Qaf,Zae,Zad,Zai,Qaa,Qam,Qag,Qan,Qap,Qay,Qai,Qah,Qab,Qar,Qaj,Qal,Qao,Qaq];done))|exact ZcR rfl|exact ZcJ|exact(True.intro:RnM _ _ _ [] [])|refine ZcK ?_ ?_|(refine Zcs ?_;first|rfl|(simp only[noRef,noRefs,Qaf,Zae,Zad,Zai,Qaa,Qam,Qag,Qan,Qap,Qay,Qai,Qah,Qab,Qar,Qaj,Qal,Qao,Qaq];done))|exact Rn.x1 rfl rfl|exact Rn.x2 rfl rfl|exact Rn.x3 rfl rfl|exact Rn.x4 rfl rfl|exact Rn.x5 rfl|exact Rn.x6 rfl|exact Rn.x7 rfl|refine ZcF rfl rfl ?_|refine ZcE rfl rfl rfl ?_ ?_|refine ZcG rfl rfl rfl ?_ ?_|refine ZcH rfl rfl ?_ ?_|refine ZcI rfl rfl ?_ ?_)
  exact ZcW fun x _=>Zcs (Qab _)
 ·rintro i hi;by_cases g:i<a.n
  ·have q:=QlJ (i:=i) (l:=l);have v:=QqF (i:=i) (l:=l) (d:=d);have hkl:=@QtF i l;have C:=@QlK i l d;generalize kept i l=K at*;generalize dists i l d=D at*;have Q:i<l.length:=by omega
   have T:i<d.length:=by omega
   have H:d[i]?=some (d.getD i 0):=by rw[Zak T];simp[T]
   by_cases h1:lf l i=true
   ·rw[if_pos h1]at q v;refine Zc7 (Zdb g (Qpy Q) (QaF H) h1 C) ?_;refine⟨i+1,by omega,by omega,?_⟩;rw[q,v,Zag,QaM,QaB,QaB];refine⟨[(41,.blk 41 0),(61,.blk 61 0),(70,.blk 70 0),(71,.blk 71 0),(72,.blk 72 0),(74,.blk 74 0),(76,.blk 76 1),(77,.blk 77 1)],rfl,au0,?_,au11⟩;repeat'(first|exact ZcD|(refine Zct ?_;first|rfl|(simp only[noRef,noRefs,Qaf,Zae,Zad,Zai,Qaa,Qam,Qag,Qan,Qap,Qay,Qai,Qah,Qab,Qar,Qaj,Qal,Qao,Qaq];done))|exact ZcR rfl|exact ZcJ|exact(True.intro:RnM _ _ _ [] [])|refine ZcK ?_ ?_|(refine Zcs ?_;first|rfl|(simp only[noRef,noRefs,Qaf,Zae,Zad,Zai,Qaa,Qam,Qag,Qan,Qap,Qay,Qai,Qah,Qab,Qar,Qaj,Qal,Qao,Qaq];done))|exact Rn.x1 rfl rfl|exact Rn.x2 rfl rfl|exact Rn.x3 rfl rfl|exact Rn.x4 rfl rfl|exact Rn.x5 rfl|exact Rn.x6 rfl|exact Rn.x7 rfl|refine ZcF rfl rfl ?_|refine ZcE rfl rfl rfl ?_ ?_|refine ZcG rfl rfl rfl ?_ ?_|refine ZcH rfl rfl ?_ ?_|refine ZcI rfl rfl ?_ ?_)
    exact ZcW fun x _=>Zcs (Qab _)
   rw[if_neg h1,Zas]at q v;rw[Zam]at h1;refine Zc7 (Zda g (Qpy Q) (QaF H) h1) ?_;refine⟨i+1,by omega,by omega,?_⟩;rw[q,v];exact boS7y
  have e:i=a.n:=by omega
  subst e;refine Zc7 g ?_;refine⟨(),?_⟩;exact boS7y
 rintro _ _;have C:=@QlK a.n l d;generalize ZR a (lf l)=S at*;generalize(sAll a (lf l)).1=O at*;refine Zc6 ?_;refine ch (HSpec.of_F (ZcT (frzP (a:=a) (u:=u) (l:=l) gg gg gg o) ZcS) N) ?_;refine Zc6 ?_;refine⟨.inr trivial,_,rfl,?_⟩;refine Rn.agg (ZcK (ZcM (g:=0) rfl (by simp[ZI]) (Zct (Qaa _))) (ZcK ?_ (ZcK ?_ (ZcK (Zcs rfl) (ZcK (Zcs (Qab _)) (ZcK (Zcs rfl) (ZcK (Zcs (Qab _)) (ZcK (Zcs (Qaj _)) (ZcK (Zcs (Qab _)) ZcJ)))))))));·have :(dists a.n l d).length=(kept a.n l).length:=C;show Rn 0 π0 _ (.fsl (ZI (dists a.n l d)) (dists a.n l d).length 1) _;rw[this];exact ZcM (g:=0) rfl (by rw[Qc6,this,ZbY]) (Zct (Qaa _))
 show Rn 0 π0 _ (.fsl ((srtR rs).flatMap rmC) (srtR rs).length 4) _;rw[J];exact ZcM (g:=0) rfl (by rw[QgT,J]) (Zct (Qan _))
def mach:Aut:=⟨[0,1,2,3],3,[0],[(0,0,1),(1,1,0),(1,2,2),(2,3,0)]⟩
def mach3:Aut:=⟨[0,1,2,3],3,[0],[(0,0,1),(1,1,0),(1,2,2)]⟩
theorem q1:QOk mach [2] [1,2]:=⟨by decide,by decide,by decide,by decide⟩
theorem q2:QOk mach3 [] [1,2]:=⟨by decide,by decide,by decide,by decide⟩
theorem QuS{l:List α}{x}(b:l[i]?=some x)(hp:p x=true)(a:∀j y,j<i->l[j]?=some y->p y=false):l.find? p=some x:=by obtain⟨hi,e⟩:=Zaf.1 b;rw[List.find?_eq_some_iff_getElem];refine⟨hp,i,hi,e,fun j c=>?_⟩;have:=a j l[j] c (Zak (by omega));simp[this]
def stepI(es:List Ed)(s ev:Nat):Int:=match ZA es s ev with|some to=>(to:Int)|none=>-1
theorem step60(a)(s ev:Nat)(o:a.es.length<=1000000):Ps 59 [aV a,.int .i64 s,.int .i64 ev] (.int .i64 (stepI a.es s ev)):=by
 refine Zcv 64 (Ok s59) rfl (by(try simp only[noRefs,Qal,Qao,Qaa,Qam,Qag,Qan,Qap,Qai,noRef,Zae,Zad])<;>rfl) rfl ?_;unfold s59;refine Zc6 ?_;refine QaC 100 (fun i:Nat=>[(1,.int .i64 s),(2,.int .i64 ev),(3,.ptr 50 0 0),(7,.int .i64 i)]) (fun _=>[(50,.cells 0 [ZN a.al,.int .i64 (a.n:Int),ZN a.ms,egsN a.es])]) (fun i=>i<=a.es.length/\∀(j:Nat)y,j<i->a.es[j]?=some y->(y.1==s&&y.2.1==ev)=false) (fun i=>a.es.length-i) 0 ⟨[(50,.blk 64 0)],rfl,au0,au12,au11⟩ ⟨Zaj _,fun j y k=>absurd k (Zay _)⟩ ?_;rintro i⟨hi,l⟩;by_cases c:i<a.es.length
 ·obtain⟨e,he⟩:=Qak c;have f:(e.1==s&&e.2.1==ev)=false->i+1<=a.es.length/\∀(j:Nat)y,j<i+1->a.es[j]?=some y->(y.1==s&&y.2.1==ev)=false:=fun h=>⟨by omega,fun j y k g=>by
  by_cases q:j=i;·subst q;rw[he]at g;cases g;exact h
  exact l j y (by omega) g⟩;by_cases h1:e.1=s
  ·by_cases n:e.2.1=ev
   ·have hf:=QuS (p:=fun e:Ed=>e.1==s&&e.2.1==ev) he (by simp[h1,n]) l;have m:stepI a.es s ev=e.2.2:=by unfold stepI ZA;rw[hf];rfl
    have b:(e.1:Int)=(s:Int):=by omega
    have d:(e.2.1:Int)=(ev:Int):=by omega
    refine Zc7 (Zda c (QaR he) b d) ?_;exact⟨.inr trivial,_,rfl,by rw[m];rfl⟩
   have b:(e.1:Int)=(s:Int):=by omega
   have d:¬(e.2.1:Int)=(ev:Int):=by omega
   refine Zc7 (Zda c (QaR he) b d) ?_;exact⟨i+1,by omega,f (by simp[n]),⟨[(50,.blk 50 0)],rfl,au0,au12,au11⟩⟩
  have b:¬(e.1:Int)=(s:Int):=by omega
  refine Zc7 (Zc9 c (QaR he) b) ?_;exact⟨i+1,by omega,f (by simp[h1]),⟨[(50,.blk 50 0)],rfl,au0,au12,au11⟩⟩
 have hf:a.es.find? (fun e=>e.1==s&&e.2.1==ev)=none:=by rw[ZbX];intro y g;obtain⟨j,k,p⟩:=Qec g;rw[l j y (by omega) k];decide
 have m:stepI a.es s ev=-1:=by unfold stepI ZA;rw[hf];rfl
 refine Zc7 c ?_;exact⟨.inr trivial,_,rfl,by rw[m];rfl⟩
theorem index61(l)(n)(o:l.length<=140737488355328):Ps 250 [sli l,.int .i64 n] (.int .i64 (indexR l n)):=by
 refine Zcv 64 (Ok s250) rfl (by(try simp only[noRefs,Qal,Qao,Qaa,Qam,Qag,Qan,Qap,Qai,noRef,Zae,Zad])<;>rfl) rfl ?_;unfold s250;refine Zc6 ?_;refine QaC 100 (fun i:Nat=>[(0,sli l),(1,.int .i64 n),(5,.int .i64 i)]) (fun _=>[]) (fun i=>i<=l.length/\∀(j:Nat)y,j<i->l[j]?=some y->y≠n) (fun i=>l.length-i) 0 ⟨[],rfl,au0,au12,au11⟩ ⟨Zaj _,fun j y c=>absurd c (Zay _)⟩ ?_;rintro i⟨hi,f⟩;by_cases a:i<l.length
 ·obtain⟨x,b⟩:=Qak a;by_cases d:x=n
  ·have h1:n∈l:=d▸Zaa b;have k:l.findIdx (·==n)=i:=by rw[Zca a];refine⟨by rw[Zak a]at b;cases b;simp[d],fun j c=>?_⟩;have:=f j l[j] c (Zak (by omega));simpa using this
   refine Zc7 (Zc9 a (QaF b) d) ?_;refine⟨.inr trivial,_,rfl,?_⟩;simp only[indexR,if_pos h1,k];rfl
  refine Zc7 (Zc9 a (QaF b) d) ?_;refine⟨i+1,by omega,⟨by omega,fun j y c g=>?_⟩,⟨[],rfl,au0,au12,au11⟩⟩;by_cases e:j=i;·subst e;rw[b]at g;cases g;exact d
  exact f j y (by omega) g
 have :n∉l:=fun h=>by obtain⟨j,c,m⟩:=Qec h;exact f j n (by omega) c rfl
 refine Zc7 a ?_;exact⟨.inr trivial,_,rfl,by simp only[indexR,if_neg this];rfl⟩
theorem QnB{l}(h:x∈l):indexR (nz l) x=idx l x:=by
 have h1:(x:Int)∈nz l:=Zaq.2 ⟨x,h,rfl⟩;unfold indexR;rw[if_pos h1];unfold idx nz;rw[List.findIdx_map];congr 2;funext y;show((y:Int)==(x:Int))=(y==x);by_cases e:y=x;·subst e;simp
 have :¬(y:Int)=(x:Int):=by omega
 rw[beq_eq_false_iff_ne.2 this,beq_eq_false_iff_ne.2 e]
theorem QlL{out}{ev}(h:al[k]?=some ev):(al.take (k+1)).foldl (fEv es s) out=fEv es s ((al.take k).foldl (fEv es s) out) ev:=by rw[Za6,h,Option.toList,Zba];rfl
structure Raw(a:Aut):Prop where
 esn:∀e∈a.es,e.1<a.n/\e.2.2<a.n
 n5:a.n<=5
 el:a.es.length<=1000000
 al:a.al.length<=32
 ml:a.ms.length<=32
theorem found59(a)(h:Raw a):Ps 248 [aV a] (ZN (found a)):=by
 have M:=h.n5;have L:=h.al;refine Zcu 64 (Ok s248) rfl (by(try simp only[noRefs,Qal,Qao,Qaa,Qam,Qag,Qan,Qap,Qai,noRef,Zae,Zad])<;>rfl) (Qab _) ?_;have m:fQ a.al a.es (a.n+1) 0 (if 0<a.n then[0]else[])=found a:=rfl;by_cases K:0<a.n
 ·rw[if_pos K]at m;have z:(0:Int)<(a.n:Int):=by omega
  unfold s248;refine Zc7 (Zc9 z @QgR @Qns) ?_;refine QaC 100 (fun t:Nat×List Nat=>[(1,.ptr 50 0 0),(3,.sl 75 0 0 t.2.length 1),(4,.int .i64 t.1)]) (fun t=>[(50,.cells 0 [ZN a.al,.int .i64 (a.n:Int),ZN a.ms,egsN a.es]),(75,.cells 0 (ZI (nz t.2)))]) (fun t=>t.1<=t.2.length/\FI a.n t.2/\fQ a.al a.es (a.n+1-t.1) t.1 t.2=found a) (fun t=>a.n+1-t.1) (0,[0]) ?_ ⟨Zaj _,⟨by simp,fun x J=>by simp at J;omega⟩,by dsimp only;exact m⟩ ?_;·exact⟨[(50,.blk 64 0),(75,.blk 72 0)],rfl,au0,au12,au11⟩
  exact b8I0r
 rw[if_neg K]at m;have z:¬(0:Int)<(a.n:Int):=by omega
 unfold s248;refine Zc7 z ?_;refine QaC 100 (fun t:Nat×List Nat=>[(1,.ptr 50 0 0),(3,.sl 75 0 0 t.2.length 1),(4,.int .i64 t.1)]) (fun t=>[(50,.cells 0 [ZN a.al,.int .i64 (a.n:Int),ZN a.ms,egsN a.es]),(75,.cells 0 (ZI (nz t.2)))]) (fun t=>t.1<=t.2.length/\FI a.n t.2/\fQ a.al a.es (a.n+1-t.1) t.1 t.2=found a) (fun t=>a.n+1-t.1) (0,([]:List Nat)) ?_ ⟨Zaj _,⟨by simp,fun x J=>by cases J⟩,by dsimp only;exact m⟩ ?_;·exact⟨[(50,.blk 64 0),(75,.nil)],rfl,au0,au12,au11⟩
 exact b8I0r
theorem QnC(l):(ZI l).all AV.one=true:=by induction l with|nil=>rfl|cons x l a=>show(AV.one _&&(ZI l).all AV.one)=true;rw[a];rfl
theorem empty45(l)(b:l.length<=1000000):Ps 189 [ZN l] (.agg [ZN l,.int .i64 0,.nilsl,.nilsl]):=by refine Zcu 64 (Ok s189) rfl (by(try simp only[noRefs,Qal,Qao,Qaa,Qam,Qag,Qan,Qap,Qai,noRef,Zae,Zad])<;>rfl) (by simp only[noRef,noRefs,Qaa];rfl) ?_;have a:=QnC (nz l);unfold s189;refine Zc7 a ?_;refine⟨.inr trivial,_,rfl,?_⟩;exact Rn.agg (ZcK (ZcM (g:=1) rfl (by simp[ZI]) (Zct (Qaa _))) (Zct rfl))
theorem QlM{ev:Nat}(h:a.al[k]?=some ev):(a.al.take (k+1)).filterMap (fun ev=>(ZA a.es s ev).map fun to=>(i,ev,idx f to))=(a.al.take k).filterMap (fun ev=>(ZA a.es s ev).map fun to=>(i,ev,idx f to))++match ZA a.es s ev with|some to=>[(i,ev,idx f to)]|none=>[]:=by rw[Za6,h,Option.toList,List.filterMap_append];congr 1;cases e:ZA a.es s ev with|none=>simp[e]|some to=>simp[e]
def cPre(a:Aut)(f:List Nat)(i:Nat):List Ed:=(List.range i).flatMap fun i=>cRow a f i (f.getD i 0)
def cPart(a:Aut)(f:List Nat)(i s k:Nat):List Ed:=cPre a f i++(a.al.take k).filterMap (fun ev=>(ZA a.es s ev).map fun to=>(i,ev,idx f to))
theorem QrW(h:f[i]?=some s):cPre a f (i+1)=cPre a f i++cRow a f i s:=by
 unfold cPre;rw[ZaK,Zao];have:f.getD i 0=s:=by rw[Zah,h];rfl
 rw[Zaz,Zb6,Zas,this]
theorem QtG(a)(f)(i s):(cRow a f i s).length<=a.al.length:=by unfold cRow;exact List.length_filterMap_le _ _
theorem QiF(a)(f):∀i,(cPre a f i).length<=i*a.al.length|0=>by simp[cPre]|i+1=>by have h1:=QiF a f i;have b:=QtG a f i (f.getD i 0);unfold cPre at h1⊢;rw[ZaK,Zao,Zag,Zbn];simp only[Zaz,Zb6,Zas];omega
theorem canon46(a)(h:Raw a):Ps 190 [aV a] (aV (canon a)):=by
 have K:=h.n5;have B:=h.al;have J:=h.ml;obtain⟨f1,_,f3⟩:=QfT h.esn;have L:=f1.len;refine Zcu 64 (Ok s190) rfl (by(try simp only[noRefs,Qal,Qao,Qaa,Qam,Qag,Qan,Qap,Qai,noRef,Zae,Zad])<;>rfl) (QdP _) ?_;have N:=found59 a h;have x:canon a=⟨a.al,(found a).length,mks a (found a).length (found a),cPre a (found a) (found a).length⟩:=rfl;rw[x];generalize found a=f at*;unfold s190;refine Zc6 ?_;refine cp N ?_;refine Zc6 ?_;refine cp (empty45 a.al (by omega)) ?_;refine Zc6 ?_;refine Qas 100 (fun i:Nat=>[(1,.ptr 50 0 0),(2,.ptr 51 0 0),(3,ZN f),(4,.ptr 52 0 0),(5,.int .i64 i)]) (fun i=>[(50,.cells 0 [ZN a.al,.int .i64 (a.n:Int),ZN a.ms,egsN a.es]),(51,.cells 0 [.nilsl,.int .i64 0,.nilsl,.nilsl]),(52,.cells 0 [ZN a.al,.int .i64 f.length,.sl 77 0 0 (mks a i f).length 1,.sl 76 0 0 (cPre a f i).length 3]),(76,.cells 0 ((cPre a f i).flatMap edC)),(77,.cells 0 (ZI (nz (mks a i f))))]) (fun i=>i<=f.length) (fun i=>f.length-i) 0 0 160 (fun _:Unit=>[(2,.ptr 51 0 0),(4,.ptr 52 0 0)]) (fun _=>[(51,.cells 0 [.nilsl,.int .i64 0,.nilsl,.nilsl]),(52,.cells 0 [ZN a.al,.int .i64 f.length,.sl 77 0 0 (mks a f.length f).length 1,.sl 76 0 0 (cPre a f f.length).length 3]),(76,.cells 0 ((cPre a f f.length).flatMap edC)),(77,.cells 0 (ZI (nz (mks a f.length f))))]) (fun _=>True) ?_ (Zaj _) ?_ ?_;·exact⟨[(50,.blk 64 0),(51,.blk 65 0),(52,.blk 72 0),(76,.nil),(77,.nil)],rfl,au0,au12,au11⟩
 ·rintro i hi;by_cases o:i<f.length
  ·obtain⟨s,v⟩:=Qak o;have z:=Zaa v;have t:=QfZ (a:=a) v;have I:=@Qfy a i f;have E:=QiF a f i;have H:(cPre a f i).length<=1000:=ZaC E (ZaC (Nat.mul_le_mul (show i<=5 by omega) B) (by decide));have C:=QrW (a:=a) v;have G:=QbH (cPre a f i);have A:=has36 (nz a.ms) s (by simp;omega);rw[QeU,QbE]at A;have n:cPart a f i s 0=cPre a f i:=by simp[cPart]
   have m:cPart a f i s a.al.length=cPre a f (i+1):=by rw[C];unfold cPart cRow;rw[Zan]
   generalize y:mks a (i+1) f=M1 at*;generalize O:mks a i f=M at*;by_cases p:a.ms.contains s=true
   ·rw[if_pos p]at t;rw[p]at A;refine Zc7 (Zc8 o (QaI v)) ?_;refine ch (ZcQ (Zcz _) A rfl) ?_;refine Zc6 ?_;refine Qas 300 (fun k:Nat=>[(1,.ptr 50 0 0),(2,.ptr 51 0 0),(3,ZN f),(4,.ptr 52 0 0),(5,.int .i64 i),(6,.int .i64 k)]) (fun k=>[(50,.cells 0 [ZN a.al,.int .i64 (a.n:Int),ZN a.ms,egsN a.es]),(51,.cells 0 [.nilsl,.int .i64 0,.nilsl,.nilsl]),(52,.cells 0 [ZN a.al,.int .i64 f.length,.sl 77 0 0 M1.length 1,.sl 76 0 0 (cPart a f i s k).length 3]),(76,.cells 0 ((cPart a f i s k).flatMap edC)),(77,.cells 0 (ZI (nz M1)))]) (fun k=>k<=a.al.length) (fun k=>a.al.length-k) 0 2 400 (fun _:Unit=>[(1,.ptr 50 0 0),(2,.ptr 51 0 0),(3,ZN f),(4,.ptr 52 0 0),(5,.int .i64 i)]) (fun _=>[(50,.cells 0 [ZN a.al,.int .i64 (a.n:Int),ZN a.ms,egsN a.es]),(51,.cells 0 [.nilsl,.int .i64 0,.nilsl,.nilsl]),(52,.cells 0 [ZN a.al,.int .i64 f.length,.sl 77 0 0 M1.length 1,.sl 76 0 0 (cPre a f (i+1)).length 3]),(76,.cells 0 ((cPre a f (i+1)).flatMap edC)),(77,.cells 0 (ZI (nz M1)))]) (fun _=>True) ?_ (Zaj _) ?_ ?_;·rw[n,t,Zag,QaM,QaB];exact⟨[(50,.blk 50 0),(51,.blk 51 0),(52,.blk 52 0),(76,.blk 76 0),(77,.blk 77 1)],rfl,au0,au12,au11⟩
    ·exact bIDW4
    exact bPXa0
   rw[if_neg p,Zas]at t;rw[Zam]at p;rw[p]at A;refine Zc7 (Zc8 o (QaI v)) ?_;refine ch (ZcQ (Zcz _) A rfl) ?_;refine Zc6 ?_;refine Qas 300 (fun k:Nat=>[(1,.ptr 50 0 0),(2,.ptr 51 0 0),(3,ZN f),(4,.ptr 52 0 0),(5,.int .i64 i),(6,.int .i64 k)]) (fun k=>[(50,.cells 0 [ZN a.al,.int .i64 (a.n:Int),ZN a.ms,egsN a.es]),(51,.cells 0 [.nilsl,.int .i64 0,.nilsl,.nilsl]),(52,.cells 0 [ZN a.al,.int .i64 f.length,.sl 77 0 0 M1.length 1,.sl 76 0 0 (cPart a f i s k).length 3]),(76,.cells 0 ((cPart a f i s k).flatMap edC)),(77,.cells 0 (ZI (nz M1)))]) (fun k=>k<=a.al.length) (fun k=>a.al.length-k) 0 2 400 (fun _:Unit=>[(1,.ptr 50 0 0),(2,.ptr 51 0 0),(3,ZN f),(4,.ptr 52 0 0),(5,.int .i64 i)]) (fun _=>[(50,.cells 0 [ZN a.al,.int .i64 (a.n:Int),ZN a.ms,egsN a.es]),(51,.cells 0 [.nilsl,.int .i64 0,.nilsl,.nilsl]),(52,.cells 0 [ZN a.al,.int .i64 f.length,.sl 77 0 0 M1.length 1,.sl 76 0 0 (cPre a f (i+1)).length 3]),(76,.cells 0 ((cPre a f (i+1)).flatMap edC)),(77,.cells 0 (ZI (nz M1)))]) (fun _=>True) ?_ (Zaj _) ?_ ?_;·rw[n,t];exact⟨[(50,.blk 50 0),(51,.blk 51 0),(52,.blk 52 0),(76,.blk 76 0),(77,.blk 77 0)],rfl,au0,au12,au11⟩
   ·exact bIDW4
   exact bPXa0
  have e:i=f.length:=by omega
  subst e;refine Zc7 o ?_;refine⟨(),?_⟩;exact⟨[(51,.blk 51 0),(52,.blk 52 0),(76,.blk 76 0),(77,.blk 77 0)],rfl,au0,au12,au11⟩
 rintro _ _;refine Zc6 ?_;refine⟨.inr trivial,_,rfl,?_⟩;exact Rn.agg (ZcK (Zcs (Qab _)) (ZcK (Zcs rfl) (ZcK (ZcM (g:=0) rfl (by simp[ZI]) (Zct (Qaa _))) (ZcK (ZcM (g:=0) rfl (QbH _) (Zct (Qag _))) ZcJ))))
def u8s(l:List Nat):List AV:=l.map fun x:Nat=>.int .u8 (x:Int)
theorem QaQ(l):noRefs (u8s l)=true:=Qd5 (fun _=>rfl) l
theorem QgX{l}(h:l[i]?=some x):(u8s l)[i]?=some (.int .u8 (x:Int)):=by simp[u8s,h]
theorem QlN{k}{y:Nat}(b:0<y):aBin .rem (.int k (x:Int)) (.int k (y:Int))=some (.int k ((x%y:Nat):Int)):=by
 have a:¬(y:Int)=0:=by omega
 simp only[aBin,if_true,if_neg a];rw[Zbl (ZaV _)];norm_cast
def gEd(al:List Nat)(n:Nat)(T:List Nat)(i k:Nat):Option Ed:=if T.getD (i*5+k) 0%(n+2)<n then some (i,al.getD k 0,T.getD (i*5+k) 0%(n+2))else none
def gRow(al:List Nat)(n:Nat)(T:List Nat)(i k:Nat):List Ed:=(List.range k).filterMap (gEd al n T i)
def gPre(al:List Nat)(n:Nat)(T:List Nat)(i:Nat):List Ed:=(List.range i).flatMap fun i=>gRow al n T i al.length
def gPart(al:List Nat)(n:Nat)(T:List Nat)(i k:Nat):List Ed:=gPre al n T i++gRow al n T i k
def gRaw(al:List Nat)(st mk:Nat)(T:List Nat):Aut:=if 250<=st then⟨al,0,[],[]⟩else⟨al,1+st%5,SD.part (1+st%5) mk,gPre al (1+st%5) T (1+st%5)⟩
theorem QtH{e}(h:e∈gRow al n T i k):e.1=i/\e.2.2<n:=by
 unfold gRow at h;obtain⟨j,_,a⟩:=ZbW.1 h;unfold gEd at a;split at a;·rename_i h1;cases a;exact⟨rfl,h1⟩
 cases a
theorem QlO:gRow al n T i (k+1)=gRow al n T i k++match gEd al n T i k with|some e=>[e]|none=>[]:=by unfold gRow;rw[ZaK,List.filterMap_append];congr 1;cases e:gEd al n T i k<;>simp[e]
theorem QiG{al}{n}{T}{i k}:(gRow al n T i k).length<=k:=by unfold gRow;exact ZaC (List.length_filterMap_le _ _) (by simp)
theorem QiH{al}{n}{T}(a:al.length<=5):∀i,(gPre al n T i).length<=i*5|0=>by simp[gPre]|i+1=>by have h1:=QiH (n:=n) (T:=T) a i;have b:=@QiG al n T i al.length;unfold gPre at h1⊢;rw[ZaK,Zao,Zag,Zbn,Zaz,Zb6,Zas];omega
theorem QrX:gPre al n T (i+1)=gPart al n T i al.length:=by unfold gPart gPre;rw[ZaK,Zao,Zaz,Zb6,Zas]
theorem Qf0(a:al.length<=5):Raw (gRaw al st mk T):=by
 unfold gRaw;split;·exact⟨by simp,by simp,by simp,by dsimp only;omega,by simp⟩
 have b:1+st%5<=5:=by omega
 refine⟨fun e he=>?_,b,?_,by dsimp only;omega,?_⟩;·unfold gPre at he;obtain⟨i,hi,he⟩:=Zby.1 he;have:=Zau.1 hi;obtain⟨h1,c⟩:=QtH he;exact⟨by rw[h1];exact this,c⟩
 ·have :=QiH (n:=1+st%5) (T:=T) a (1+st%5);dsimp only;omega
 have :=@QdQ (1+st%5) mk;dsimp only;omega
def mkA(al:List Nat)(st mk:Nat)(T:List Nat):Aut:=canon (gRaw al st mk T)
theorem Qwf(f:al.Pairwise (·<·))(b:∀x∈al,x<5):WfA (mkA al st mk T):=by
 have a:al.length<=5:=QbZ f b;have c:=Qf0 (st:=st) (mk:=mk) (T:=T) a;have d:(gRaw al st mk T).al=al:=by unfold gRaw;split<;>rfl
 exact Qts (by rw[d];exact f) (by rw[d];exact fun x g=>by have:=b x g;omega) (by have:=c.n5;omega) c.esn
abbrev grV(st mk:Nat)(T:List Nat):AV:=.agg (.int .u8 (st:Int)::.int .u8 (mk:Int)::u8s T)
theorem _root_.Go.AM.au13{p:Prop}(h:p:=by repeat'(first|exact ZcD|(refine Zct ?_;first|rfl|(simp only[noRef,noRefs,SD.Qaa,SD.Qab,SD.Qaf,SD.Qag,SD.Qah,SD.Qai,SD.Qaj,SD.Qam,SD.Qan,SD.Qar,SE.QaQ,SE.Qal,SE.Qao,SE.Qap,SE.Qaq,SE.Qay,SO.QaD,SO.QaP,SO.Qaz,Zad,Zae,Zai];done))|exact ZcR rfl|exact ZcJ|exact(True.intro:RnM _ _ _ [] [])|refine ZcK ?_ ?_|(refine Zcs ?_;first|rfl|(simp only[noRef,noRefs,SD.Qaa,SD.Qab,SD.Qaf,SD.Qag,SD.Qah,SD.Qai,SD.Qaj,SD.Qam,SD.Qan,SD.Qar,SE.QaQ,SE.Qal,SE.Qao,SE.Qap,SE.Qaq,SE.Qay,SO.QaD,SO.QaP,SO.Qaz,Zad,Zae,Zai];done))|exact Rn.x1 rfl rfl|exact Rn.x2 rfl rfl|exact Rn.x3 rfl rfl|exact Rn.x4 rfl rfl|exact Rn.x5 rfl|exact Rn.x6 rfl|exact Rn.x7 rfl|refine ZcF rfl rfl ?_|refine ZcE rfl rfl rfl ?_ ?_|refine ZcG rfl rfl rfl ?_ ?_|refine ZcH rfl rfl ?_ ?_|refine ZcI rfl rfl ?_ ?_)):p:=h
theorem _root_.Go.AM.au14{p:Prop}(h:p:=by repeat(first|exact ZcB|(refine ZcC ?_ ?_;·(first|exact Zcr|exact Rn.x1 rfl rfl|exact Rn.x2 rfl rfl|exact Rn.x3 rfl rfl|exact Rn.x4 rfl rfl|exact Rn.x5 rfl|exact Rn.x6 rfl|exact Rn.x7 rfl|(refine ZcN ?_ ?_;(first|rfl|(rw[ZaF];rfl));(first|rfl|(simp only[noRef,noRefs,SD.Qaa,SD.Qab,SD.Qaf,SD.Qag,SD.Qah,SD.Qai,SD.Qaj,SD.Qam,SD.Qan,SD.Qar,SE.QaQ,SE.Qal,SE.Qao,SE.Qap,SE.Qaq,SE.Qay,SO.QaD,SO.QaP,SO.Qaz,Zad,Zae,Zai];done)))|(refine Rn.fn ?_ ?_<;>(repeat'(first|exact ZcJ|refine ZcK ?_ ?_|exact Zcs rfl|exact Rn.x6 rfl|exact Rn.x2 rfl rfl|exact Rn.x5 rfl|exact Rn.x1 rfl rfl))))))):p:=h
theorem Make32(al)(st mk)(T)(hs:al.Pairwise (·<·))(Z:∀x∈al,x<5)(t:st<256)(X:mk<256)(hT:T.length=25)(A:∀x∈T,x<256):Ps 150 [ZN al,grV st mk T] (aV (mkA al st mk T)):=by
 have E:al.length<=5:=QbZ hs Z;have V:(u8s T).length=25:=by simp[u8s,hT]
 have h:=canon46 (gRaw al st mk T) (Qf0 E);refine Zcu 40 (Ok s150) rfl (by(try simp only[noRefs,QaQ,Qal,Qao,Qaa,Qam,Qag,Qan,Qap,Qai,noRef,Zae,Zad])<;>rfl) (QdP _) ?_;unfold mkA;by_cases S:250<=st
 ·have w:(250:Int)<=(st:Int):=by omega
  have I:gRaw al st mk T=⟨al,0,[],[]⟩:=if_pos S;have hc:canon (gRaw al st mk T)=⟨al,0,[],[]⟩:=by rw[I];rfl
  rw[hc];unfold s150;refine Zc7 w ?_;refine cp (empty45 al (by omega)) ?_;refine Zc6 ?_;refine⟨.inr trivial,_,rfl,?_⟩;exact Rn.agg (ZcK (Zcs (Qab _)) (ZcK (Zcs rfl) (ZcK Rn.nilK (ZcK Rn.nilK ZcJ))))
 have w:¬(250:Int)<=(st:Int):=by omega
 have I:gRaw al st mk T=⟨al,1+st%5,SD.part (1+st%5) mk,gPre al (1+st%5) T (1+st%5)⟩:=if_neg S;rw[I]at h⊢;have O:1+st%5<=5:=by omega
 obtain⟨n,Y⟩:∃n,n=1+st%5:=⟨_,rfl⟩;rw[<-Y]at I h O⊢;have K:(1:Int)+((st%5:Nat):Int)=(n:Int):=by omega
 unfold s150;refine Zc7 w ?_;refine cp (empty45 al (by omega)) ?_;have N:(st:Int).tmod 5=((st%5:Nat):Int):=by rw[Zbl (ZaV _)];norm_cast
 refine Zc7 (Zc8 N K) ?_;refine Qas 100 (fun i:Nat=>[(0,ZN al),(3,.ptr 50 0 0),(4,.ptr 51 0 0),(5,.ptr 52 0 0),(6,.int .i64 i)]) (fun i=>[(50,.cells 0 (.int .u8 (st:Int)::.int .u8 (mk:Int)::u8s T)),(51,.cells 0 [.nilsl,.int .i64 0,.nilsl,.nilsl]),(52,.cells 0 [ZN al,.int .i64 (n:Int),.sl 77 0 0 (SD.part i mk).length 1,.sl 76 0 0 (gPre al n T i).length 3]),(76,.cells 0 ((gPre al n T i).flatMap edC)),(77,.cells 0 (ZI (nz (SD.part i mk))))]) (fun i=>i<=n) (fun i=>n-i) 0 0 160 (fun _:Unit=>[(4,.ptr 51 0 0),(5,.ptr 52 0 0)]) (fun _=>[(51,.cells 0 [.nilsl,.int .i64 0,.nilsl,.nilsl]),(52,.cells 0 [ZN al,.int .i64 (n:Int),ZN (SD.part n mk),egsN (gPre al n T n)])]) (fun _=>True) ?_ (Zaj _) ?_ ?_;·exact⟨[(50,.blk 40 0),(51,.blk 41 0),(52,.blk 47 0),(76,.nil),(77,.nil)],rfl,au0,au13,au14⟩
 ·rintro i hi;by_cases z:i<n
  ·have s:=Qed (n:=n) (b:=mk) (i:=i);have hpl:=@QdQ i mk;have hgl:=QiH (n:=n) (T:=T) E i;have B:gPart al n T i 0=gPre al n T i:=by simp[gPart,gRow]
   have H:=QrX (al:=al) (n:=n) (T:=T) (i:=i);have U:=QbH (gPre al n T i);generalize G:SD.part (i+1) mk=M1 at*;generalize hM:SD.part i mk=M at*;by_cases q:mk.testBit i=true
   ·rw[if_pos q]at s;have J:=Qeu.2 q;simp(disch:=first|omega|(simp only[lenW]<;>omega))only[z,Qdf (k:=.u8) (show i<=8 by omega),Qdg,J,wW,wV,simprocAttr];refine Qas 300 (fun k:Nat=>[(0,ZN al),(3,.ptr 50 0 0),(4,.ptr 51 0 0),(5,.ptr 52 0 0),(6,.int .i64 i),(7,.int .i64 k)]) (fun k=>[(50,.cells 0 (.int .u8 (st:Int)::.int .u8 (mk:Int)::u8s T)),(51,.cells 0 [.nilsl,.int .i64 0,.nilsl,.nilsl]),(52,.cells 0 [ZN al,.int .i64 (n:Int),.sl 77 0 0 M1.length 1,.sl 76 0 0 (gPart al n T i k).length 3]),(76,.cells 0 ((gPart al n T i k).flatMap edC)),(77,.cells 0 (ZI (nz M1)))]) (fun k=>k<=al.length) (fun k=>al.length-k) 0 2 400 (fun _:Unit=>[(0,ZN al),(3,.ptr 50 0 0),(4,.ptr 51 0 0),(5,.ptr 52 0 0),(6,.int .i64 i)]) (fun _=>[(50,.cells 0 (.int .u8 (st:Int)::.int .u8 (mk:Int)::u8s T)),(51,.cells 0 [.nilsl,.int .i64 0,.nilsl,.nilsl]),(52,.cells 0 [ZN al,.int .i64 (n:Int),.sl 77 0 0 M1.length 1,.sl 76 0 0 (gPre al n T (i+1)).length 3]),(76,.cells 0 ((gPre al n T (i+1)).flatMap edC)),(77,.cells 0 (ZI (nz M1)))]) (fun _=>True) ?_ (Zaj _) ?_ ?_;·rw[B,s,Zag,QaM,QaB];exact⟨[(50,.blk 50 0),(51,.blk 51 0),(52,.blk 52 0),(76,.blk 76 0),(77,.blk 77 1)],rfl,au0,au13,au14⟩
    ·exact bBKVo
    exact btGvW
   rw[if_neg q,Zas]at s;have J:¬((mk/2^i%2:Nat):Int)=1:=fun e=>q (Qeu.1 e);simp(disch:=first|omega|(simp only[lenW]<;>omega))only[z,Qdf (k:=.u8) (show i<=8 by omega),Qdg,J,wW,wV,simprocAttr];refine Qas 300 (fun k:Nat=>[(0,ZN al),(3,.ptr 50 0 0),(4,.ptr 51 0 0),(5,.ptr 52 0 0),(6,.int .i64 i),(7,.int .i64 k)]) (fun k=>[(50,.cells 0 (.int .u8 (st:Int)::.int .u8 (mk:Int)::u8s T)),(51,.cells 0 [.nilsl,.int .i64 0,.nilsl,.nilsl]),(52,.cells 0 [ZN al,.int .i64 (n:Int),.sl 77 0 0 M1.length 1,.sl 76 0 0 (gPart al n T i k).length 3]),(76,.cells 0 ((gPart al n T i k).flatMap edC)),(77,.cells 0 (ZI (nz M1)))]) (fun k=>k<=al.length) (fun k=>al.length-k) 0 2 400 (fun _:Unit=>[(0,ZN al),(3,.ptr 50 0 0),(4,.ptr 51 0 0),(5,.ptr 52 0 0),(6,.int .i64 i)]) (fun _=>[(50,.cells 0 (.int .u8 (st:Int)::.int .u8 (mk:Int)::u8s T)),(51,.cells 0 [.nilsl,.int .i64 0,.nilsl,.nilsl]),(52,.cells 0 [ZN al,.int .i64 (n:Int),.sl 77 0 0 M1.length 1,.sl 76 0 0 (gPre al n T (i+1)).length 3]),(76,.cells 0 ((gPre al n T (i+1)).flatMap edC)),(77,.cells 0 (ZI (nz M1)))]) (fun _=>True) ?_ (Zaj _) ?_ ?_;·rw[B,s];exact⟨[(50,.blk 50 0),(51,.blk 51 0),(52,.blk 52 0),(76,.blk 76 0),(77,.blk 77 0)],rfl,au0,au13,au14⟩
   ·exact bBKVo
   exact btGvW
  have e:i=n:=by omega
  subst e;refine Zc7 z ?_;refine⟨(),[(51,.blk 51 0),(52,.blk 52 0)],rfl,ZcA,?_,au14⟩;refine ZcE rfl rfl rfl (Zct rfl) (ZcE rfl rfl rfl (ZcK (Zcs (Qab _)) (ZcK (Zcs rfl) (ZcK (ZcL rfl rfl rfl rfl (by simp[ZI]) (Zct (Qaa _))) (ZcK (ZcL rfl rfl rfl rfl (QbH _) (Zct (Qag _))) ZcJ)))) ZcD)
 rintro _ _;refine Zc6 ?_;refine cp h ?_;generalize canon ⟨al,n,SD.part n mk,gPre al n T n⟩=C at*;refine Zc6 ?_;exact⟨.inr trivial,_,rfl,Zcs (QdP _)⟩
end Go.AM.SE
namespace Go.AM.SO
open Go.Proofs Go.AM.SD Go.AM.SE
variable{A B1:List Nat}{a b:Nat}
def mrg(k:Bool->Bool->Bool):List Nat->List Nat->List Nat|[],[]=>[]|a::A,[]=>(if k true false=true then[a]else[])++mrg k A []|[],b::B=>(if k false true=true then[b]else[])++mrg k [] B|a::A,b::B=>if a<b then(if k true false=true then[a]else[])++mrg k A (b::B)else if b<a then(if k false true=true then[b]else[])++mrg k (a::A) B else(if k true true=true then[a]else[])++mrg k A B termination_by A B=>A.length+B.length
theorem Qb8{k}{x}:∀{A B:List Nat},A.Pairwise (·<·)->B.Pairwise (·<·)->(x∈mrg k A B↔k (decide (x∈A)) (decide (x∈B))=true/\(x∈A\/x∈B))
 |[],[],_,_=>by simp[mrg]|a::A,[],hA,c=>by have d:=Qb8 (k:=k) (x:=x) (ZaB.1 hA).2 c;grind[mrg]|[],b::B,hA,c=>by have d:=Qb8 (k:=k) (x:=x) hA (ZaB.1 c).2;grind[mrg]|a::A,b::B,hA,c=>by
  have h:=(ZaB.1 hA).1;have f:=(ZaB.1 c).1;rw[mrg];by_cases h1:a<b;·have d:=Qb8 (k:=k) (x:=x) (ZaB.1 hA).2 c;grind
  rw[if_neg h1];by_cases i:b<a;·have d:=Qb8 (k:=k) (x:=x) hA (ZaB.1 c).2;grind
  have g:a=b:=by omega
  subst g;have d:=Qb8 (k:=k) (x:=x) (ZaB.1 hA).2 (ZaB.1 c).2;grind termination_by A B=>A.length+B.length
theorem QcV{k}:∀{A B:List Nat},A.Pairwise (·<·)->B.Pairwise (·<·)->(mrg k A B).Pairwise (·<·)
 |[],[],_,_=>by simp[mrg]|a::A,[],hA,c=>by have h:=QcV (k:=k) (ZaB.1 hA).2 c;grind[ZaB,mrg,Qb8]|[],b::B,hA,c=>by have h:=QcV (k:=k) hA (ZaB.1 c).2;grind[ZaB,mrg,Qb8]|a::A,b::B,hA,c=>by
  have l:=(ZaB.1 hA).1;have i:=(ZaB.1 c).1;rw[mrg];split
  ·rename_i h1;rw[Zbg];refine⟨by split<;>simp,QcV (ZaB.1 hA).2 c,fun x d y f=>?_⟩;have d:x=a:=by simp_all
   have:=(Qb8 (ZaB.1 hA).2 c).1 f;grind
  rename_i h1;split
  ·rename_i g;rw[Zbg];refine⟨by split<;>simp,QcV hA (ZaB.1 c).2,fun x d y f=>?_⟩;have d:x=b:=by simp_all
   have:=(Qb8 hA (ZaB.1 c).2).1 f;grind
  rename_i g;have m:a=b:=by omega
  subst m;rw[Zbg];refine⟨by split<;>simp,QcV (ZaB.1 hA).2 (ZaB.1 c).2,fun x d y f=>?_⟩;grind[Qb8]termination_by A B=>A.length+B.length
theorem iaddr0:aIAddr none 1 (ZN (a::A)) (.int .i64 0)=some (.fptr (ZI (nz (a::A)))):=by simp[aIAddr]
theorem head0:(ZI (nz (a::A))).head?=some (.int .i64 (a:Int)):=rfl
theorem tk1:List.take (B1.length+1-1) (List.drop 1 (ZI (nz (b::B1))))=ZI (nz B1):=by simp only[ZI,nz,ZaL,Zbp,Za5];exact ZaM (by simp)
theorem tk2:List.take B1.length (List.drop 1 (ZI (nz (b::B1))))=ZI (nz B1):=by simp only[ZI,nz,ZaL,Zbp,Za5];exact ZaM (by simp)
theorem union169(a b):Ps 195 [.bool a,.bool b] (.bool (a||b)):=by
 refine Zcv 64 (Ok s195) rfl rfl rfl ?_;cases a;·unfold s195;refine ZcY ?_;exact⟨.inr trivial,_,rfl,by simp[resOf,Qbb]⟩
 unfold s195;refine ZcY ?_;exact⟨.inr trivial,_,rfl,by simp[resOf,Qbb]⟩
theorem minus242(a b):Ps 277 [.bool a,.bool b] (.bool (a&&!b)):=by
 refine Zcv 64 (Ok s277) rfl rfl rfl ?_;cases a;·unfold s277;refine ZcY ?_;exact⟨.inr trivial,_,rfl,by simp[resOf,Qbb]⟩
 unfold s277;refine ZcY ?_;exact⟨.inr trivial,_,rfl,by simp[resOf,Qbb]⟩
theorem merge168(K)(k:Bool->Bool->Bool)(hk:∀a b,Ps K [.bool a,.bool b] (.bool (k a b)))(A B)(hA:A.length<=1000000)(p:B.length<=1000000):Ps 194 [ZN A,ZN B,.fn K [] []] (ZN (mrg k A B)):=by
 refine Zcu 64 (Ok s194) rfl (by(try simp only[noRefs,Qaa,Qam,Qag,Qan,Qai,noRef,Zae,Zad])<;>rfl) (Qab _) ?_;unfold s194;refine ZcY ?_;refine QaC 120 (fun t:List Nat×List Nat×List Nat=>[(0,ZN t.1),(1,ZN t.2.1),(2,.fn K [] []),(7,.sl 50 0 0 t.2.2.length 1)]) (fun t=>[(50,.cells 0 (ZI (nz t.2.2)))]) (fun t=>mrg k A B=t.2.2++mrg k t.1 t.2.1/\t.1.length+t.2.1.length+t.2.2.length<=2000000) (fun t=>t.1.length+t.2.1.length) (A,B,[]) ⟨[(50,.nil)],rfl,au0,au1,au2⟩ ⟨by simp,by simp;omega⟩ ?_;rintro⟨A',B',out⟩⟨hm,g⟩;dsimp only at hm g;rcases A' with _|⟨a,A1⟩<;>rcases B' with _|⟨b,B1⟩;·simp(disch:=first|omega|(simp only[lenW]<;>omega))only[Zbd,List.map_nil,wV,simprocAttr];refine⟨.inr trivial,_,rfl,?_⟩;rw[hm,mrg,Zas];exact ZcM rfl (by simp[ZI]) (Zct (Qaa _))
 ·have h1:(0:Int)<(B1.length:Int)+1:=by omega
  have f:¬(B1.length:Int)+1=0:=by omega
  simp only[Zbd,ZaD]at g;refine ZcZ (Zdf @Zbd @ZaD h1 f @iaddr0 @tk1 @tk2 @head0 @ZbU) ?_;refine cp (hk false true) ?_;rw[mrg]at hm;cases c:k false true;·refine ZcY ?_;rw[if_neg (by simp[c]),ZaT]at hm;exact⟨(([]:List Nat),(B1:List Nat),out),by simp<;>omega,⟨hm,by simp;omega⟩,⟨[(50,.blk 50 0)],rfl,au0,au1,au2⟩⟩
  refine ZcY ?_;rw[if_pos c,<-ZaQ]at hm;refine⟨(([]:List Nat),(B1:List Nat),out++[b]),by simp<;>omega,⟨hm,by simp;omega⟩,?_⟩;rw[QaM,QaB,Zag];exact⟨[(50,.blk 50 1)],rfl,au0,au1,au2⟩
 ·have h1:(0:Int)<(A1.length:Int)+1:=by omega
  have f:¬(A1.length:Int)+1=0:=by omega
  simp only[Zbd,ZaD]at g;refine ZcZ (Zdf @Zbd @ZaD h1 f @iaddr0 @tk1 @tk2 @head0 @ZbU) ?_;refine cp (hk true false) ?_;rw[mrg]at hm;cases c:k true false;·refine ZcY ?_;rw[if_neg (by simp[c]),ZaT]at hm;exact⟨((A1:List Nat),([]:List Nat),out),by simp<;>omega,⟨hm,by simp;omega⟩,⟨[(50,.blk 50 0)],rfl,au0,au1,au2⟩⟩
  refine ZcY ?_;rw[if_pos c,<-ZaQ]at hm;refine⟨((A1:List Nat),([]:List Nat),out++[a]),by simp<;>omega,⟨hm,by simp;omega⟩,?_⟩;rw[QaM,QaB,Zag];exact⟨[(50,.blk 50 1)],rfl,au0,au1,au2⟩
 have h1:(0:Int)<(A1.length:Int)+1:=by omega
 have f:¬(A1.length:Int)+1=0:=by omega
 have n:(0:Int)<(B1.length:Int)+1:=by omega
 have l:¬(B1.length:Int)+1=0:=by omega
 by_cases d:a<b
 ·have i:(a:Int)<=(b:Int):=by omega
  have m:¬(b:Int)<=(a:Int):=by omega
  simp only[Zbd,ZaD]at g;refine ZcZ (Zdj @Zbd @ZaD h1 f n l i m @iaddr0 @tk1 @tk2 @head0 @ZbU) ?_;refine cp (hk true false) ?_;rw[mrg,if_pos d]at hm;cases c:k true false;·refine ZcY ?_;rw[if_neg (by simp[c]),ZaT]at hm;exact⟨((A1:List Nat),(b::B1:List Nat),out),by simp<;>omega,⟨hm,by simp;omega⟩,⟨[(50,.blk 50 0)],rfl,au0,au1,au2⟩⟩
  refine ZcY ?_;rw[if_pos c,<-ZaQ]at hm;refine⟨((A1:List Nat),(b::B1:List Nat),out++[a]),by simp<;>omega,⟨hm,by simp;omega⟩,?_⟩;rw[QaM,QaB,Zag];exact⟨[(50,.blk 50 1)],rfl,au0,au1,au2⟩
 by_cases h:b<a
 ·have i:¬(a:Int)<=(b:Int):=by omega
  have m:(b:Int)<=(a:Int):=by omega
  simp only[Zbd,ZaD]at g;refine ZcZ (Zdj @Zbd @ZaD h1 f n l i m @iaddr0 @tk1 @tk2 @head0 @ZbU) ?_;refine cp (hk false true) ?_;rw[mrg,if_neg d,if_pos h]at hm;cases c:k false true;·refine ZcY ?_;rw[if_neg (by simp[c]),ZaT]at hm;exact⟨((a::A1:List Nat),(B1:List Nat),out),by simp<;>omega,⟨hm,by simp;omega⟩,⟨[(50,.blk 50 0)],rfl,au0,au1,au2⟩⟩
  refine ZcY ?_;rw[if_pos c,<-ZaQ]at hm;refine⟨((a::A1:List Nat),(B1:List Nat),out++[b]),by simp<;>omega,⟨hm,by simp;omega⟩,?_⟩;rw[QaM,QaB,Zag];exact⟨[(50,.blk 50 1)],rfl,au0,au1,au2⟩
 have o:a=b:=by omega
 subst o;have i:(a:Int)<=(a:Int):=by omega
 simp only[Zbd,ZaD]at g;refine ZcZ (Zdi @Zbd @ZaD h1 f n l i @iaddr0 @tk1 @tk2 @head0 @ZbU) ?_;refine cp (hk true true) ?_;rw[mrg,if_neg d,if_neg h]at hm;cases c:k true true;·refine ZcY ?_;rw[if_neg (by simp[c]),ZaT]at hm;exact⟨((A1:List Nat),(B1:List Nat),out),by simp<;>omega,⟨hm,by simp;omega⟩,⟨[(50,.blk 50 0)],rfl,au0,au1,au2⟩⟩
 refine ZcY ?_;rw[if_pos c,<-ZaQ]at hm;refine⟨((A1:List Nat),(B1:List Nat),out++[a]),by simp<;>omega,⟨hm,by simp;omega⟩,?_⟩;rw[QaM,QaB,Zag];exact⟨[(50,.blk 50 1)],rfl,au0,au1,au2⟩
theorem union84(A B)(hA:A.length<=1000000)(c:B.length<=1000000):Ps 155 [ZN A,ZN B] (ZN (mrg (fun a b=>a||b) A B)):=by refine Zcu 64 (Ok s155) rfl (by(try simp only[noRefs,Qaa,Qam,Qag,Qan,Qai,noRef,Zae,Zad])<;>rfl) (Qab _) ?_;unfold s155;refine ZcY ?_;refine cp (merge168 195 _ union169 A B hA c) ?_;refine ZcY ?_;exact⟨.inr trivial,_,rfl,Zcs (Qab _)⟩
theorem minus219(A B)(hA:A.length<=1000000)(c:B.length<=1000000):Ps 252 [ZN A,ZN B] (ZN (mrg (fun a b=>a&&!b) A B)):=by refine Zcu 64 (Ok s252) rfl (by(try simp only[noRefs,Qaa,Qam,Qag,Qan,Qai,noRef,Zae,Zad])<;>rfl) (Qab _) ?_;unfold s252;refine ZcY ?_;refine cp (merge168 277 _ minus242 A B hA c) ?_;refine ZcY ?_;exact⟨.inr trivial,_,rfl,Zcs (Qab _)⟩
theorem subset167(A B)(hA:A.length<=1000000)(d:B.length<=1000000):Ps 193 [ZN A,ZN B] (.bool (decide ((mrg (fun a b=>a&&!b) A B).length=0))):=by
 refine Zcv 64 (Ok s193) rfl (by(try simp only[noRefs,Qaa,Qam,Qag,Qan,Qai,noRef,Zae,Zad])<;>rfl) rfl ?_;unfold s193;refine ZcY ?_;refine cp (minus219 A B hA d) ?_;by_cases h:(mrg (fun a b=>a&&!b) A B).length=0
 ·have c:(((mrg (fun a b=>a&&!b) A B).length:Nat):Int)=0:=by omega
  refine ZcZ c ?_;exact⟨.inr trivial,_,rfl,by simp[resOf,Qbb,h]⟩
 have c:¬(((mrg (fun a b=>a&&!b) A B).length:Nat):Int)=0:=by omega
 refine ZcZ c ?_;exact⟨.inr trivial,_,rfl,by simp[resOf,Qbb,h]⟩
end Go.AM.SO
namespace Go.AM.SD
variable{a:Aut}{es:List Ed}{α:Type}
theorem QjB(f:α->Nat):∀{l c:List α},l.Pairwise (fun a b=>f a<f b)->c.Pairwise (fun a b=>f a<f b)->(∀p,p∈l↔p∈c)->l=c
 |[],[],_,_,_=>rfl|[],y::c,_,_,hm=>absurd ((hm y).2 (by simp)) (by simp)|x::l,[],_,_,hm=>absurd ((hm x).1 (by simp)) (by simp)|x::l,y::c,h,g,hm=>by
  rw[ZaB]at h g;have d:x=y:=by grind
  subst d;have:l=c:=QjB f h.2 g.2 fun p=>by grind
  rw[this]
theorem uniqE(h:es.Pairwise fun x y=>x.1<y.1\/(x.1=y.1/\x.2.1<y.2.1)){e a:Ed}(he:e∈es)(b:a∈es)(h1:e.1=a.1)(f:e.2.1=a.2.1):e=a:=by induction h with|nil=>cases he|cons d _ c=>
 rcases Zav.1 he with rfl|m1<;>rcases Zav.1 b with rfl|m2;·rfl
 ·grind
 ·grind
 exact c m1 m2
theorem QcN(h:es.Pairwise fun x y=>x.1<y.1\/(x.1=y.1/\x.2.1<y.2.1)){v ev to:Nat}:ZA es v ev=some to↔((v,ev,to):Ed)∈es:=by
 unfold ZA;constructor;·intro d;cases hf:es.find? fun e=>e.1==v&&e.2.1==ev with|none=>rw[hf]at d;cases d|some e=>rw[hf]at d;cases d;have h1:=List.find?_some hf;simp only[Zac,beq_iff_eq]at h1;have f:=ZbL hf;obtain⟨a,b,c⟩:=e;obtain⟨rfl,rfl⟩:=h1;exact f
 intro hm;cases hf:es.find? fun e=>e.1==v&&e.2.1==ev with|none=>rw[ZbX]at hf;exact absurd (by simp) (hf _ hm)|some e=>have h1:=List.find?_some hf;simp only[Zac,beq_iff_eq]at h1;rw[uniqE h (ZbL hf) hm h1.1 h1.2];rfl
theorem QpD(h:WfA a)(v):ZO a.es (fun _=>true) v=a.al.filterMap fun ev=>(ZA a.es v ev).map fun to=>((v,ev,to):Ed):=by
 refine QjB (fun e:Ed=>e.2.1) ?_ ?_ fun e=>?_;·have h1:(ZO a.es (fun _=>true) v).Pairwise fun x y=>x.1<y.1\/(x.1=y.1/\x.2.1<y.2.1):=h.es.filter _;refine h1.imp_of_mem fun{x y}d g f=>?_;simp_all[QaV]
 ·refine List.Pairwise.filterMap _ (R:=(·<·)) ?_ h.al;simp_all
 rw[QaV,ZbW];constructor;·rintro⟨he,rfl,_⟩;obtain⟨x,y,z⟩:=e;exact⟨y,h.ev _ he,by rw[(QcN h.es).2 he];rfl⟩
 rintro⟨ev,c,hm⟩;cases b:ZA a.es v ev with|none=>rw[b]at hm;cases hm|some to=>rw[b]at hm;cases hm;exact⟨(QcN h.es).1 b,rfl,rfl⟩
theorem QtI(h:WfA a)(i v)(s):(sRow a.es (fun _=>true) i v s).1=fRow a.al a.es v s.1:=by
 unfold sRow fRow;rw[QpD h];have key:∀(b:List Nat)(s:OE),((b.filterMap fun ev=>(ZA a.es v ev).map fun to=>((v,ev,to):Ed)).foldl (sEd i) s).1=b.foldl (fEv a.es v) s.1:=by intro b;induction b with|nil=>intro s;rfl|cons ev b c=>intro s;rw[ZbJ,ZaS];cases d:ZA a.es v ev with
  |none=>
   have e:fEv a.es v s.1 ev=s.1:=by grind[fEv]
   rw[e];exact c s|some to=>
   have e:fEv a.es v s.1 ev=if s.1.contains to then s.1 else s.1++[to]:=by grind[fEv]
   dsimp only[Option.map_some];rw[ZaS,c,e];congr 1;unfold sEd;split<;>rfl
 simp_all
theorem QrY(h:WfA a):∀(k i:Nat)(s:OE),(sQ a.es (fun _=>true) k i s).1=fQ a.al a.es k i s.1|0,_,_=>rfl|k+1,i,s=>by unfold sQ fQ;cases s.1[i]? with|none=>rfl|some v=>dsimp only;rw[QrY h k,QtI h]
theorem QtJ(h:WfA a):(sAll a fun _=>true).1=found a:=by simp_all[sAll,found,QrY]
theorem QoP(h:WfA a):canon a=ZR a (fun _=>true):=by
 have b:=(QbM (left:=fun _=>true) h).1;have hf:=QtJ h;have he:(sAll a fun _=>true).2=cRows a (found a):=by rw[b.ed,hf];unfold cRows;rw[List.flatMap_def,List.flatMap_def];congr 1;refine Zbf fun i _=>?_;rw[QpD h];unfold cRow;rw[List.map_filterMap];congr 1;funext ev;rw[Option.map_map];rfl
 simp_all[canon,ZR]
end Go.AM.SD
namespace Go.AM.SE
open Go.Proofs Go.AM.SD
variable{a b l o:List Nat}{i n t x:Nat}
theorem shr1{j:Nat}:aBin .shr (.int .u64 ((i:Int)+(j:Int))) (.int .u64 1)=some (.int .u64 (((i+j)/2:Nat):Int)):=by
 have h:(((i:Int)+(j:Int)).fdiv (2^(min (1:Int).toNat 64)))=(((i+j)/2:Nat):Int):=by rw[show min (1:Int).toNat 64=1 from rfl,Int.fdiv_eq_ediv_of_nonneg _ (by decide)];omega
 show(if(1:Int)<0 then none else some (AV.int .u64 (((i:Int)+(j:Int)).fdiv (2^(min (1:Int).toNat 64)))))=_;rw[if_neg (by decide),h]
def lbN(l:List Nat)(t:Nat):Nat:=l.countP fun x=>decide (x<t)
theorem lb_eq:∀{l:List Nat}{t i:Nat},i<=l.length->(∀j,j<i->l.getD j 0<t)->(∀j,i<=j->j<l.length->¬l.getD j 0<t)->lbN l t=i
 |[],t,i,hi,_,_=>by simp at hi;subst hi;rfl|x::l,t,0,_,_,b=>by unfold lbN;rw[List.countP_eq_zero];intro y g;obtain⟨q,c,a⟩:=Qec g;have:=b q (Zaj _) a;rw[Zah,c]at this;simpa using this|x::l,t,i+1,hi,h1,b=>by
  have h:x<t:=by have:=h1 0 (by omega);simpa using this
  have:=lb_eq (l:=l) (t:=t) (i:=i) (by simpa using hi) (fun j d=>by have:=h1 (j+1) (by omega);simpa using this) (fun j d f=>by have:=b (j+1) (by omega) (by simpa using f);simpa using this);unfold lbN at this⊢;rw[Zch,this,if_pos (by simpa using h)]
theorem lb_le:lbN l t<=l.length:=List.countP_le_length
theorem QdT(h:l.Pairwise (·<=·)){p q}(a:p<=q)(b:q<l.length):l.getD p 0<=l.getD q 0:=by
 rw[Zah,Zah,Zak (by omega),Zak b];rcases Nat.lt_or_eq_of_le a with h1|h1;·exact Za0.1 h p q (by omega) b h1
 subst h1;exact Zar _
theorem QnD(h:l.Pairwise (·<=·))(h1:∀j,j<i->l.getD j 0<t)(g:∀j,i<=j->j<l.length->¬l.getD j 0<t):l.contains t=decide (i<l.length/\l.getD i 0=t):=by
 rw[Zb9,decide_eq_true_iff,List.contains_iff_mem];constructor
 ·intro hm;obtain⟨q,c,a⟩:=Qec hm;have f:l.getD q 0=t:=by rw[Zah,c];rfl
  have b:i<=q:=by refine Nat.le_of_not_lt fun d=>?_;have:=h1 q d;omega
  have k:=QdT h b a;have m:=g i (Zar _) (by omega);exact⟨by omega,by omega⟩
 rintro⟨hi,e⟩;rw[<-e,Zah,Zak hi];exact List.getElem_mem hi
theorem nan81(x):Ps 276 [.int .i64 x] (.bool false):=by refine Zcv 64 (Ok s276) rfl (by(try simp only[noRefs,QaQ,Qal,Qao,Qaa,Qam,Qag,Qan,Qap,Qai,noRef,Zae,Zad])<;>rfl) rfl ?_;unfold s276;refine Zc6 ?_;exact⟨.inr trivial,_,rfl,rfl⟩
theorem nan66(x):Ps 278 [.int .i64 x] (.bool false):=by refine Zcv 64 (Ok s278) rfl (by(try simp only[noRefs,QaQ,Qal,Qao,Qaa,Qam,Qag,Qan,Qap,Qai,noRef,Zae,Zad])<;>rfl) rfl ?_;unfold s278;refine Zc6 ?_;exact⟨.inr trivial,_,rfl,rfl⟩
theorem less65(x y):Ps 245 [.int .i64 x,.int .i64 y] (.bool (decide (x<y))):=by refine Zcv 64 (Ok s245) rfl (by(try simp only[noRefs,QaQ,Qal,Qao,Qaa,Qam,Qag,Qan,Qap,Qai,noRef,Zae,Zad])<;>rfl) rfl ?_;unfold s245;refine Zc6 ?_;refine cp (nan81 x) ?_;refine Zc6 ?_;exact⟨.inr trivial,_,rfl,rfl⟩
theorem find57(l)(t:Nat)(g:l.Pairwise (·<=·))(x:l.length<=1000000):Ps 254 [ZN l,.int .i64 (t:Int)] (.tup [.int .i64 (lbN l t:Int),.bool (l.contains t)]):=by
 refine Zcv 64 (Ok s254) rfl (by(try simp only[noRefs,QaQ,Qal,Qao,Qaa,Qam,Qag,Qan,Qap,Qai,noRef,Zae,Zad])<;>rfl) rfl ?_;unfold s254;refine Zc6 ?_;refine Qas 100 (fun p:Nat×Nat=>[(0,ZN l),(1,.int .i64 (t:Int)),(6,.int .i64 l.length),(7,.int .i64 p.1),(8,.int .i64 p.2)]) (fun _=>[]) (fun p=>p.1<=p.2/\p.2<=l.length/\(∀q,q<p.1->l.getD q 0<t)/\∀q,p.2<=q->q<l.length->¬l.getD q 0<t) (fun p=>p.2-p.1) (0,l.length) 0 140 (fun i:Nat=>[(0,ZN l),(1,.int .i64 (t:Int)),(6,.int .i64 l.length),(7,.int .i64 i)]) (fun _=>[]) (fun i=>i<=l.length/\(∀q,q<i->l.getD q 0<t)/\∀q,i<=q->q<l.length->¬l.getD q 0<t) ?_ ⟨Zaj _,Zar _,fun q d=>absurd d (Zay _),fun q h1 c=>by omega⟩ ?_ ?_;·exact⟨[],rfl,au0,au13,au14⟩
 ·rintro⟨i,j⟩⟨f,s,h1,c⟩;dsimp only at f s h1 c⊢;by_cases a:i<j
  ·obtain⟨k,hk,n,w⟩:∃k:Nat,aBin .shr (.int .u64 ((i:Int)+(j:Int))) (.int .u64 1)=some (.int .u64 (k:Int))/\i<=k/\k<j:=⟨(i+j)/2,shr1,by omega,by omega⟩;have b:k<l.length:=by omega
   have v:l[k]?=some (l.getD k 0):=by rw[Zak b];simp[b]
   refine Zc7 (Zda a hk b (QaI v)) ?_;refine cp (less65 _ _) ?_;by_cases hc:l.getD k 0<t;·rw[decide_eq_true (by omega)];refine Zc6 ?_;refine⟨(k+1,j),by dsimp only;omega,⟨by dsimp only;omega,s,fun q d=>?_,c⟩,⟨[],rfl,au0,au13,au14⟩⟩;have:=QdT g (p:=q) (q:=k) (by dsimp only at d;omega) b;omega
   rw[decide_eq_false (by omega)];refine Zc6 ?_;refine⟨(i,k),by dsimp only;omega,⟨n,by dsimp only;omega,h1,fun q d o=>?_⟩,⟨[],rfl,au0,au13,au14⟩⟩;have:=QdT g (p:=k) (q:=q) d o;omega
  have e:i=j:=by omega
  subst e;refine Zc7 a ?_;exact⟨i,⟨s,h1,c⟩,⟨[],rfl,au0,au13,au14⟩⟩
 rintro i⟨hi,h1,c⟩;rw[lb_eq hi h1 c,QnD g h1 c];by_cases a:i<l.length
 ·have u:l[i]?=some (l.getD i 0):=by rw[Zak a];simp[a]
  by_cases he:l.getD i 0=t;·rw[decide_eq_true ⟨a,he⟩];rw[he]at u;refine Zc7 (Zc8 a (QaI u)) ?_;exact⟨.inr trivial,_,rfl,rfl⟩
  rw[decide_eq_false fun h=>he h.2];generalize l.getD i 0=y at*;have m:¬(y:Int)=(t:Int):=by omega
  refine Zc7 (Zc9 a (QaI u) m) ?_;refine cp (nan66 _) ?_;refine Zc6 ?_;exact⟨.inr trivial,_,rfl,rfl⟩
 rw[decide_eq_false fun h=>a h.1];refine Zc7 a ?_;exact⟨.inr trivial,_,rfl,rfl⟩
abbrev edV(e:Ed):AV:=.agg [.int .i64 (e.1:Int),.int .i64 (e.2.1:Int),.int .i64 (e.2.2:Int)]
theorem QrZ(x y):aEq (.flat true [.i,.i,.i]) true (edV x) (edV y)=some (.bool (!decide (x=y))):=by have:∀n m:Nat,decide ((n:Int)=(m:Int))=decide (n=m):=fun n m=>decide_eq_decide.2 (by omega);obtain⟨a,b,c⟩:=x;obtain⟨g,d,f⟩:=y;simp only[aEq,ZE,eqCell,if_true];simp only[Zal,Bool.decide_and,this];cases decide (a=g)<;>cases decide (b=d)<;>cases decide (c=f)<;>rfl
theorem eq41(a b)(o:b.length<=1000000):Ps 83 [sli a,sli b] (.bool (decide (a=b))):=by
 refine Zcv 64 (Ok s83) rfl (by(try simp only[noRefs,QaQ,Qal,Qao,Qaa,Qam,Qag,Qan,Qap,Qai,noRef,Zae,Zad])<;>rfl) rfl ?_;by_cases f:a.length=b.length
 ·unfold s83;refine Zc7 f ?_;refine QaC 100 (fun i:Nat=>[(0,sli a),(1,sli b),(12,.int .i64 b.length),(13,.int .i64 i)]) (fun _=>[]) (fun i=>i<=b.length/\∀j,j<i->a[j]?=b[j]?) (fun i=>b.length-i) 0 ⟨[],rfl,au0,au13,au14⟩ ⟨Zaj _,fun j l=>absurd l (Zay _)⟩ ?_;rintro i⟨hi,n⟩;by_cases d:i<b.length
  ·obtain⟨x,k⟩:=Qak (l:=a) (i:=i) (by omega);obtain⟨y,g⟩:=Qak (l:=b) (i:=i) (by omega);have c:i<a.length:=by omega
   by_cases h:x=y
   ·have m:True:=by trivial
    refine Zc7 (Zdc d c (QaF k) (QaF g) h m) ?_;refine⟨i+1,by omega,⟨by omega,fun j l=>?_⟩,⟨[],rfl,au0,au13,au14⟩⟩;by_cases e:j=i;·subst e;rw[k,g,h]
    exact n j (by omega)
   have m:True:=by trivial
   refine Zc7 (Zdc d c (QaF k) (QaF g) h m) ?_;refine⟨.inr trivial,_,rfl,?_⟩;have:a≠b:=fun e=>by subst e;rw[k]at g;cases g;exact h rfl
   simp[resOf,Qbb,this]
  have :a=b:=ZbG fun j=>by
   by_cases l:j<i;·exact n j l
   rw[ZaG (by omega),ZaG (by omega)]
  refine Zc7 d ?_;exact⟨.inr trivial,_,rfl,by simp[resOf,Qbb,this]⟩
 unfold s83;refine Zc7 f ?_;have:a≠b:=fun e=>f (by rw[e]);exact⟨.inr trivial,_,rfl,by simp[resOf,Qbb,this]⟩
theorem eq55(a b)(o:b.length<=10000000):Ps 129 [egsN a,egsN b] (.bool (decide (a=b))):=by
 refine Zcv 64 (Ok s129) rfl (by(try simp only[noRefs,QaQ,Qal,Qao,Qaa,Qam,Qag,Qan,Qap,Qai,noRef,Zae,Zad])<;>rfl) rfl ?_;by_cases d:a.length=b.length
 ·unfold s129;refine Zc7 d ?_;refine QaC 100 (fun i:Nat=>[(0,egsN a),(1,egsN b),(12,.int .i64 b.length),(13,.int .i64 i)]) (fun _=>[]) (fun i=>i<=b.length/\∀j,j<i->a[j]?=b[j]?) (fun i=>b.length-i) 0 ⟨[],rfl,au0,au13,au14⟩ ⟨Zaj _,fun j k=>absurd k (Zay _)⟩ ?_;rintro i⟨hi,n⟩;by_cases f:i<b.length
  ·obtain⟨x,l⟩:=Qak (l:=a) (i:=i) (by omega);obtain⟨y,g⟩:=Qak (l:=b) (i:=i) (by omega);have c:i<a.length:=by omega
   by_cases h:x=y
   ·have m:aEq (.flat true [.i,.i,.i]) true (edV y) (edV y)=some (.bool false):=by rw[QrZ];simp
    refine Zc7 (Zdc f c (QaR l) (QaR g) h m) ?_;refine⟨i+1,by omega,⟨by omega,fun j k=>?_⟩,⟨[],rfl,au0,au13,au14⟩⟩;by_cases e:j=i;·subst e;rw[l,g,h]
    exact n j (by omega)
   have m:aEq (.flat true [.i,.i,.i]) true (edV x) (edV y)=some (.bool true):=by rw[QrZ];simp[h]
   refine Zc7 (Zdc f c (QaR l) (QaR g) h m) ?_;refine⟨.inr trivial,_,rfl,?_⟩;have:a≠b:=fun e=>by subst e;rw[l]at g;cases g;exact h rfl
   simp[resOf,Qbb,this]
  have :a=b:=ZbG fun j=>by
   by_cases k:j<i;·exact n j k
   rw[ZaG (by omega),ZaG (by omega)]
  refine Zc7 f ?_;exact⟨.inr trivial,_,rfl,by simp[resOf,Qbb,this]⟩
 unfold s129;refine Zc7 d ?_;have:a≠b:=fun e=>d (by rw[e]);exact⟨.inr trivial,_,rfl,by simp[resOf,Qbb,this]⟩
theorem Qr0:decide (nz a=nz b)=decide (a=b):=by
 refine decide_eq_decide.2 ⟨fun h=>?_,fun h=>by rw[h]⟩;have:∀a b:List Nat,nz a=nz b->a=b:=by intro a;induction a with
  |nil=>intro b h;cases b with|nil=>rfl|cons=>simp at h
  |cons x a ih=>intro b h;cases b with|nil=>simp at h|cons y b=>simp only[nz,ZaL,List.cons.injEq]at h;rw[ih b h.2,show x=y by omega]
 exact this a b h
theorem eq41N(a b)(c:b.length<=1000000):Ps 83 [ZN a,ZN b] (.bool (decide (a=b))):=by have:=eq41 (nz a) (nz b) (by simpa using c);rw[QbE,QbE,Qr0]at this;exact this
def autB(x y:Aut):Bool:=decide (x.n=y.n)&&(decide (x.al=y.al)&&(decide (x.ms=y.ms)&&decide (x.es=y.es)))
structure AOk(r:Aut):Prop where
 al:r.al.length<=1000000
 ms:r.ms.length<=1000000
 es:r.es.length<=10000000
theorem eq43(x y)(f:AOk x)(a:AOk y):Ps 64 [aV x,aV y] (.bool (autB x y)):=by
 refine Zcv 64 (Ok s64) rfl (by(try simp only[noRefs,QaQ,Qal,Qao,Qaa,Qam,Qag,Qan,Qap,Qai,noRef,Zae,Zad])<;>rfl) rfl ?_;have c1:=eq41N x.al y.al a.al;have c2:=eq41N x.ms y.ms a.ms;have c:=eq55 x.es y.es a.es;unfold autB;by_cases h1:x.n=y.n;·rw[decide_eq_true h1,Zai];generalize decide (x.al=y.al)=b at*;generalize decide (x.ms=y.ms)=b2 at*;generalize decide (x.es=y.es)=d at*;unfold s64;refine Zc7 h1 ?_;refine cp c1 ?_;cases b with|false=>refine Zc6 ?_;exact⟨.inr trivial,_,rfl,rfl⟩|true=>refine Zc6 ?_;refine cp c2 ?_;cases b2 with|false=>refine Zc6 ?_;exact⟨.inr trivial,_,rfl,rfl⟩|true=>refine Zc6 ?_;refine cp c ?_;refine Zc6 ?_;exact⟨.inr trivial,_,rfl,rfl⟩
 rw[decide_eq_false h1,ZbQ];unfold s64;refine Zc7 h1 ?_;exact⟨.inr trivial,_,rfl,rfl⟩
theorem QgY(x):autB x x=true:=by simp[autB]
abbrev froms(es:List Ed):List Nat:=es.map (·.1)
theorem QlP:∀(l:List Ed)(i:Nat),(l.flatMap edC).drop (i*3)=(l.drop i).flatMap edC|l,0=>by simp|[],i+1=>by simp|e::l,i+1=>by rw[Zaz,Zbn,Zbp];show List.drop (i*3+3) (_::_::_::l.flatMap edC)=_;rw[Zbp,Zbp,Zbp];exact QlP l i
theorem QlQ:∀(l:List Ed)(i:Nat),(l.flatMap edC).take (i*3)=(l.take i).flatMap edC|l,0=>by simp|[],i+1=>by simp|e::l,i+1=>by rw[Zaz,Zbn,Zbc,Zaz];show List.take (i*3+3) (_::_::_::l.flatMap edC)=_;rw[Zbc,Zbc,Zbc,QlQ l i];rfl
theorem QpE:lbN (x::l) t=lbN l t+if x<t then 1 else 0:=by unfold lbN;rw[Zch];simp
theorem Qkg(h:∀x∈l,t<=x):lbN l t=0:=by unfold lbN;rw[List.countP_eq_zero];intro x a;have:=h x a;simp;omega
theorem Qr1:∀{es:List Ed},es.Pairwise (fun a b=>a.1<=b.1)->∀v:Nat,(es.drop (lbN (froms es) v)).take (lbN (froms es) (v+1)-lbN (froms es) v)=ZO es (fun _=>true) v
 |[],_,_=>by simp[ZO]|e::es,h,v=>by
  rw[ZaB]at h;have c:=Qr1 h.2 v;have k:froms (e::es)=e.1::froms es:=rfl;have l:ZO (e::es) (fun _=>true) v=if e.1=v then e::ZO es (fun _=>true) v else ZO es (fun _=>true) v:=by unfold ZO;rw[ZbT];simp
  rw[k,QpE,QpE,l];rcases Nat.lt_trichotomy e.1 v with h1|h1|h1;·rw[if_pos h1,if_pos (by omega),if_neg (by omega),Zbp,Nat.add_sub_add_right,c]
  ·have g:lbN (froms es) v=0:=Qkg fun x d=>by obtain⟨y,f,rfl⟩:=Zaq.1 d;have:=h.1 y f;omega
   rw[g]at c⊢;have m:¬e.1<v:=by omega
   have i2:e.1<v+1:=by omega
   simp only[if_neg m,if_pos i2,if_pos h1,Nat.add_zero,Za5,Nat.sub_zero,Zbc];rw[Za5,Nat.sub_zero]at c;rw[c]
  have g:lbN (froms es) v=0:=Qkg fun x d=>by obtain⟨y,f,rfl⟩:=Zaq.1 d;have:=h.1 y f;omega
  have i:lbN (froms es) (v+1)=0:=Qkg fun x d=>by obtain⟨y,f,rfl⟩:=Zaq.1 d;have:=h.1 y f;omega
  rw[g,i]at c⊢;rw[if_neg (by omega),if_neg (by omega),if_neg (by omega)];simpa using c
theorem sub229(e)(t:Nat)(he:e.1<=1000000)(a:t<=1000000):Ps 266 [edV e,.int .i64 (t:Int)] (.int .i64 ((e.1:Int)-(t:Int))):=by refine Zcv 64 (Ok s266) rfl (by(try simp only[noRefs,QaQ,Qal,Qao,Qaa,Qam,Qag,Qan,Qap,Qai,noRef,Zae,Zad])<;>rfl) rfl ?_;unfold s266;refine Zc6 ?_;exact⟨.inr trivial,_,rfl,rfl⟩
theorem sub230(e)(t:Nat)(he:e.1<=1000000)(a:t<=1000000):Ps 267 [edV e,.int .i64 (t:Int)] (.int .i64 ((e.1:Int)-(t:Int))):=by refine Zcv 64 (Ok s267) rfl (by(try simp only[noRefs,QaQ,Qal,Qao,Qaa,Qam,Qag,Qan,Qap,Qai,noRef,Zae,Zad])<;>rfl) rfl ?_;unfold s267;refine Zc6 ?_;exact⟨.inr trivial,_,rfl,rfl⟩
theorem find67(es)(t:Nat)(v:(froms es).Pairwise (·<=·))(x:∀e∈es,e.1<=1000000)(u:t<=1000000)(B:es.length<=1000000):Ps 265 [egsN es,.int .i64 (t:Int),.fn 266 [] []] (.tup [.int .i64 (lbN (froms es) t:Int),.bool ((froms es).contains t)]):=by
 refine Zcv 64 (Ok s265) rfl (by(try simp only[noRefs,QaQ,Qal,Qao,Qaa,Qam,Qag,Qan,Qap,Qai,noRef,Zae,Zad])<;>rfl) rfl ?_;have y:(froms es).length=es.length:=by simp
 unfold s265;refine Zc6 ?_;refine Qas 100 (fun p:Nat×Nat=>[(0,egsN es),(1,.int .i64 (t:Int)),(2,.fn 266 [] []),(8,.int .i64 es.length),(9,.int .i64 p.1),(10,.int .i64 p.2)]) (fun _=>[]) (fun p=>p.1<=p.2/\p.2<=es.length/\(∀q,q<p.1->(froms es).getD q 0<t)/\∀q,p.2<=q->q<es.length->¬(froms es).getD q 0<t) (fun p=>p.2-p.1) (0,es.length) 0 140 (fun i:Nat=>[(0,egsN es),(1,.int .i64 (t:Int)),(2,.fn 266 [] []),(8,.int .i64 es.length),(9,.int .i64 i)]) (fun _=>[]) (fun i=>i<=es.length/\(∀q,q<i->(froms es).getD q 0<t)/\∀q,i<=q->q<es.length->¬(froms es).getD q 0<t) ?_ ⟨Zaj _,Zar _,fun q l=>absurd l (Zay _),fun q h1 g=>by omega⟩ ?_ ?_;·exact⟨[],rfl,au0,au13,au14⟩
 ·rintro⟨i,j⟩⟨o,s,h1,g⟩;dsimp only at o s h1 g⊢;by_cases c:i<j
  ·obtain⟨k,hk,w,A⟩:∃k:Nat,aBin .shr (.int .u64 ((i:Int)+(j:Int))) (.int .u64 1)=some (.int .u64 (k:Int))/\i<=k/\k<j:=⟨(i+j)/2,shr1,by omega,by omega⟩;have m:k<es.length:=by omega
   obtain⟨e,he⟩:=Qak m;have n:(froms es).getD k 0=e.1:=by rw[Zah,ZaA,he];rfl
   have f:=x e (Zaa he);refine Zc7 (Zda c hk m (QaR he)) ?_;refine cp (sub229 e t f u) ?_;exact bjPJZ
  have e:i=j:=by omega
  subst e;refine Zc7 c ?_;exact⟨i,⟨s,h1,g⟩,⟨[],rfl,au0,au13,au14⟩⟩
 rintro i⟨hi,h1,g⟩;rw[lb_eq (by omega) h1 fun q a b=>g q a (by omega),QnD v h1 fun q a b=>g q a (by omega)];by_cases c:i<es.length
 ·obtain⟨e,he⟩:=Qak c;have n:(froms es).getD i 0=e.1:=by rw[Zah,ZaA,he];rfl
  have f:=x e (Zaa he);rw[n];by_cases hc:e.1=t
  ·rw[decide_eq_true ⟨by omega,hc⟩];have d:(e.1:Int)-(t:Int)=0:=by omega
   exact bd8a9
  rw[decide_eq_false fun h=>hc h.2];have d:¬(e.1:Int)-(t:Int)=0:=by omega
  exact bd8a9
 rw[decide_eq_false fun h=>c (by omega)];refine Zc7 c ?_;exact⟨.inr trivial,_,rfl,rfl⟩
theorem find67b(es)(t:Nat)(v:(froms es).Pairwise (·<=·))(x:∀e∈es,e.1<=1000000)(u:t<=1000000)(B:es.length<=1000000):Ps 265 [egsN es,.int .i64 (t:Int),.fn 267 [] []] (.tup [.int .i64 (lbN (froms es) t:Int),.bool ((froms es).contains t)]):=by
 refine Zcv 64 (Ok s265) rfl (by(try simp only[noRefs,QaQ,Qal,Qao,Qaa,Qam,Qag,Qan,Qap,Qai,noRef,Zae,Zad])<;>rfl) rfl ?_;have y:(froms es).length=es.length:=by simp
 unfold s265;refine Zc6 ?_;refine Qas 100 (fun p:Nat×Nat=>[(0,egsN es),(1,.int .i64 (t:Int)),(2,.fn 267 [] []),(8,.int .i64 es.length),(9,.int .i64 p.1),(10,.int .i64 p.2)]) (fun _=>[]) (fun p=>p.1<=p.2/\p.2<=es.length/\(∀q,q<p.1->(froms es).getD q 0<t)/\∀q,p.2<=q->q<es.length->¬(froms es).getD q 0<t) (fun p=>p.2-p.1) (0,es.length) 0 140 (fun i:Nat=>[(0,egsN es),(1,.int .i64 (t:Int)),(2,.fn 267 [] []),(8,.int .i64 es.length),(9,.int .i64 i)]) (fun _=>[]) (fun i=>i<=es.length/\(∀q,q<i->(froms es).getD q 0<t)/\∀q,i<=q->q<es.length->¬(froms es).getD q 0<t) ?_ ⟨Zaj _,Zar _,fun q l=>absurd l (Zay _),fun q h1 g=>by omega⟩ ?_ ?_;·exact⟨[],rfl,au0,au13,au14⟩
 ·rintro⟨i,j⟩⟨o,s,h1,g⟩;dsimp only at o s h1 g⊢;by_cases c:i<j
  ·obtain⟨k,hk,w,A⟩:∃k:Nat,aBin .shr (.int .u64 ((i:Int)+(j:Int))) (.int .u64 1)=some (.int .u64 (k:Int))/\i<=k/\k<j:=⟨(i+j)/2,shr1,by omega,by omega⟩;have m:k<es.length:=by omega
   obtain⟨e,he⟩:=Qak m;have n:(froms es).getD k 0=e.1:=by rw[Zah,ZaA,he];rfl
   have f:=x e (Zaa he);refine Zc7 (Zda c hk m (QaR he)) ?_;refine cp (sub230 e t f u) ?_;exact bjPJZ
  have e:i=j:=by omega
  subst e;refine Zc7 c ?_;exact⟨i,⟨s,h1,g⟩,⟨[],rfl,au0,au13,au14⟩⟩
 rintro i⟨hi,h1,g⟩;rw[lb_eq (by omega) h1 fun q a b=>g q a (by omega),QnD v h1 fun q a b=>g q a (by omega)];by_cases c:i<es.length
 ·obtain⟨e,he⟩:=Qak c;have n:(froms es).getD i 0=e.1:=by rw[Zah,ZaA,he];rfl
  have f:=x e (Zaa he);rw[n];by_cases hc:e.1=t
  ·rw[decide_eq_true ⟨by omega,hc⟩];have d:(e.1:Int)-(t:Int)=0:=by omega
   exact bsh5l
  rw[decide_eq_false fun h=>hc h.2];have d:¬(e.1:Int)-(t:Int)=0:=by omega
  exact bsh5l
 rw[decide_eq_false fun h=>c (by omega)];refine Zc7 c ?_;exact⟨.inr trivial,_,rfl,rfl⟩
theorem out58(a)(v:Nat)(h:WfA a)(b:a.es.length<=1000000)(m:v<=100000):Ps 223 [aV a,.int .i64 (v:Int)] (egsN (ZO a.es (fun _=>true) v)):=by
 have f:(froms a.es).Pairwise (·<=·):=by rw[Zbr];exact h.srt
 have g:∀e∈a.es,e.1<=1000000:=fun e he=>by have:=(h.esn e he).1;have:=h.n5;omega
 have f1:=find67 a.es v f g (by omega) b;have f2:=find67b a.es (v+1) f g (by omega) b;have k:((v+1:Nat):Int)=(v:Int)+1:=by omega
 rw[k]at f2;have ho:=Qr1 h.srt v;have i:=lb_le (l:=froms a.es) (t:=v+1);rw[Zax]at i;have hm:lbN (froms a.es) v<=lbN (froms a.es) (v+1):=List.countP_mono_left fun x _ l=>by simp at l⊢;omega
 generalize(froms a.es).contains v=n at*;generalize(froms a.es).contains (v+1)=b2 at*;generalize lbN (froms a.es) v=p at*;generalize lbN (froms a.es) (v+1)=q at*;have hlen:q-p=(ZO a.es (fun _=>true) v).length:=by rw[<-ho,Zap,ZaR];omega
 have d:(p:Int)<=(q:Int):=by omega
 have c:(q:Int)<=(a.es.length:Int):=by omega
 refine Zcu 64 (Ok s223) rfl (by(try simp only[noRefs,QaQ,Qal,Qao,Qaa,Qam,Qag,Qan,Qap,Qai,noRef,Zae,Zad])<;>rfl) (Qaj _) ?_;unfold s223;refine Zc6 ?_;refine cp f1 ?_;refine Zc6 ?_;refine cp f2 ?_;refine Zc7 (Zc8 d c) ?_;refine⟨.inr trivial,_,rfl,?_⟩;rw[QlP,QlQ,ho,hlen];exact Zcs (Qaj _)
abbrev rsA(a:Aut):List AV:=[ZN a.al,.int .i64 (a.n:Int),ZN a.ms,egsN a.es]
abbrev rsN:List AV:=[.nilsl,.int .i64 0,.nilsl,.nilsl]
def pl(n:Nat)(o:List Nat):List Int:=(List.range n).map fun x=>if o.contains x then((SD.idx o x:Nat):Int)else-1
theorem QjC:(pl n o).length=n:=by simp[pl]
theorem QjD(a:x<n):(pl n o).getD x 0=if o.contains x then((SD.idx o x:Nat):Int)else-1:=by unfold pl;rw[Zah,ZaA,Zbu a];rfl
theorem Qr2(b:x∉o):(pl n o).set x (o.length:Int)=pl n (o++[x]):=by
 refine List.ext_getElem (by simp[pl]) fun j h1 a=>?_;have d:j<n:=by simpa[pl]using a
 rw[List.getElem_set];simp only[pl,List.getElem_map,List.getElem_range];by_cases e:x=j;·subst e;rw[if_pos rfl,if_pos (by simp),SD.QdM b]
 rw[if_neg e];by_cases hm:j∈o;·rw[if_pos (by simpa using hm),if_pos (by simp[hm]),SD.Qde hm]
 have c:¬j=x:=fun h=>e h.symm;rw[if_neg (by simpa using hm),if_neg (by simp[hm,c])]
theorem QtK(c:0<n):(List.replicate n (-1:Int)).set 0 0=pl n [0]:=by
 refine List.ext_getElem (by simp[pl]) fun j h1 a=>?_;have d:j<n:=by simpa[pl]using a
 rw[List.getElem_set];simp only[pl,List.getElem_map,List.getElem_range,List.getElem_replicate];by_cases e:0=j;·subst e;rw[if_pos rfl,if_pos (by simp)];rfl
 have b:¬j=0:=fun h=>e h.symm;rw[if_neg e,if_neg (by simp[b])]
abbrev cnB(a:Aut)(m e:Nat):List AV:=[.sl 83 0 0 a.al.length 1,.int .i64 0,.sl 77 0 0 m 1,.sl 76 0 0 e 3]
abbrev tru:Nat->Bool:=fun _=>true
theorem canonical44(a)(h:WfA a)(Y:a.es.length<=1000000):Ps 251 [aV a] (aV (ZR a tru)):=by
 have hn5:=h.n5;have hal:a.al.length<=32:=Qa1 32 a.al (by rw[ZaN];exact h.al.imp fun h=>by omega) h.al5;have hml:a.ms.length<=a.n:=Qa1 a.n a.ms h.nd h.msn;have O:a.ms.Pairwise (·<=·):=h.ms.imp fun h=>by omega
 have U:(a.n:Int)<=140737488355328:=by omega
 have S:(8:Int)*(a.n:Int)<=140737488355328:=by omega
 refine Zcu 40 (Ok s251) rfl (by(try simp only[noRefs,QaQ,Qal,Qao,Qaa,Qam,Qag,Qan,Qap,Qai,noRef,Zae,Zad])<;>rfl) (QdP _) ?_;unfold s251;refine Zc6 ?_;refine ch (ZcU (b:=83) (by(try simp only[noRefs,QaQ,Qal,Qao,Qaa,Qam,Qag,Qan,Qap,Qai,noRef,Zae,Zad])<;>rfl) (clone56 a.al (by omega)) (by repeat(first|exact Fresh.e|exact Zcw (by assumption) (by omega)|refine Zcx ?_ (by omega) (by omega))) rfl) ?_;by_cases h0:a.n=0
 ·have L:(a.n:Int)=0:=by omega
  have e:sAll a tru=([],[]):=by unfold sAll;rw[h0];rfl
  have hr:ZR a tru=⟨a.al,0,[],[]⟩:=by unfold ZR;rw[e];rfl
  refine Zc7 L ?_;refine⟨.inr trivial,_,rfl,?_⟩;rw[hr];exact Rn.agg (ZcK (ZcM (g:=0) rfl (by simp[ZI]) (Zct (Qaa _))) (ZcK (Zcs rfl) (ZcK Rn.nilK (ZcK Rn.nilK ZcJ))))
 have L:¬(a.n:Int)=0:=by omega
 have K:0<a.n:=by omega
 have h0n:(0:Int)<(a.n:Int):=by omega
 refine Zc7 (Zda L U S @Qnt) ?_;refine Qas 100 (fun i:Nat=>[(1,.ptr 50 0 0),(2,.ptr 60 0 0),(3,.ptr 69 0 0),(4,.sl 78 0 0 a.n 1),(24,.int .i64 a.n),(25,.int .i64 i)]) (fun i=>[(50,.cells 0 (rsA a)),(60,.cells 0 rsN),(69,.cells 0 [.sl 83 0 0 a.al.length 1,.int .i64 0,.nilsl,.nilsl]),(83,.cells 0 (ZI (nz a.al))),(78,.cells 0 (ZI (List.replicate i (-1)++List.replicate (a.n-i) 0)))]) (fun i=>i<=a.n) (fun i=>a.n-i) 0 0 120 (fun _:Unit=>[(1,.ptr 50 0 0),(2,.ptr 60 0 0),(3,.ptr 69 0 0),(4,.sl 78 0 0 a.n 1)]) (fun _=>[(50,.cells 0 (rsA a)),(60,.cells 0 rsN),(69,.cells 0 [.sl 83 0 0 a.al.length 1,.int .i64 0,.nilsl,.nilsl]),(83,.cells 0 (ZI (nz a.al))),(78,.cells 0 (ZI (List.replicate a.n (-1))))]) (fun _=>True) ?_ (Zaj _) ?_ ?_;·exact⟨[(50,.blk 40 0),(60,.blk 41 0),(69,.blk 46 0),(83,.blk 83 0),(78,.blk 53 0)],rfl,au0,au13,au14⟩
 ·rintro i hi;by_cases k:i<a.n
  ·have h1:i+1<=i+(a.n-i):=by omega
   refine Zc7 (Zda k h1 @QbN (QlA k)) ?_;exact⟨i+1,by omega,by omega,⟨[(50,.blk 50 0),(60,.blk 60 0),(69,.blk 69 0),(83,.blk 83 0),(78,.blk 78 0)],rfl,au0,au13,au14⟩⟩
  have e:i=a.n:=by omega
  subst e;have e2:List.replicate a.n (-1:Int)++List.replicate (a.n-a.n) 0=List.replicate a.n (-1):=by simp
  refine Zc7 k ?_;refine⟨(),?_⟩;rw[e2];exact⟨[(50,.blk 50 0),(60,.blk 60 0),(69,.blk 69 0),(83,.blk 83 0),(78,.blk 78 0)],rfl,au0,au13,au14⟩
 rintro _ _;have u:1<=a.n:=K;have m:=QtK K;refine Zc7 (Zda h0n u @QbN m) ?_;have d:SI a.n a.es tru 0 (([0],[]):OE):=⟨⟨by simp,fun x hx=>by simp at hx;omega⟩,fun _ _=>rfl,Zaj _,fun j v hj=>by omega,by simp⟩;have hq0:sQ a.es tru (a.n+1) 0 ([0],[])=sAll a tru:=by unfold sAll;rw[if_pos (by simp[K])]
 refine Qas 180 (fun t:Nat×OE=>[(1,.ptr 50 0 0),(2,.ptr 60 0 0),(3,.ptr 69 0 0),(4,.sl 78 0 0 a.n 1),(6,.sl 75 0 0 t.2.1.length 1),(7,.int .i64 t.1)]) (fun t=>[(50,.cells 0 (rsA a)),(60,.cells 0 rsN),(69,.cells 0 (cnB a (mks a t.1 t.2.1).length t.2.2.length)),(83,.cells 0 (ZI (nz a.al))),(78,.cells 0 (ZI (pl a.n t.2.1))),(75,.cells 0 (ZI (nz t.2.1))),(76,.cells 0 (t.2.2.flatMap edC)),(77,.cells 0 (ZI (nz (mks a t.1 t.2.1))))]) (fun t=>t.1<=a.n/\SI a.n a.es tru t.1 t.2/\t.2.2.length<=t.1*1000000/\sQ a.es tru (a.n+1-t.1) t.1 t.2=sAll a tru) (fun t=>a.n+1-t.1) (0,([0],[])) 2 260 (fun _:Unit=>[(2,.ptr 60 0 0),(3,.ptr 69 0 0),(6,.sl 75 0 0 (sAll a tru).1.length 1)]) (fun _=>[(60,.cells 0 rsN),(69,.cells 0 (cnB a (ZR a tru).ms.length (ZR a tru).es.length)),(83,.cells 0 (ZI (nz a.al))),(75,.cells 0 (ZI (nz (sAll a tru).1))),(76,.cells 0 ((ZR a tru).es.flatMap edC)),(77,.cells 0 (ZI (nz (ZR a tru).ms)))]) (fun _=>True) ?_ ⟨Zaj _,d,Zaj _,hq0⟩ ?_ ?_;·dsimp only;have P:mks a 0 [0]=[]:=rfl;rw[P];exact⟨[(50,.blk 50 0),(60,.blk 60 0),(69,.blk 69 0),(83,.blk 83 0),(78,.blk 78 0),(75,.blk 123 0),(76,.nil),(77,.nil)],rfl,au0,au13,au14⟩
 ·rintro⟨i,s⟩⟨hi,d,T,V⟩;dsimp only at hi d T V⊢;have hfl:=d.fi.len;have hile:=d.le;by_cases k:i<s.1.length
  ·obtain⟨v,A⟩:=Qak k;have hvn:=d.fi.lt v (Zaa A);have E:i<a.n:=by omega
   have F:=d.step h.esn A;have N:sQ a.es tru (a.n+1-(i+1)) (i+1) (sRow a.es tru i v s)=sAll a tru:=by rw[<-V,show a.n+1-i=(a.n+1-(i+1))+1 by omega];simp only[sQ,A]
   have C:=fun j=>Qc5 (n:=a.n) (left:=tru) i ((ZO a.es tru v).take j) s (fun e he=>⟨(h.esn e (QaV.1 (ZaX he)).1).2,rfl⟩) d.fi d.lft;have hol:=QcM a.es tru v;have B:=QfZ (a:=a) A;have hmsl:=@Qfy a i s.1;have y:mks a (i+1) (sRow a.es tru i v s).1=mks a (i+1) s.1:=by obtain⟨_,_,⟨t,ht⟩,_⟩:=Qc5 (n:=a.n) (left:=tru) i (ZO a.es tru v) s (fun e he=>⟨(h.esn e (QaV.1 he).1).2,rfl⟩) d.fi d.lft;have ht:(sRow a.es tru i v s).1=s.1++t:=ht;rw[ht,Qkf (by omega)]
   have hc:=find57 a.ms v O (by omega);have ho:=out58 a v h Y (by omega);generalize hM0:mks a i s.1=M0 at*;generalize hM:mks a (i+1) s.1=M at*;refine Zc7 (Zc8 k (QbG (nz_at A))) ?_;refine cp hc ?_;by_cases o:a.ms.contains v=true
   ·rw[if_pos o]at B;rw[o];refine Zc7 (Zc8 k (QbG (nz_at A))) ?_;refine cp ho ?_;refine Zc6 ?_;refine Qas 300 (fun j:Nat=>[(1,.ptr 50 0 0),(2,.ptr 60 0 0),(3,.ptr 69 0 0),(4,.sl 78 0 0 a.n 1),(6,.sl 75 0 0 (((ZO a.es tru v).take j).foldl (sEd i) s).1.length 1),(7,.int .i64 i),(63,egsN (ZO a.es tru v)),(64,.int .i64 (ZO a.es tru v).length),(65,.int .i64 j)]) (fun j=>[(50,.cells 0 (rsA a)),(60,.cells 0 rsN),(69,.cells 0 (cnB a M.length (((ZO a.es tru v).take j).foldl (sEd i) s).2.length)),(83,.cells 0 (ZI (nz a.al))),(78,.cells 0 (ZI (pl a.n (((ZO a.es tru v).take j).foldl (sEd i) s).1))),(75,.cells 0 (ZI (nz (((ZO a.es tru v).take j).foldl (sEd i) s).1))),(76,.cells 0 ((((ZO a.es tru v).take j).foldl (sEd i) s).2.flatMap edC)),(77,.cells 0 (ZI (nz M)))]) (fun j=>j<=(ZO a.es tru v).length) (fun j=>(ZO a.es tru v).length-j) 0 4 400 (fun _:Unit=>[(1,.ptr 50 0 0),(2,.ptr 60 0 0),(3,.ptr 69 0 0),(4,.sl 78 0 0 a.n 1),(6,.sl 75 0 0 (sRow a.es tru i v s).1.length 1),(7,.int .i64 i)]) (fun _=>[(50,.cells 0 (rsA a)),(60,.cells 0 rsN),(69,.cells 0 (cnB a M.length (sRow a.es tru i v s).2.length)),(83,.cells 0 (ZI (nz a.al))),(78,.cells 0 (ZI (pl a.n (sRow a.es tru i v s).1))),(75,.cells 0 (ZI (nz (sRow a.es tru i v s).1))),(76,.cells 0 ((sRow a.es tru i v s).2.flatMap edC)),(77,.cells 0 (ZI (nz M)))]) (fun _=>True) ?_ (Zaj _) ?_ ?_;·rw[B,Zag,QaM,QaB];exact⟨[(50,.blk 50 0),(60,.blk 60 0),(69,.blk 69 0),(83,.blk 83 0),(78,.blk 78 0),(75,.blk 75 0),(76,.blk 76 0),(77,.blk 77 1)],rfl,au0,au13,au14⟩
    ·exact bCBln
    exact bBTdu
   rw[if_neg o,Zas]at B;rw[Zam]at o;rw[o];refine Zc7 (Zc8 k (QbG (nz_at A))) ?_;refine cp ho ?_;refine Zc6 ?_;refine Qas 300 (fun j:Nat=>[(1,.ptr 50 0 0),(2,.ptr 60 0 0),(3,.ptr 69 0 0),(4,.sl 78 0 0 a.n 1),(6,.sl 75 0 0 (((ZO a.es tru v).take j).foldl (sEd i) s).1.length 1),(7,.int .i64 i),(63,egsN (ZO a.es tru v)),(64,.int .i64 (ZO a.es tru v).length),(65,.int .i64 j)]) (fun j=>[(50,.cells 0 (rsA a)),(60,.cells 0 rsN),(69,.cells 0 (cnB a M.length (((ZO a.es tru v).take j).foldl (sEd i) s).2.length)),(83,.cells 0 (ZI (nz a.al))),(78,.cells 0 (ZI (pl a.n (((ZO a.es tru v).take j).foldl (sEd i) s).1))),(75,.cells 0 (ZI (nz (((ZO a.es tru v).take j).foldl (sEd i) s).1))),(76,.cells 0 ((((ZO a.es tru v).take j).foldl (sEd i) s).2.flatMap edC)),(77,.cells 0 (ZI (nz M)))]) (fun j=>j<=(ZO a.es tru v).length) (fun j=>(ZO a.es tru v).length-j) 0 4 400 (fun _:Unit=>[(1,.ptr 50 0 0),(2,.ptr 60 0 0),(3,.ptr 69 0 0),(4,.sl 78 0 0 a.n 1),(6,.sl 75 0 0 (sRow a.es tru i v s).1.length 1),(7,.int .i64 i)]) (fun _=>[(50,.cells 0 (rsA a)),(60,.cells 0 rsN),(69,.cells 0 (cnB a M.length (sRow a.es tru i v s).2.length)),(83,.cells 0 (ZI (nz a.al))),(78,.cells 0 (ZI (pl a.n (sRow a.es tru i v s).1))),(75,.cells 0 (ZI (nz (sRow a.es tru i v s).1))),(76,.cells 0 ((sRow a.es tru i v s).2.flatMap edC)),(77,.cells 0 (ZI (nz M)))]) (fun _=>True) ?_ (Zaj _) ?_ ?_;·rw[B];exact⟨[(50,.blk 50 0),(60,.blk 60 0),(69,.blk 69 0),(83,.blk 83 0),(78,.blk 78 0),(75,.blk 75 0),(76,.blk 76 0),(77,.blk 77 0)],rfl,au0,au13,au14⟩
   ·exact bCBln
   exact bBTdu
  have A:s.1[i]?=none:=ZaG (by omega);have H:s=sAll a tru:=by rw[<-V,show a.n+1-i=(a.n-i)+1 by omega];simp only[sQ,A]
  have hil:i=s.1.length:=by omega
  have hmf:mks a i s.1=(ZR a tru).ms:=by rw[hil,H];rfl
  have hef:s.2=(ZR a tru).es:=by rw[H];rfl
  refine Zc7 k ?_;refine⟨(),?_⟩;rw[hmf,hef,<-H];exact⟨[(60,.blk 60 0),(69,.blk 69 0),(83,.blk 83 0),(75,.blk 75 0),(76,.blk 76 0),(77,.blk 77 0)],rfl,au0,au13,au14⟩
 rintro _ _;have hra:(ZR a tru).al=a.al:=rfl;have hrn2:(ZR a tru).n=(sAll a tru).1.length:=rfl;refine Zc6 ?_;refine⟨.inr trivial,_,rfl,?_⟩;exact Rn.agg (ZcK (ZcM (g:=0) rfl (by simp[ZI,hra]) (Zct (Qaa _))) (ZcK (Zcs rfl) (ZcK (ZcM (g:=0) rfl (by simp[ZI]) (Zct (Qaa _))) (ZcK (ZcM (g:=0) rfl (QbH _) (Zct (Qag _))) ZcJ))))
end Go.AM.SE
namespace Go.AM.SO
open Go.Proofs Go.AM.SD Go.AM.SE
theorem check112(a)(h:WfA a)(b:a.es.length<=1000000):Ps 66 [aV a] (.int .i64 0):=by have:=check37 (au a) (WfA.auOk h b);rwa[Qv8]at this
theorem isCanon60(a)(h:WfA a)(b:a.es.length<=1000000)(hc:ZR a (fun _=>true)=a):Ps 191 [aV a] (.bool true):=by have h1:=canonical44 a h b;have c:ZR a tru=a:=hc;rw[c]at h1;have f:=h.n5;have g:a.al.length<=32:=Qa1 32 a.al (by rw[ZaN];exact h.al.imp fun h=>by omega) h.al5;have i:a.ms.length<=a.n:=Qa1 a.n a.ms h.nd h.msn;have ho:AOk a:=⟨by omega,by omega,by omega⟩;have d:=eq43 a a ho ho;rw[QgY]at d;refine Zcv 64 (Ok s191) rfl (by(try simp only[noRefs,Qaa,Qam,Qag,Qan,Qai,noRef,Zae,Zad])<;>rfl) rfl ?_;unfold s191;refine ZcY ?_;refine cp (check112 a h b) ?_;refine ZcY ?_;refine cp h1 ?_;refine ZcY ?_;refine cp d ?_;refine ZcY ?_;exact⟨.inr trivial,_,rfl,rfl⟩
end Go.AM.SO
namespace Go.AM.SP
open Go.Proofs
noncomputable section
def isTrue:AV->Bool|.bool true=>true|_=>false
theorem Qr3:∀u,isTrue u=true->u=.bool true:=by
 intro u h;unfold isTrue at h;split at h;·rfl
 cases h
def nameB(s:List UInt8):Bool:=callR ansB noOrc SK.ft.get (exR ansB noOrc SK.ft.get 1000) (.c .pure) 165 [.str s] .e 64 (fun u _ _=>isTrue u)
theorem QcD{s}(h:nameB s=true):Ps 165 [.str s] (.bool true):=Qb6 (t:=SK.ft) SK.ft_ok QdK (d:=1000) isTrue Qr3 h
theorem Qwg:Ps 165 [.str [97]] (.bool true):=QcD (by kernel_rfl)
theorem Qwh:Ps 165 [.str [98]] (.bool true):=QcD (by kernel_rfl)
theorem QjE:Ps 165 [.str [99]] (.bool true):=QcD (by kernel_rfl)
theorem Qwi:Ps 165 [.str [100]] (.bool true):=QcD (by kernel_rfl)
theorem Qwj:Ps 165 [.str [101]] (.bool true):=QcD (by kernel_rfl)
theorem QuT:Ps 165 [.str [99,48]] (.bool true):=QcD (by kernel_rfl)
theorem QuU:Ps 165 [.str [99,49]] (.bool true):=QcD (by kernel_rfl)
theorem QuV:Ps 165 [.str [99,50]] (.bool true):=QcD (by kernel_rfl)
theorem QuW:Ps 165 [.str [114,48]] (.bool true):=QcD (by kernel_rfl)
theorem QuX:Ps 165 [.str [114,49]] (.bool true):=QcD (by kernel_rfl)
end
end Go.AM.SP
namespace Go.AM.SO
open Go.Proofs Go.AM.SD Go.AM.SE
structure Evt where
 c:Bool
 o:Bool
 f:Bool
 flt:Nat
def Evt.Ok(e:Evt):Prop:=e.flt<=4/\(e.flt≠0->e.c=false/\e.o=false)
def evC(i:Nat)(e:Evt):List AV:=[.str [UInt8.ofNat (97+i)],.bool e.c,.bool e.o,.bool e.f,.int .i64 (e.flt:Int)]
abbrev evsC(e:Nat->Evt):List AV:=evC 0 (e 0)++evC 1 (e 1)++evC 2 (e 2)++evC 3 (e 3)++evC 4 (e 4)
abbrev evsV(e:Nat->Evt):AV:=.fsl (evsC e) 5 5
theorem Qwk(e){i}(hi:i<5):((evsC e).drop (i*5)).take 5=evC i (e i):=by
 have:i=0\/i=1\/i=2\/i=3\/i=4:=by omega
 rcases this with rfl|rfl|rfl|rfl|rfl<;>rfl
theorem Qhj(e):(evsC e).length=25:=rfl
theorem QuY{i}(hi:i<5):Ps 165 [.str [UInt8.ofNat (97+i)]] (.bool true):=by
 have:i=0\/i=1\/i=2\/i=3\/i=4:=by omega
 rcases this with rfl|rfl|rfl|rfl|rfl;·exact SP.Qwg
 ·exact SP.Qwh
 ·exact SP.QjE
 ·exact SP.Qwi
 exact SP.Qwj
end Go.AM.SO
namespace Go.AM
variable{P:Program}
variable{v z:AV}{l:List (List UInt8)}{x y:List UInt8}{f:List UInt8->AV}{b g:Nat}
def mapS(f:List UInt8->AV)(l:List (List UInt8)):List (AV×AV):=l.map fun x=>(.str x,f x)
def updS(f:List UInt8->AV)(x:List UInt8)(v:AV):List UInt8->AV:=fun y=>if y=x then v else f y
theorem QgZ:keyEq false [.s] (.str x) (.str y)=some (decide (x=y)):=by simp_all[keyEq,ZE,eqCell]
theorem Qf1:∀(l:List (List UInt8))(i:Nat),x∉l->aFind false [.s] (.str x) (mapS f l) i=some none|[],_,_=>rfl|y::l,i,a=>by simp only[Zav,not_or]at a;show(match keyEq false [.s] (.str x) (.str y)with|some true=>_|some false=>_|none=>_)=_;rw[QgZ,decide_eq_false a.1];exact Qf1 l (i+1) a.2
theorem QtL(a:x∉l):mapS f l++[(.str x,v)]=mapS (updS f x v) (l++[x]):=by grind[mapS,updS,Zbf]
theorem QlR:keyOK false [.s] (.str x)=true:=by unfold keyOK;rw[QgZ]
section
variable{N:NM}{d:Option Nat}{r:List SOper}{dead:List Nat}{fs:List Fr}{n:Nat}{T:Tmps}{h:Heap}{Q:QC}
theorem Qg0{ok:Bool}(a:h.get b=some (.map g (mapS f l)))(c:x∉l)(hk:wR P N r dead fs (n+1) (putD T d (if ok then .tup [z,.bool false]else z)) h Q):wM P N (aLookup false [.s] z ok (.map b g) (.str x)) d r dead fs n T h Q:=by refine⟨_,h,?_,hk⟩;simp_all[aLookup,QlR,HM.entries,HM.run,Qf1]
theorem QeW(k:h.get b=some (.map g (mapS f l)))(c:x∉l)(i:b<1099511627775)(hk:wR P N r dead fs (n+1) (putD T d .any) (h.set b (.map g (mapS (updS f x v) (l++[x])))) Q):wM P N (aMapUpd false [.s] (.map b g) (.str x) v) d r dead fs n T h Q:=by
 refine⟨_,_,?_,hk⟩;have m:Nat.beq g g=true:=by simp
 have a:Nat.blt b lim=true:=by simp[Nat.blt];exact i
 unfold aMapUpd;rw[if_pos QlR];simp only[HM.entries,HM.run,k,m,cond_true,Qf1 l 0 c,a,QtL c]
end
theorem RnM.mapS{m}{π}{h}{f g}:∀{l:List (List UInt8)},(∀x∈l,Rn m π h (f x) (g x))->RnM m π h (mapS f l) (mapS g l)|[],_=>trivial|x::l,hf=>⟨⟨Zcs rfl,hf x (by simp)⟩,RnM.mapS (l:=l) fun y a=>hf y (by simp[a])⟩
end Go.AM
namespace Go.AM.SO
open Go.Proofs Go.AM.SD Go.AM.SE
variable{b i:Nat}
def nmL(i:Nat):List (List UInt8):=(List.range i).map fun j=>[UInt8.ofNat (97+j)]
theorem QtM{i}:nmL (i+1)=nmL i++[[UInt8.ofNat (97+i)]]:=by unfold nmL;rw[ZaK,ZaJ];rfl
theorem QuZ(hi:i<5):[UInt8.ofNat (97+i)]∉nmL i:=by
 have:i=0\/i=1\/i=2\/i=3\/i=4:=by omega
 rcases this with rfl|rfl|rfl|rfl|rfl<;>decide
abbrev yes:List UInt8->AV:=fun _=>.bool true
theorem QiI{x}:updS yes x (.bool true)=yes:=by funext y;simp[updS]
theorem Qr4(e):noRefs [evsV e]=true:=rfl
theorem check82(e:Nat->Evt)(he:∀i,i<5->(e i).Ok):Ps 102 [evsV e] (.int .i64 0):=by
 refine Zcv 64 (Ok s102) rfl (Qr4 e) rfl ?_;unfold s102;refine Zc6 ?_;refine QaC 100 (fun i:Nat=>[(10,evsV e),(11,.int .i64 5),(12,.int .i64 i),(3,.map 68 0)]) (fun i=>[(68,.map 0 (mapS yes (nmL i)))]) (fun i=>i<=5) (fun i=>5-i) 0 ⟨[(68,.blk 68 0)],rfl,au0,?_,au8⟩ (Zaj _) ?_;·exact ZcG rfl rfl rfl trivial ZcD
 rintro i hi;by_cases d:i<5
 ·have a:(i:Int)<5:=by omega
  have g:=Qwk e d;have m:5<=(List.drop (i*5) (evsC e)).length:=by rw[ZaR,Qhj];omega
  have f:evC i (e i)=[.str [UInt8.ofNat (97+i)],.bool (e i).c,.bool (e i).o,.bool (e i).f,.int .i64 ((e i).flt:Int)]:=rfl;obtain⟨o,hc⟩:=he i d;generalize e i=s at g f o hc;obtain⟨v,u,t,b⟩:=s;dsimp only at g f o hc;have c:=QuZ d;have k:=@QtM i;have h:=QuY d;generalize UInt8.ofNat (97+i)=ch at f c k h;refine Zc7 (Zda a g m f) ?_;refine cp h ?_;refine Zc6 ?_;refine Qg0 rfl c ?_;have n:¬(b:Int)<0:=by omega
  have p:¬4<(b:Int):=by omega
  by_cases q:b=0
  ·have l:(b:Int)=0:=by omega
   exact bbkqv
  have l:¬(b:Int)=0:=by omega
  obtain⟨rfl,rfl⟩:=hc q;exact bbkqv
 have a:¬(i:Int)<5:=by omega
 refine Zc7 a ?_;exact⟨.inr trivial,_,rfl,rfl⟩
def evOf(b:Nat):Evt:=if 48<=b/\b<52 then⟨false,false,false,b-47⟩else⟨decide (b&&&1=1),decide (b&&&2=2),decide (b&&&4=4),0⟩
theorem Qu0(b):(evOf b).Ok:=by
 unfold evOf;split;·exact⟨by grind,fun _=>⟨rfl,rfl⟩⟩
 exact⟨by simp_all,fun h=>absurd rfl h⟩
theorem andN(b m:Nat)(a:b<256)(hm:m<256):(BitVec.ofInt 8 (b:Int)&&&BitVec.ofInt 8 (m:Int)).toNat=b&&&m:=by grind
theorem QnE(b m)(hm:m<256):b&&&m<256:=Nat.lt_of_le_of_lt Nat.and_le_right hm
theorem Qr5(a:b<256):aBin .and (.int .u8 (b:Int)) (.int .u8 1)=some (.int .u8 ((b&&&1:Nat):Int)):=by have:=andN b 1 a (by omega);have c:=QnE b 1 (by omega);simp only[aBin,if_true];rw[show IntKind.u8.bits=8 from rfl,show(1:Int)=((1:Nat):Int)from rfl,this,wr_u8 (by omega) (by omega)]
theorem Qr6(a:b<256):aBin .and (.int .u8 (b:Int)) (.int .u8 2)=some (.int .u8 ((b&&&2:Nat):Int)):=by have:=andN b 2 a (by omega);have c:=QnE b 2 (by omega);simp only[aBin,if_true];rw[show IntKind.u8.bits=8 from rfl,show(2:Int)=((2:Nat):Int)from rfl,this,wr_u8 (by omega) (by omega)]
theorem Qr7(a:b<256):aBin .and (.int .u8 (b:Int)) (.int .u8 4)=some (.int .u8 ((b&&&4:Nat):Int)):=by have:=andN b 4 a (by omega);have c:=QnE b 4 (by omega);simp only[aBin,if_true];rw[show IntKind.u8.bits=8 from rfl,show(4:Int)=((4:Nat):Int)from rfl,this,wr_u8 (by omega) (by omega)]
def evP(F:List Nat)(i:Nat):List AV:=(List.range i).flatMap fun j=>evC j (evOf (F.getD j 0))
theorem QnF{F}{i}:evP F (i+1)=evP F i++evC i (evOf (F.getD i 0)):=by simp_all[evP,ZaK]
theorem Qkh{F}:∀{i:Nat},(evP F i).length=i*5|0=>rfl|i+1=>by rw[QnF,Zag,Qkh];simp[evC];omega
end Go.AM.SO
theorem Go.AM.b5bGI{p:Prop}(h:p:=by
 refine⟨i+1,by omega,by omega,?_⟩;rw[ev];refine⟨[(50,.blk 50 1),(64,.blk 64 0)],rfl,au0,?_,au16⟩;exact ZcE rfl rfl gg (Zct (Qds _ _)) (ZcE rfl rfl gg (Zct (QaQ _)) ZcD)):p:=h
theorem Go.AM.bs76m{p:Prop}(h:p:=by
 refine⟨[(50,.blk 50 0),(51,.blk 51 0),(52,.blk 52 0)],rfl,au0,?_,au16⟩;exact ZcE rfl rfl gg (Zct b) (ZcE rfl rfl gg (Zct rfl) (ZcE rfl rfl gg (ZcK (Zcs rfl) (ZcK (Zcs (QaJ _)) (ZcK (Zcs (QaJ _)) (ZcK (ZcL rfl rfl rfl rfl (QeX _) (Zct (QaX _))) (Zct rfl))))) ZcD))):p:=h
theorem Go.AM.bgzqY{p:Prop}(h:p:=by
 refine⟨[(50,.blk 50 0),(51,.blk 51 0)],rfl,au0,?_,au20⟩;exact ZcE rfl rfl gg (Zct a) (ZcE rfl rfl gg (Zct b) ZcD)):p:=h
theorem Go.AM.bIaJD{p:Prop}(h:p:=by
 refine⟨i+1,by omega,by omega,?_⟩;refine⟨[(50,.blk 50 0)],rfl,au0,?_,au20⟩;exact ZcE rfl rfl gg (Zct a) ZcD):p:=h
theorem Go.AM.bKVSY{p:Prop}(h:p:=by
 refine Zc7 b ?_;refine⟨(),?_⟩;refine⟨[(50,.blk 50 0)],rfl,au0,?_,au20⟩;exact ZcE rfl rfl gg (Zct a) ZcD):p:=h
theorem Go.AM.b3XkW{p:Prop}(h:p:=by
 refine⟨[(50,.blk 50 0),(68,.blk 68 0)],rfl,au0,?_,au20⟩;exact ZcE rfl rfl gg (Zct a) (ZcG rfl rfl gg (RnM.mapS fun _ _=>Zcs rfl) ZcD)):p:=h
theorem Go.AM.btx2Y{p:Prop}(h:p:=by
 exact⟨(),[],rfl,ZcA,ZcD,ZcC (ZcL (b:=60) (g:=0) gg rfl rfl (Zax ..) (by rw[QgP,Zax]) (Zct (Qaz _))) ZcB⟩):p:=h
theorem Go.AM.b3Dqd{p:Prop}(h:p:=by
 have m:i=5:=by omega
 subst m;refine Zc6 ?_;refine⟨(),?_⟩;exact⟨[],rfl,ZcA,ZcD,ZcC (ZcL (b:=76) (g:=0) gg rfl rfl (by simp) (by simp[ZI]) (Zct (Qaa _))) ZcB⟩):p:=h
theorem Go.AM.bVayR{p:Prop}(h:p:=by
 refine Zc7 hu ?_;refine cp hH ?_;refine Zc6 ?_;exact⟨.inr trivial,_,rfl,Zcs (by simp only[noRef,noRefs,Qaa];rfl)⟩):p:=h
namespace Go.AM.SO
open Go.Proofs Go.AM.SD Go.AM.SE
variable{a:Aut}{es:List Ed}{T al l:List Nat}{i mk n st:Nat}
structure Cel where
 ev:Nat->Evt
 cs:List (Nat×Aut)rs:List (Nat×Aut)xs:List (Nat×List (Nat×Nat))ks:List (List (Nat×Int)×Int)
def itC(ch:UInt8)(x:Nat×Aut):List AV:=[.str [ch,UInt8.ofNat (48+x.1)],ZN x.2.al,.int .i64 (x.2.n:Int),ZN x.2.ms,egsN x.2.es]
def loC(x:Nat×Nat):List AV:=[.int .i64 (x.1:Int),.int .i64 (x.2:Int)]
abbrev los(l:List (Nat×Nat)):AV:=.fsl (l.flatMap loC) l.length 2
def exC(x:Nat×List (Nat×Nat)):List AV:=[.str [101,UInt8.ofNat (48+x.1)],los x.2]
def teC(x:Nat×Int):List AV:=[.int .i64 (x.1:Int),.int .i64 x.2]
abbrev tes(l:List (Nat×Int)):AV:=.fsl (l.flatMap teC) l.length 2
def coC(x:List (Nat×Int)×Int):List AV:=[.str [107],tes x.1,.int .i64 x.2]
abbrev its(ch:UInt8)(l:List (Nat×Aut)):AV:=.fsl (l.flatMap (itC ch)) l.length 5
abbrev exs(l:List (Nat×List (Nat×Nat))):AV:=.fsl (l.flatMap exC) l.length 2
abbrev cos(l:List (List (Nat×Int)×Int)):AV:=.fsl (l.flatMap coC) l.length 3
abbrev celV(c:Cel):AV:=.agg [evsV c.ev,its 99 c.cs,its 114 c.rs,exs c.xs,cos c.ks]
structure WfI(a:Aut):Prop where
 wf:WfA a
 a5:∀x∈a.al,x<5
 pos:0<a.n
 n3:a.n<=3
 can:ZR a (fun _=>true)=a
 el:a.es.length<=25
structure WfJ(a:Aut):Prop where
 wf:WfA a
 pos:0<a.n
 n10:a.n<=10
theorem WfI.j(h:WfI a):WfJ a:=⟨h.wf,h.pos,by have:=h.n3;omega⟩
structure WfCel(c:Cel):Prop where
 ev:∀i,i<5->(c.ev i).Ok
 c0:0<c.cs.length
 c3:c.cs.length<=3
 r2:c.rs.length<=2
 x2:c.xs.length<=2
 k1:c.ks.length<=1
 cn:c.cs.map (·.1)=List.range c.cs.length
 rn:c.rs.map (·.1)=List.range c.rs.length
 xn:(c.xs.map (·.1)).Pairwise (·<·)/\∀x∈c.xs,x.1<2
 ca:∀x∈c.cs,WfI x.2
 ra:∀x∈c.rs,WfI x.2
 rsub:∀x∈c.rs,∀e∈x.2.al,∃y∈c.cs,e∈y.2.al
 xl:∀x∈c.xs,x.2≠[]/\(x.2.map (·.1)).Pairwise (·<·)/\∀l∈x.2,∃y,c.cs[l.1]?=some y/\l.2<y.2.n
 kl:∀x∈c.ks,x.1≠[]/\(x.1.map (·.1)).Pairwise (·<·)/\(∀t∈x.1,t.1<c.cs.length/\t.2≠0/\-4<t.2/\t.2<4)/\-8<x.2/\x.2<8
theorem QqG(h:l.Pairwise (·<·)){p q}(a:p<q)(b:q<l.length):l.getD p 0<l.getD q 0:=by grind[Za0]
theorem partLt{b}:∀x∈SD.part n b,x<n:=fun x a=>(Qna.1 a).1
theorem Qu1(f:al.Pairwise (·<·))(k:∀x∈al,x<5):WfA (gRaw al st mk T):=by
 have o:=Qf0 (st:=st) (mk:=mk) (T:=T) (QbZ f k);have a:=o.esn;have b:=o.n5;unfold gRaw at a b⊢;split;·exact⟨f,fun x d=>by have:=k x d;omega,by simp,by simp,by simp,by simp,by simp,by simp⟩
 rename_i l;rw[if_neg l]at a b;have t:∀i,∀e∈gRow al (1+st%5) T i al.length,e.1=i/\∃j,j<al.length/\e.2.1=al.getD j 0:=fun i e he=>by unfold gRow at he;obtain⟨j,v,hm⟩:=ZbW.1 he;unfold gEd at hm;grind
 refine⟨f,fun x d=>by have:=k x d;omega,by dsimp only at b⊢;omega,Qd4 _ _,partLt,?_,a,fun e he=>?_⟩
 ·show(gPre _ _ _ _).Pairwise _;unfold gPre;refine Qc4 (fun i _=>?_) (List.pairwise_lt_range.imp fun s x d y n=>.inl ?_)
  ·unfold gRow;refine List.Pairwise.filterMap _ (R:=fun j m=>j<m/\m<al.length) ?_ (List.pairwise_lt_range.imp_of_mem fun _ u h=>⟨h,Zau.1 u⟩);rintro x y⟨g,n⟩p hp q c;unfold gEd at hp c;split at hp
   ·split at c;·cases hp;cases c;exact .inr ⟨rfl,QqG f g n⟩
    cases c
   cases hp
  grind
 grind[gPre]
theorem Qu2(b:al.Pairwise (·<·))(a:∀x∈al,x<5):ZR (mkA al st mk T) (fun _=>true)=mkA al st mk T:=by have h:=Qu1 (st:=st) (mk:=mk) (T:=T) b a;show ZR (canon _) _=canon _;grind[QoP,QoL]
theorem QnG{es}{s}:∀{L:List Nat}{out:List Nat},out.length<=(L.foldl (fEv es s) out).length|[],out=>Zar _|e::L,out=>by rw[ZaS];refine ZaC ?_ (QnG (L:=L));grind[fEv]
theorem Qr8:∀(k i:Nat)(out:List Nat),out.length<=(fQ al es k i out).length
 |0,_,_=>Zar _|k+1,i,out=>by
  unfold fQ;split;·exact ZaC QnG (Qr8 k (i+1) _)
  omega
theorem QpF(b:al.Pairwise (·<·))(a:∀x∈al,x<5)(k:st<3):WfI (mkA al st mk T):=by
 have d:=Qf0 (st:=st) (mk:=mk) (T:=T) (QbZ b a);have e:gRaw al st mk T=⟨al,1+st%5,SD.part (1+st%5) mk,gPre al (1+st%5) T (1+st%5)⟩:=if_neg (by omega);have c:(gRaw al st mk T).n<=3:=by grind
 have hf:(found (gRaw al st mk T)).length<=(gRaw al st mk T).n:=Qa1 _ _ (QfT d.esn).1.nd (QfT d.esn).1.lt;have h1:=QiF (gRaw al st mk T) (found (gRaw al st mk T)) (found (gRaw al st mk T)).length;refine⟨Qwf b a,fun x f=>a x (by rwa[show(mkA al st mk T).al=al from by show(gRaw al st mk T).al=al;rw[e]]at f),?_,ZaC hf c,Qu2 b a,?_⟩
 ·show 0<(found (gRaw al st mk T)).length;have g:0<(gRaw al st mk T).n:=by grind
  unfold found;rw[if_pos g];exact Zbb (by simp) (Qr8 _ _ _)
 have i:(mkA al st mk T).es.length=(cPre (gRaw al st mk T) (found (gRaw al st mk T)) (found (gRaw al st mk T)).length).length:=rfl;rw[i];have h:(gRaw al st mk T).al.length<=5:=by simp_all[QbZ]
 refine ZaC h1 (ZaC (Nat.mul_le_mul (ZaC hf c) h) (by decide))
structure Pln where
 L:List Nat
 X:List Nat
 xn:Nat
 f0:Int
 f1:Int
 f2:Int
 bd:Int
structure POk(p:Pln):Prop where
 L:p.L.length=147
 L8:∀x∈p.L,x<256
 X:p.X.length=p.xn*4
 X8:∀x∈p.X,x<256
 f0:-128<=p.f0/\p.f0<128
 f1:-128<=p.f1/\p.f1<128
 f2:-128<=p.f2/\p.f2<128
 bd:-128<=p.bd/\p.bd<128
abbrev plnC(p:Pln):List AV:=u8s p.L++[.fsl (u8s p.X) p.xn 4,.int .i8 p.f0,.int .i8 p.f1,.int .i8 p.f2,.int .i8 p.bd]
abbrev plnV(p:Pln):AV:=.agg (plnC p)
variable(p:Pln)
def pN:Nat:=1+p.L.getD 5 0%3
def pM:Nat:=p.L.getD 90 0%3
def pA(i:Nat):Aut:=mkA (SD.part 5 (p.L.getD (6+i) 0)) (p.L.getD (9+i*27) 0%3) (p.L.getD (9+i*27+1) 0) ((p.L.drop (9+i*27+2)).take 25)
def pAll:Nat->Nat|0=>0|i+1=>pAll i|||p.L.getD (6+i) 0%32
def pW(i:Nat):List Nat:=(SD.part 5 (p.L.getD (91+i) 0)).filter fun x=>(pAll p (pN p)).testBit x
def pR(i:Nat):Aut:=mkA (pW p i) (p.L.getD (93+i*27) 0%3) (p.L.getD (93+i*27+1) 0) ((p.L.drop (93+i*27+2)).take 25)
def pCs(n:Nat):List (Nat×Aut):=(List.range n).map fun i=>(i,pA p i)
def pRs(n:Nat):List (Nat×Aut):=(List.range n).map fun i=>(i,pR p i)
def pLo(i:Nat):Nat->List (Nat×Nat)|0=>[]|k+1=>if p.X.getD (i*4+k) 0%((pA p k).n+2)<(pA p k).n then pLo i k++[(k,p.X.getD (i*4+k) 0%((pA p k).n+2))]else pLo i k
def pXs:Nat->List (Nat×List (Nat×Nat))|0=>[]|i+1=>if 0<(pLo p i (pN p)).length then pXs i++[(i,pLo p i (pN p))]else pXs i
def pF(i:Nat):Int:=if i=0 then p.f0 else if i=1 then p.f1 else p.f2
def pT:Nat->List (Nat×Int)|0=>[]|i+1=>if pF p i=0 then pT i else pT i++[(i,(pF p i).tmod 4)]
def pT0:List (Nat×Int):=(pT p (pN p)).filter fun t=>!(decide (t.2=0))
def pKs:List (List (Nat×Int)×Int):=if 0<(pT0 p).length then[(pT0 p,p.bd.tmod 8)]else[]
def mkC:Cel:=⟨fun i=>evOf ((p.L.take 5).getD i 0),pCs p (pN p),pRs p (pM p),pXs p (min p.xn 2),pKs p⟩
variable{p}
theorem pN_le:1<=pN p/\pN p<=3:=by unfold pN;omega
theorem pM_le:pM p<=2:=by unfold pM;omega
theorem QlS(i):(pW p i).Pairwise (·<·):=(Qd4 _ _).filter _
theorem pW_lt(i):∀x∈pW p i,x<5:=fun x a=>partLt x (ZaZ.1 a).1
theorem pA_wf(i):WfI (pA p i):=QpF (Qd4 _ _) partLt (by omega)
theorem pR_wf(i):WfI (pR p i):=QpF (QlS i) (pW_lt i) (by omega)
theorem Qr9:(mkA al st mk T).al=al:=by show(gRaw al st mk T).al=al;grind[gRaw]
theorem QjF:∀{n:Nat},∀x∈pLo p i n,x.1<n/\x.2<(pA p x.1).n
 |0,x,h=>by cases h|n+1,x,h=>by
  unfold pLo at h;split at h
  ·rename_i hc;rcases ZaE.1 h with h|h;·have:=QjF x h;omega
   simp_all
  have:=QjF x h;omega
theorem Qf2:∀{n:Nat},((pLo p i n).map (·.1)).Pairwise (·<·)
 |0=>by simp[pLo]|n+1=>by
  unfold pLo;split;·rw[ZaJ,Zbg];refine⟨Qf2,by simp,fun x c y a=>?_⟩;simp at a;subst a;obtain⟨z,b,rfl⟩:=Zaq.1 c;exact(QjF z b).1
  exact Qf2
theorem Qg1:∀{n:Nat},∀x∈pXs p n,x.1<n/\x.2=pLo p x.1 (pN p)/\x.2≠[]
 |0,x,h=>by cases h|n+1,x,h=>by
  unfold pXs at h;split at h
  ·rename_i hc;rcases ZaE.1 h with h|h;·have:=Qg1 x h;grind
   grind
  have:=Qg1 x h;grind
theorem Qf3:∀{n:Nat},((pXs p n).map (·.1)).Pairwise (·<·)
 |0=>by simp[pXs]|n+1=>by
  unfold pXs;split;·rw[ZaJ,Zbg];refine⟨Qf3,by simp,fun x c y a=>?_⟩;simp at a;subst a;obtain⟨z,b,rfl⟩:=Zaq.1 c;exact(Qg1 z b).1
  exact Qf3
theorem Qki:∀{n:Nat},(pXs p n).length<=n|0=>by simp[pXs]|n+1=>by have:=@Qki n;grind[pXs]
theorem Qkj{i}:∀{n:Nat},(pLo p i n).length<=n|0=>by simp[pLo]|n+1=>by have:=@Qkj i n;grind[pLo]
theorem QnH:∀{n:Nat},(pT p n).length<=n|0=>by simp[pT]|n+1=>by have:=@QnH n;grind[pT]
theorem pT_lt:∀{n:Nat},∀x∈pT p n,x.1<n/\-4<x.2/\x.2<4
 |0,x,h=>by cases h|n+1,x,h=>by
  unfold pT at h;split at h;·have:=pT_lt x h;omega
  rcases ZaE.1 h with h|h;·have:=pT_lt x h;omega
  grind
theorem Qg2:∀{n:Nat},((pT p n).map (·.1)).Pairwise (·<·)
 |0=>by simp[pT]|n+1=>by
  unfold pT;split;·exact Qg2
  rw[ZaJ,Zbg];refine⟨Qg2,by simp,fun x c y a=>?_⟩;simp at a;subst a;obtain⟨z,b,rfl⟩:=Zaq.1 c;exact(pT_lt z b).1
theorem QnI{e}:∀{n:Nat},(pAll p n).testBit e=true->e<5->∃i,i<n/\(p.L.getD (6+i) 0).testBit e=true
 |0,h,_=>by simp[pAll]at h|n+1,h,a=>by
  unfold pAll at h;rw[Nat.testBit_or,Zbo]at h;rcases h with h|h;·obtain⟨i,hi,h⟩:=QnI h a;grind
  rw[show 32=2^5 from rfl,Nat.testBit_mod_two_pow]at h;grind
theorem Qsa(h:i<n):(pCs p n)[i]?=some (i,pA p i):=by simp_all[pCs]
theorem Qwl:WfCel (mkC p):=by
 have h1:=@pN_le p;have s:=@pM_le p;have hc:(pCs p (pN p)).length=pN p:=by simp[pCs]
 have u:(pRs p (pM p)).length=pM p:=by simp[pRs]
 have a:=@Qki p (min p.xn 2);refine⟨fun i _=>Qu0 _,?_,?_,?_,?_,?_,?_,?_,⟨Qf3,fun x a=>?_⟩,fun x a=>?_,fun x a=>?_,fun x a e he=>?_,fun x a=>?_,fun x a=>?_⟩;·show 0<(pCs p (pN p)).length;omega
 ·show(pCs p (pN p)).length<=3;omega
 ·show(pRs p (pM p)).length<=2;omega
 ·show(pXs p _).length<=2;omega
 ·show(pKs p).length<=1;grind[pKs]
 ·show(pCs p (pN p)).map (·.1)=List.range (pCs p (pN p)).length;simp_all[pCs,Function.comp_def]
 ·show(pRs p (pM p)).map (·.1)=List.range (pRs p (pM p)).length;simp_all[pRs,Function.comp_def]
 ·have:=(Qg1 x a).1;omega
 ·obtain⟨i,_,rfl⟩:=Zaq.1 (show x∈pCs p (pN p)from a);exact pA_wf i
 ·obtain⟨i,_,rfl⟩:=Zaq.1 (show x∈pRs p (pM p)from a);exact pR_wf i
 ·obtain⟨i,_,rfl⟩:=Zaq.1 (show x∈pRs p (pM p)from a);dsimp only at he;rw[show(pR p i).al=pW p i from Qr9]at he;obtain⟨c,d⟩:=ZaZ.1 he;obtain⟨j,n,d⟩:=QnI d (partLt e c);refine⟨(j,pA p j),Zaq.2 ⟨j,Zau.2 n,rfl⟩,?_⟩;simp_all[pA,Qr9,Qna]
 ·obtain⟨_,g,c⟩:=Qg1 x a;refine⟨c,by grind[Qf2],fun l f=>?_⟩;rw[g]at f;obtain⟨h,o⟩:=QjF l f;exact⟨_,Qsa h,o⟩
 have b:x∈pKs p:=a;unfold pKs at b;split at b
 ·rename_i m;simp at b;subst b;refine⟨List.ne_nil_of_length_pos m,?_,fun t k=>?_,?_,?_⟩;·exact(Qg2 (n:=pN p)).sublist (List.Sublist.map _ (List.filter_sublist))
  ·obtain⟨q,g⟩:=ZaZ.1 (show t∈pT0 p from k);have c:=pT_lt t q;simp_all[mkC]
  ·grind
  grind
 cases b
end Go.AM.SO
namespace Go.AM.SU
open Go.Proofs Go.AM.SD Go.AM.SE Go.AM.SO
variable{l:List (Nat×Int)}{i k:Nat}{v x:Nat×Int}
theorem Qa3(l:List (Nat×Int)):noRefs (l.flatMap teC)=true:=Qa6 (fun _=>rfl) l
theorem Qdr(l:List (Nat×Int)):(l.flatMap teC).length=l.length*2:=Qbg (k:=2) (fun _=>rfl) l
theorem QdU(h:l[i]?=some x):(l.flatMap teC).drop (i*2)=.int .i64 (x.1:Int)::.int .i64 x.2::(l.drop (i+1)).flatMap teC:=Qbi (f:=teC) (k:=2) (fun _=>rfl) h
theorem Qsb{x}:∀{l:List (Nat×Int)}{i:Nat},i<l.length->(l.flatMap teC).take (i*2)++[.int .i64 (x.1:Int),.int .i64 x.2]++(l.flatMap teC).drop (i*2+2)=(l.set i x).flatMap teC|[],i,h=>by simp at h|a::l,0,h=>by simp[Zaz,teC]|a::l,i+1,h=>by have:=Qsb (x:=x) (l:=l) (i:=i) (by simpa using h);rw[Zb8,Zaz,Zaz,<-this];rw[show(i+1)*2=i*2+2 by omega];simp[teC]
abbrev teV(x:Nat×Int):AV:=.agg [.int .i64 (x.1:Int),.int .i64 x.2]
theorem zero94(x):Ps 97 [teV x] (.bool (decide (x.2=0))):=by refine Zcv 64 (Ok s97) rfl rfl rfl ?_;unfold s97;refine Zc2 ?_;exact⟨.inr trivial,_,rfl,rfl⟩
def fst0(l:List (Nat×Int)):Int:=if l.all (fun x=>!decide (x.2=0))then-1 else(l.findIdx (fun x=>decide (x.2=0)):Int)
theorem _root_.Go.AM.au15{p:Prop}(h:p:=by repeat'(first|exact ZcD|(refine Zct ?_;first|rfl|(simp only[noRef,noRefs,SD.Qaa,SD.Qab,SD.Qaf,SD.Qag,SD.Qah,SD.Qai,SD.Qaj,SD.Qam,SD.Qan,SD.Qar,SE.QaQ,SE.Qal,SE.Qao,SE.Qap,SE.Qaq,SE.Qay,SO.QaD,SO.QaP,SO.Qaz,SU.Qa3,Zad,Zae,Zai];done))|exact ZcR rfl|exact ZcJ|exact(True.intro:RnM _ _ _ [] [])|refine ZcK ?_ ?_|(refine Zcs ?_;first|rfl|(simp only[noRef,noRefs,SD.Qaa,SD.Qab,SD.Qaf,SD.Qag,SD.Qah,SD.Qai,SD.Qaj,SD.Qam,SD.Qan,SD.Qar,SE.QaQ,SE.Qal,SE.Qao,SE.Qap,SE.Qaq,SE.Qay,SO.QaD,SO.QaP,SO.Qaz,SU.Qa3,Zad,Zae,Zai];done))|exact Rn.x1 rfl rfl|exact Rn.x2 rfl rfl|exact Rn.x3 rfl rfl|exact Rn.x4 rfl rfl|exact Rn.x5 rfl|exact Rn.x6 rfl|exact Rn.x7 rfl|refine ZcF rfl rfl ?_|refine ZcE rfl rfl rfl ?_ ?_|refine ZcG rfl rfl rfl ?_ ?_|refine ZcH rfl rfl ?_ ?_|refine ZcI rfl rfl ?_ ?_)):p:=h
theorem _root_.Go.AM.au16{p:Prop}(h:p:=by repeat(first|exact ZcB|(refine ZcC ?_ ?_;·(first|exact Zcr|exact Rn.x1 rfl rfl|exact Rn.x2 rfl rfl|exact Rn.x3 rfl rfl|exact Rn.x4 rfl rfl|exact Rn.x5 rfl|exact Rn.x6 rfl|exact Rn.x7 rfl|(refine ZcN ?_ ?_;(first|rfl|(rw[ZaF];rfl));(first|rfl|(simp only[noRef,noRefs,SD.Qaa,SD.Qab,SD.Qaf,SD.Qag,SD.Qah,SD.Qai,SD.Qaj,SD.Qam,SD.Qan,SD.Qar,SE.QaQ,SE.Qal,SE.Qao,SE.Qap,SE.Qaq,SE.Qay,SO.QaD,SO.QaP,SO.Qaz,SU.Qa3,Zad,Zae,Zai];done)))|(refine Rn.fn ?_ ?_<;>(repeat'(first|exact ZcJ|refine ZcK ?_ ?_|exact Zcs rfl|exact Rn.x6 rfl|exact Rn.x2 rfl rfl|exact Rn.x5 rfl|exact Rn.x1 rfl rfl))))))):p:=h
theorem index186(l)(p:l.length<=1000000):Ps 153 [tes l,.fn 97 [] []] (.int .i64 (fst0 l)):=by
 refine Zcv 64 (Ok s153) rfl (by simp only[noRefs,noRef,Qa3];rfl) rfl ?_;have o:=Qdr l;unfold s153;refine Zc2 ?_;refine QaC 100 (fun i:Nat=>[(0,tes l),(1,.fn 97 [] []),(7,.int .i64 l.length),(8,.int .i64 i)]) (fun _=>[]) (fun i=>i<=l.length/\∀(j:Nat)y,j<i->l[j]?=some y->y.2≠0) (fun i=>l.length-i) 0 ⟨[],rfl,au0,au15,au16⟩ ⟨Zaj _,fun j y c=>absurd c (Zay _)⟩ ?_;rintro i⟨hi,k⟩;by_cases a:i<l.length
 ·obtain⟨x,b⟩:=Qak a;have f:=zero94 x;by_cases d:x.2=0
  ·have e:decide (x.2=0)=true:=by simp[d]
   rw[e]at f;refine Zc3 (Zc8 a (QdU b)) ?_;refine cpc f ?_;refine Zc2 ?_;refine⟨.inr trivial,_,rfl,?_⟩;have h1:¬l.all (fun x=>!decide (x.2=0))=true:=by intro h;have:=ZaH.1 h x (Zaa b);simp[d]at this
   have n:l.findIdx (fun x=>decide (x.2=0))=i:=by rw[Zca a];refine⟨by rw[Zak a]at b;cases b;simp[d],fun j c=>?_⟩;have:=k j l[j] c (Zak (by omega));simpa using this
   unfold fst0;rw[if_neg h1,n];rfl
  have e:decide (x.2=0)=false:=by simp[d]
  rw[e]at f;refine Zc3 (Zc8 a (QdU b)) ?_;refine cpc f ?_;refine Zc2 ?_;refine⟨i+1,by omega,⟨by omega,fun j y c g=>?_⟩,⟨[],rfl,au0,au15,au16⟩⟩;by_cases e:j=i;·subst e;rw[b]at g;cases g;exact d
  exact k j y (by omega) g
 have h1:l.all (fun x=>!decide (x.2=0))=true:=by rw[ZaH];intro x b;obtain⟨j,c,m⟩:=ZaO b;simpa using k j x (by omega) (by rw[Zak c,m])
 refine Zc3 a ?_;refine⟨.inr trivial,_,rfl,?_⟩;unfold fst0;rw[if_pos h1];rfl
def flt0(l:List (Nat×Int)):List (Nat×Int):=l.filter fun t=>!(decide (t.2=0))
theorem QlT{j}(h:l[j]?=some v):flt0 (l.take (j+1))=if v.2=0 then flt0 (l.take j)else flt0 (l.take j)++[v]:=by unfold flt0;rw[Za6,h,Option.toList,Zbj];by_cases a:v.2=0<;>simp[a]
def delT(l:List (Nat×Int)):List (Nat×Int):=flt0 l++List.replicate (l.length-(flt0 l).length) (0,0)
theorem QtN(h:l.all (fun x=>!decide (x.2=0))=true):flt0 l=l:=by unfold flt0;exact ZbI.2 fun x a=>ZaH.1 h x a
theorem Qsc:(List.replicate k [AV.int .i64 0,AV.int .i64 0]).flatten=(List.replicate k ((0,0):Nat×Int)).flatMap teC:=by induction k with|zero=>rfl|succ k a=>rw[Za7,Zbw,a];rfl
theorem Qkk:∀{l:List (Nat×Int)}{i:Nat},(l.flatMap teC).take (i*2)=(l.take i).flatMap teC|[],i=>by simp|a::l,0=>by simp|a::l,i+1=>by rw[Zaz,Zbc,Zaz,<-Qkk,Zbn];simp[teC]
theorem del93(l)(M:l.length<=1000000):HSpec Tryz.prog 96 [.sl 97 0 0 l.length 2,.fn 97 [] []] (hp [(97,.cells 0 (l.flatMap teC))]) (.sl 97 0 0 (flt0 l).length 2) (hp [(97,.cells 0 ((delT l).flatMap teC))]):=by
 refine HSpec.Qhi (m:=98) 100 (Ok s96) rfl rfl ?_;have J:=Qdr l;unfold s96;refine Zc2 ?_;refine chc (ZcQ (ZcT (FrzTo.all gg J) (ZcT (Zcy _) ZcS)) (index186 l M) rfl) ?_;by_cases a:l.all (fun x=>!decide (x.2=0))=true;·have u:fst0 l=-1:=if_pos a;refine Zc3 u ?_;refine⟨.inr trivial,_,rfl,?_⟩;unfold delT;rw[QtN a,ZbO,List.replicate_zero,Zas];exact⟨[(97,.nil)],rfl,au0,au15,au16⟩
 have u:fst0 l=(l.findIdx (fun x=>decide (x.2=0)):Int):=if_neg a;have hex:∃x∈l,decide (x.2=0)=true:=by have:¬∀x∈l,(!decide (x.2=0))=true:=fun h=>a (ZaH.2 h);obtain⟨x,p⟩:=Classical.not_forall.1 this;obtain⟨p,K⟩:=Classical.not_imp.1 p;exact⟨x,p,by simpa using K⟩
 have k:l.findIdx (fun x=>decide (x.2=0))<l.length:=Zbt hex;obtain⟨i0,z⟩:∃i0,i0=l.findIdx (fun x=>decide (x.2=0)):=⟨_,rfl⟩;rw[<-z]at u k;have H:(l[i0]).2=0:=by have:=List.findIdx_getElem (w:=by rw[<-z];exact k) (xs:=l) (p:=fun x=>decide (x.2=0));simp only[<-z]at this;simpa using this
 have o:flt0 (l.take i0)=l.take i0:=by unfold flt0;refine ZbI.2 fun x p=>?_;obtain⟨j,E,rfl⟩:=ZaO p;rw[Zap]at E;have:=List.not_of_lt_findIdx (xs:=l) (p:=fun x=>decide (x.2=0)) (i:=j) (by rw[<-z];omega);rw[List.getElem_take];simpa using this
 have A:flt0 (l.take (i0+1))=l.take i0:=by rw[QlT (Zak k),if_pos H,o]
 have B:¬(i0:Int)=-1:=by omega
 refine Zc3 (Zc8 u B) ?_;refine QaC 110 (fun t:Nat×Nat×List (Nat×Int)=>[(0,.sl 97 0 0 l.length 2),(1,.fn 97 [] []),(5,.int .i64 t.2.1),(6,.int .i64 t.1)]) (fun t=>[(97,.cells 0 (t.2.2.flatMap teC))]) (fun t=>t.1<=l.length/\t.2.1<t.1/\t.2.2.length=l.length/\t.2.2.take t.2.1=flt0 (l.take t.1)/\t.2.2.drop t.1=l.drop t.1) (fun t=>l.length-t.1) (i0+1,i0,l) ⟨[(97,.nil)],rfl,au0,au15,au16⟩ ⟨by dsimp only;omega,by dsimp only;omega,rfl,A.symm,rfl⟩ ?_;rintro⟨j,i,C⟩⟨E,F,f,m,y⟩;dsimp only at E F f m y⊢;have b:=Qdr C;by_cases d:j<l.length
 ·obtain⟨v,I⟩:=Qak d;have s:C[j]?=some v:=by
   have:(C.drop j)[0]?=(l.drop j)[0]?:=by rw[y]
   simpa[I]using this
  have w:=QlT I;have g:=zero94 v;have g1:j*2+2<=l.length*2:=by omega
  have g2:i*2+2<=l.length*2:=by omega
  by_cases hm:v.2=0
  ·have G:decide (v.2=0)=true:=by simp[hm]
   rw[G]at g;rw[if_pos hm]at w;refine Zc3 (Zdb d f b g1 (QdU s)) ?_;refine chc (g.toH _) ?_;refine Zc2 ?_;refine⟨(j+1,i,C),by dsimp only;omega,⟨by dsimp only;omega,by dsimp only;omega,f,by rw[w];exact m,?_⟩,?_⟩;·dsimp only;have:=congrArg (List.drop 1) y;simpa[Za1]using this
   exact⟨[(97,.nil)],rfl,au0,au15,au16⟩
  have G:decide (v.2=0)=false:=by simp[hm]
  rw[G]at g;rw[if_neg hm]at w;refine Zc3 (Zdb d f b g1 (QdU s)) ?_;refine chc (g.toH _) ?_;have c:i<l.length:=by omega
  refine Zc3 (Zdb c f b g2 (Qsb (l:=C) (i:=i) (x:=v) (by omega))) ?_;refine⟨(j+1,i+1,C.set i v),by dsimp only;omega,⟨by dsimp only;omega,by dsimp only;omega,by simp[f],?_,?_⟩,?_⟩;·dsimp only;rw[w,<-m,Za6,Zbz (by omega),List.take_set,List.set_eq_of_length_le (by rw[Zap];omega)];rfl
  ·dsimp only;rw[List.drop_set_of_lt (by omega)];have:=congrArg (List.drop 1) y;simpa[Za1]using this
  exact⟨[(97,.nil)],rfl,au0,au15,au16⟩
 have L:j=l.length:=by omega
 subst L;rw[Zan]at m;have c:(i:Int)<=(l.length:Int):=by omega
 refine Zc3 (Zc8 d c) ?_;refine Qnu gg (by omega) (by rw[b,f];omega) rfl (by decide) (by decide) ?_;refine Zc3 c ?_;refine⟨.inr trivial,_,rfl,?_⟩;have n:(flt0 l).length=i:=by rw[<-m,Zap];omega
 have q:putR (C.flatMap teC) (i*2) (List.replicate (l.length-i) [AV.int .i64 0,AV.int .i64 0]).flatten=(delT l).flatMap teC:=by rw[QdD (by rw[b,f];omega),Qsc,Qkk,m];unfold delT;rw[n,Zao,List.drop_of_length_le (by rw[b,f,Qdr,Zbv];omega),Zas]
 rw[n,q];exact⟨[(97,.nil)],rfl,au0,au15,au16⟩
end Go.AM.SU
namespace Go.AM.SO
open Go.Proofs Go.AM.SD Go.AM.SE
theorem convB1{P}{N}{d}{r}{dead}{fs}{n}{T}{h}{Q}{b g x:Nat}(a:h.get b=some (.cells g [.int .u8 (x:Int)]))(hk:wR P N r dead fs (n+1) (putD T d (.str [UInt8.ofNat x])) h Q):wM P N (aConvB (.sl b g 0 1 1)) d r dead fs n T h Q:=by
 refine⟨_,h,?_,hk⟩;have c:Nat.beq g g=true:=by simp
 simp[aConvB,aSrc,HM.cells,HM.run,a,c,bytesOf]
theorem Qds(F)(i):noRefs (evP F i)=true:=by unfold evP;exact Qa6 (fun j=>rfl) _
theorem events88(F)(s:F.length=5)(d:∀i,F.getD i 0<256):Ps 89 [.agg (u8s F)] (.fsl (evP F 5) 5 5):=by
 refine Zcu 64 (Ok s89) rfl (by simp only[noRefs,noRef,QaQ];rfl) (by simp only[noRef];exact Qds _ _) ?_;unfold s89;refine Zc6 ?_;refine QaC 100 (fun i:Nat=>[(1,.ptr 64 0 0),(3,.sl 50 0 0 i 5),(4,.int .i64 i)]) (fun i=>[(50,.cells 0 (evP F i)),(64,.cells 0 (u8s F))]) (fun i=>i<=5) (fun i=>5-i) 0 ⟨[(50,.nil),(64,.blk 64 0)],rfl,au0,?_,au16⟩ (Zaj _) ?_;·exact ZcF rfl rfl (ZcE rfl rfl rfl (Zct (QaQ _)) ZcD)
 rintro i hi;by_cases o:i<5
 ·have a:(i:Int)<5:=by omega
  have hu:(u8s F)[i]?=some (.int .u8 ((F.getD i 0:Nat):Int)):=QgX (by rw[Zak (by omega)];simp[List.getD,Zak (show i<F.length by omega)]);have g:=d i;have k:=@QnF F i;have h:=@Qkh F i;generalize F.getD i 0=b at hu g k;have l:wr .u8 ((97:Int)+(i:Int))=((97+i:Nat):Int):=by rw[wr_u8 (by omega) (by omega)];omega
  refine Zc7 (Zdb a hu h l @Qtn) ?_;refine convB1 gg ?_;have t:((97+i:Nat):Int)=((97+i:Nat):Int):=rfl;by_cases f:48<=b/\b<52
  ·have p:(48:Int)<=(b:Int):=by omega
   have c:(b:Int)<52:=by omega
   have m:(b:Int)-47=((b-47:Nat):Int):=by omega
   have ev:evP F i++[.str [UInt8.ofNat (97+i)],.bool false,.bool false,.bool false,.int .i64 ((b-47:Nat):Int)]=evP F (i+1):=by rw[k];simp[evC,evOf,f]
   refine Zc7 (Zdc a hu h p c m) ?_;exact b5bGI
  have ev:evP F i++[.str [UInt8.ofNat (97+i)],.bool (decide (b&&&1=1)),.bool (decide (b&&&2=2)),.bool (decide (b&&&4=4)),.int .i64 0]=evP F (i+1):=by rw[k];simp[evC,evOf,f]
  have d1:decide (((b&&&1:Nat):Int)=1)=decide (b&&&1=1):=decide_eq_decide.2 (by omega);have d2:decide (((b&&&2:Nat):Int)=2)=decide (b&&&2=2):=decide_eq_decide.2 (by omega);have d4:decide (((b&&&4:Nat):Int)=4)=decide (b&&&4=4):=decide_eq_decide.2 (by omega);have n:=Qr5 g;have a2:=Qr6 g;have a4:=Qr7 g;by_cases q:48<=b
  ·have c:(48:Int)<=(b:Int):=by omega
   have m:¬(b:Int)<52:=by omega
   refine Zc7 (Zdh a hu h c m n a2 a4 d1 d2 d4) ?_;exact b5bGI
  have c:¬(48:Int)<=(b:Int):=by omega
  refine Zc7 (Zdg a hu h c n a2 a4 d1 d2 d4) ?_;exact b5bGI
 have a:¬(i:Int)<5:=by omega
 have e:i=5:=by omega
 subst e;refine Zc7 a ?_;refine⟨.inr trivial,_,rfl,?_⟩;exact ZcM rfl Qkh (Zct (Qds _ _))
end Go.AM.SO
namespace Go.AM.ST
open Go.Proofs Go.AM.SD
variable{v:AV}{a b:Nat}
noncomputable section
def bitsL(s:Nat):List Nat:=(List.range 5).filter fun i=>s.testBit i
def isV(v:AV)(u:AV):Bool:=eqAV u v
theorem Qsd:∀u,isV v u=true->u=v:=fun u h=>QdJ _ _ h
def unionB(a b:Nat):Bool:=callR ansB noOrc SK.ft.get (exR ansB noOrc SK.ft.get 1000) (.c .pure) 91 [ZN (bitsL a),ZN (bitsL b)] .e 64 (fun u _ _=>isV (ZN (bitsL (a|||b))) u)
theorem QtO(h:unionB a b=true):Ps 91 [ZN (bitsL a),ZN (bitsL b)] (ZN (bitsL (a|||b))):=Qb6 (t:=SK.ft) SK.ft_ok QdK (d:=1000) (isV _) Qsd h
end
noncomputable section
def rowB(a n:Nat):Bool:=@Nat.rec (fun _=>Bool) true (fun b c=>ifB (unionB a b) c false) n
theorem row_1:rowB 1 32=true:=by kernel_rfl
theorem row_2:rowB 2 32=true:=by kernel_rfl
theorem row_3:rowB 3 32=true:=by kernel_rfl
theorem row_4:rowB 4 32=true:=by kernel_rfl
theorem row_5:rowB 5 32=true:=by kernel_rfl
theorem row_6:rowB 6 32=true:=by kernel_rfl
theorem row_7:rowB 7 32=true:=by kernel_rfl
theorem row_8:rowB 8 32=true:=by kernel_rfl
theorem row_9:rowB 9 32=true:=by kernel_rfl
theorem Qwm:rowB 10 32=true:=by kernel_rfl
theorem Qwn:rowB 11 32=true:=by kernel_rfl
theorem Qwo:rowB 12 32=true:=by kernel_rfl
theorem Qwp:rowB 13 32=true:=by kernel_rfl
theorem Qwq:rowB 14 32=true:=by kernel_rfl
theorem Qwr:rowB 15 32=true:=by kernel_rfl
theorem Qws:rowB 16 32=true:=by kernel_rfl
theorem Qwt:rowB 17 32=true:=by kernel_rfl
theorem Qwu:rowB 18 32=true:=by kernel_rfl
theorem Qwv:rowB 19 32=true:=by kernel_rfl
theorem Qww:rowB 20 32=true:=by kernel_rfl
theorem Qwx:rowB 21 32=true:=by kernel_rfl
theorem Qwy:rowB 22 32=true:=by kernel_rfl
theorem Qwz:rowB 23 32=true:=by kernel_rfl
theorem QwA:rowB 24 32=true:=by kernel_rfl
theorem QwB:rowB 25 32=true:=by kernel_rfl
theorem QwC:rowB 26 32=true:=by kernel_rfl
theorem QwD:rowB 27 32=true:=by kernel_rfl
theorem QwE:rowB 28 32=true:=by kernel_rfl
theorem QwF:rowB 29 32=true:=by kernel_rfl
theorem QwG:rowB 30 32=true:=by kernel_rfl
theorem QwH:rowB 31 32=true:=by kernel_rfl
theorem Qse:∀{n b:Nat},rowB a n=true->b<n->unionB a b=true
 |0,_,_,h=>absurd h (Zay _)|n+1,b,c,d=>by
  have e:rowB a (n+1)=ifB (unionB a n) (rowB a n) false:=rfl;rw[e,QaL]at c;split at c
  ·rename_i h;rcases Nat.lt_succ_iff_lt_or_eq.1 d with h1|rfl;·exact Qse c h1
   exact h
  cases c
theorem QqH(f:0<a)(c:a<32)(d:b<32):Ps 91 [ZN (bitsL a),ZN (bitsL b)] (ZN (bitsL (a|||b))):=by
 have h:rowB a 32=true:=by
  have:a=1\/a=2\/a=3\/a=4\/a=5\/a=6\/a=7\/a=8\/a=9\/a=10\/a=11\/a=12\/a=13\/a=14\/a=15\/a=16\/a=17\/a=18\/a=19\/a=20\/a=21\/a=22\/a=23\/a=24\/a=25\/a=26\/a=27\/a=28\/a=29\/a=30\/a=31:=by omega
  rcases this with rfl|rfl|rfl|rfl|rfl|rfl|rfl|rfl|rfl|rfl|rfl|rfl|rfl|rfl|rfl|rfl|rfl|rfl|rfl|rfl|rfl|rfl|rfl|rfl|rfl|rfl|rfl|rfl|rfl|rfl|rfl;·exact row_1
  ·exact row_2
  ·exact row_3
  ·exact row_4
  ·exact row_5
  ·exact row_6
  ·exact row_7
  ·exact row_8
  ·exact row_9
  ·exact Qwm
  ·exact Qwn
  ·exact Qwo
  ·exact Qwp
  ·exact Qwq
  ·exact Qwr
  ·exact Qws
  ·exact Qwt
  ·exact Qwu
  ·exact Qwv
  ·exact Qww
  ·exact Qwx
  ·exact Qwy
  ·exact Qwz
  ·exact QwA
  ·exact QwB
  ·exact QwC
  ·exact QwD
  ·exact QwE
  ·exact QwF
  ·exact QwG
  exact QwH
 exact QtO (Qse h d)
end
open Go.AM.SE
noncomputable section
def allV(a:Nat):AV:=if a=0 then .nilsl else ZN (bitsL a)
def unionN(b:Nat):Bool:=callR ansB noOrc SK.ft.get (exR ansB noOrc SK.ft.get 1000) (.c .pure) 91 [.nilsl,ZN (bitsL b)] .e 64 (fun u _ _=>isV (allV b) u)
theorem Qsf(h:unionN b=true):Ps 91 [.nilsl,ZN (bitsL b)] (allV b):=Qb6 (t:=SK.ft) SK.ft_ok QdK (d:=1000) (isV _) Qsd h
def rowN(n:Nat):Bool:=@Nat.rec (fun _=>Bool) true (fun b a=>ifB (unionN b) a false) n
theorem QtP:rowN 32=true:=by kernel_rfl
theorem QpG:∀{n b:Nat},rowN n=true->b<n->unionN b=true
 |0,_,_,h=>absurd h (Zay _)|n+1,b,a,c=>by
  have e:rowN (n+1)=ifB (unionN n) (rowN n) false:=rfl;rw[e,QaL]at a;split at a
  ·rename_i h;rcases Nat.lt_succ_iff_lt_or_eq.1 c with h1|rfl;·exact QpG a h1
   exact h
  cases a
theorem Qsg(b):SD.part 5 b=bitsL (b%32):=by unfold bitsL SD.part;apply ZbA;intro x a;have:=Zau.1 a;rw[show 32=2^5 from rfl,Nat.testBit_mod_two_pow];simp[this]
theorem union90(f:a<32):Ps 91 [allV a,ZN (SD.part 5 b)] (allV (a|||b%32)):=by
 rw[Qsg];have d:b%32<32:=Zce _ (by decide);by_cases c:a=0;·subst c;rw[Nat.zero_or];exact Qsf (QpG QtP d)
 have h1:¬(a|||b%32)=0:=fun e=>c (Nat.or_eq_zero_iff.1 e).1;unfold allV;rw[if_neg c,if_neg h1];exact QqH (by omega) f d
end
end Go.AM.ST
namespace Go.AM.SU
open Go.Proofs Go.AM.SD Go.AM.SE Go.AM.SO
variable{a:Aut}{h:Heap}{y:List AV}{A X l:List Nat}{i k:Nat}{x:Nat×Aut}{p:Pln}
theorem QcW(l):(u8s l).length=l.length:=by simp[u8s]
theorem graph91(al)(st mk)(T)(i:al.Pairwise (·<·))(n:∀x∈al,x<5)(o:st<256)(f:mk<256)(h:T.length=25)(c:∀x∈T,x<256):Ps 92 [ZN al,grV st mk T,.int .i64 3] (aV (mkA al (st%3) mk T)):=by
 refine Zcu 40 (Ok s92) rfl (by(try simp only[noRefs,Qaa,QaQ,noRef,noRefs,Qab,Qa3,Zae,Zad])<;>rfl) (QdP _) ?_;have k:=Make32 al (st%3) mk T i n (by omega) f h c;have b:(u8s T).length=25:=by rw[QcW,h]
 have g:(u8s T).take 25=u8s T:=by rw[<-b,Zan]
 have d:(st:Int).tmod 3=((st%3:Nat):Int):=by rw[Zbl (ZaV _)];norm_cast
 have a:(u8s T).all AV.one=true:=by
  have:∀l:List Nat,(u8s l).all AV.one=true:=fun l=>by induction l with|nil=>rfl|cons x l m=>show(AV.one _&&(u8s l).all AV.one)=true;rw[m];rfl
  exact this T
 unfold s92;refine Zc3 (Zda b g d a) ?_;refine cp k ?_;generalize mkA al (st%3) mk T=A at*;refine Zc3 (Zc8 a b) ?_;refine⟨.inr trivial,_,rfl,?_⟩;exact Zcs (QdP _)
theorem Qf4(hi:i<10):aConvS (.int .i32 (48+(i:Int)))=some (.str [UInt8.ofNat (48+i)]):=by
 have:i=0\/i=1\/i=2\/i=3\/i=4\/i=5\/i=6\/i=7\/i=8\/i=9:=by omega
 rcases this with rfl|rfl|rfl|rfl|rfl|rfl|rfl|rfl|rfl|rfl<;>rfl
theorem events89(s:Nat)(g:s<256):HSpec Tryz.prog 90 [.int .u8 s] .e (.sl 98 0 0 (SD.part 5 s).length 1) (hp [(98,.cells 0 (ZI (nz (SD.part 5 s))))]):=by
 refine ZcV 64 (Ok s90) rfl ?_;unfold s90;refine Zc2 ?_;refine QaC 100 (fun i:Nat=>[(0,.int .u8 s),(3,.sl 50 0 0 (SD.part i s).length 1),(4,.int .i64 i)]) (fun i=>[(50,.cells 0 (ZI (nz (SD.part i s))))]) (fun i=>i<=5) (fun i=>5-i) 0 ⟨[(50,.nil)],rfl,au0,au15,au16⟩ (Zaj _) ?_;rintro i hi;have d:=@QdQ i s;by_cases f:i<5
 ·have a:(i:Int)<5:=by omega
  by_cases b:s.testBit i=true;·have c:=Qeu.2 b;have hp:=Qed (n:=5) (b:=s) (i:=i);rw[if_pos b]at hp;simp(disch:=first|omega|(simp only[lenW]<;>omega))only[a,Qdf (k:=.u8) (show i<=8 by omega),Qdg,c,Zam,wW,wV,simprocAttr];refine⟨i+1,by omega,by omega,?_⟩;rw[hp,QaM,QaB,Zag];exact⟨[(50,.blk 50 1)],rfl,au0,au15,au16⟩
  have c:¬((s/2^i%2:Nat):Int)=1:=fun e=>b (Qeu.1 e);have hp:=Qed (n:=5) (b:=s) (i:=i);rw[if_neg b,Zas]at hp;simp(disch:=first|omega|(simp only[lenW]<;>omega))only[a,Qdf (k:=.u8) (show i<=8 by omega),Qdg,c,Zam,wW,wV,simprocAttr];refine⟨i+1,by omega,by omega,?_⟩;rw[hp];exact⟨[(50,.blk 50 0)],rfl,au0,au15,au16⟩
 have a:¬(i:Int)<5:=by omega
 have e:i=5:=by omega
 subst e;refine Zc3 a ?_;refine⟨.inr trivial,_,rfl,?_⟩;exact⟨[(98,.blk 50 0)],rfl,au0,au15,au16⟩
theorem del40F(hA:A.length<=1000000)(d:l.length<=1000000)(a:h.get 75=some (.cells 0 [ZN A]))(b:h.get 98=some (.cells 0 (ZI (nz l)))):HSpec Tryz.prog 93 [.sl 98 0 0 l.length 1,.fn 94 [] [.ptr 75 0 0]] h (ZN (fltN A l)) ((h.set 98 (.cells 0 (ZI (nz (delL A l))))).set 98 (.dead 0)):=by
 have h1:=HSpec.frameB (del40 A l hA d) (OnlyD.cons (OnlyD.sl (.inr rfl)) (OnlyD.cons (OnlyD.fn OnlyD.nil (OnlyD.cons (OnlyD.ptr (.inl rfl)) OnlyD.nil)) OnlyD.nil)) (OnlyD.sl (.inr rfl)) (by simp only[noRefs,noRef,Qaa];rfl) (Qaa _) (Qaa _) a b (by decide) rfl rfl;have hle:(fltN A l).length*1<=(ZI (nz (delL A l))).length:=by simp[ZI,delL]
 have c:=HSpec.freeze (ds:=ZI (nz (delL A l))) h1 (by rw[QaA (by decide)]) (QcK _) hle rfl;have e:(ZI (nz (delL A l))).take ((fltN A l).length*1)=ZI (nz (fltN A l)):=by rw[ZbY];unfold delL;rw[QaM,QaB,List.take_append_of_le_length (by simp[ZI]),ZaM (by simp[ZI])]
 rw[e]at c;exact c
theorem Qu3(l:List (Nat×Int)):flatVs (l.flatMap teC)=true:=by induction l with|nil=>rfl|cons x l a=>rw[Zaz];exact a
theorem del93F{l}(c:l.length<=1000000)(a:h.get 97=some (.cells 0 (l.flatMap teC))):HSpec Tryz.prog 96 [.sl 97 0 0 l.length 2,.fn 97 [] []] h (tes (flt0 l)) ((h.set 97 (.cells 0 ((delT l).flatMap teC))).set 97 (.dead 0)):=by
 have h1:=HSpec.frameA (del93 l c) (OnlyD.cons (OnlyD.sl rfl) (OnlyD.cons (OnlyD.same rfl) OnlyD.nil)) (OnlyD.sl rfl) (Qa3 _) (Qa3 _) a rfl;have hle:(flt0 l).length*2<=((delT l).flatMap teC).length:=by rw[Qdr];simp[delT];omega
 have b:=HSpec.freeze (ds:=(delT l).flatMap teC) h1 (by rw[QaA (by decide)]) (Qu3 _) hle rfl;have e:((delT l).flatMap teC).take ((flt0 l).length*2)=(flt0 l).flatMap teC:=by rw[Qkk];unfold delT;rw[List.take_left]
 rw[e]at b;exact b
theorem Qhk:∀l:List Nat,(u8s l).all AV.one=true|[]=>rfl|x::l=>by show(AV.one _&&(u8s l).all AV.one)=true;rw[Qhk l];rfl
section
variable{p:Pln}
theorem Qsh(h:k<l.length):(u8s l)[k]?=some (.int .u8 ((l.getD k 0:Nat):Int)):=by refine QgX ?_;rw[Zak h,Zah,Zak h];rfl
theorem Qkl(h:POk p):(plnC p).length=152:=by show(u8s p.L++_).length=152;rw[Zag,QcW,h.L];rfl
theorem QwI(h:POk p)(hk:k<147):(plnC p)[k]?=some (.int .u8 ((p.L.getD k 0:Nat):Int)):=by show(u8s p.L++_)[k]?=_;rw[ZaP (by rw[QcW,h.L];exact hk),Qsh (by rw[h.L];exact hk)]
theorem Qfz(h:POk p):(plnC p)[147+k]?=([.fsl (u8s p.X) p.xn 4,.int .i8 p.f0,.int .i8 p.f1,.int .i8 p.f2,.int .i8 p.bd]:List AV)[k]?:=by show(u8s p.L++_)[147+k]?=_;rw[Zbk (by rw[QcW,h.L];omega),QcW,h.L];congr 1;omega
theorem QnJ(h:POk p){m}(hk:k+m<=147):((plnC p).drop k).take m=u8s ((p.L.drop k).take m):=by show((u8s p.L++_).drop k).take m=_;rw[List.drop_append_of_le_length (by rw[QcW,h.L];omega),List.take_append_of_le_length (by rw[ZaR,QcW,h.L];omega)];simp[u8s,List.map_drop,List.map_take]
theorem QwJ(h:POk p)(hk:k+27<=147):((plnC p).drop k).take 27=.int .u8 ((p.L.getD k 0:Nat):Int)::.int .u8 ((p.L.getD (k+1) 0:Nat):Int)::u8s ((p.L.drop (k+2)).take 25):=by
 have a:=h.L;rw[QnJ h hk];have e:(p.L.drop k).take 27=p.L.getD k 0::p.L.getD (k+1) 0::(p.L.drop (k+2)).take 25:=by rw[Zah,Zah,Zak (show k<p.L.length by omega),Zak (show k+1<p.L.length by omega)];rw[Zbm (show k<p.L.length by omega),Zbc,Zbm (show k+1<p.L.length by omega),Zbc];rfl
 rw[e];rfl
theorem L_lt(h:POk p)(k):p.L.getD k 0<256:=by rw[Zah];cases e:p.L[k]? with|none=>decide|some x=>exact h.L8 x (Zaa e)
theorem X_lt(h:POk p)(k):p.X.getD k 0<256:=by rw[Zah];cases e:p.X[k]? with|none=>decide|some x=>exact h.X8 x (Zaa e)
theorem pF_lt(h:POk p)(i):-128<=pF p i/\pF p i<128:=by
 unfold pF;split;·exact h.f0
 split;·exact h.f1
 exact h.f2
theorem Qkm(h:POk p):(plnC p).all AV.one=true:=by show(u8s p.L++_).all AV.one=true;rw[ZbR,Qhk];rfl
theorem Qem:noRefs (plnC p)=true:=by show noRefs (u8s p.L++_)=true;rw[Qaf,QaQ];simp only[noRefs,noRef,QaQ];rfl
theorem Qu4(F):AV.fsl (evP F 5) 5 5=evsV (fun i=>evOf (F.getD i 0)):=by congr 1
theorem Qsi(e):noRef (evsV e)=true:=rfl
theorem Qa2{ch}(l:List (Nat×Aut)):noRefs (l.flatMap (itC ch))=true:=Qa6 (fun x=>by simp only[itC,noRefs,noRef,Qaa,Qag];rfl) l
theorem QaJ{ch}(l):noRef (its ch l)=true:=by simp only[noRef];exact Qa2 l
theorem Qu5:fltN (ST.bitsL (pAll p (pN p))) (SD.part 5 (p.L.getD (91+i) 0))=pW p i:=by unfold fltN pW;apply ZbA;intro x a;have:=partLt x a;show decide (x∈(List.range 5).filter _)=_;simp[this]
theorem QbA(l:List (Nat×Nat)):noRefs (l.flatMap loC)=true:=Qa6 (fun _=>rfl) l
theorem Qcs(l):noRef (los l)=true:=by simp only[noRef];exact QbA l
theorem Qg3(l:List (Nat×Nat)):(l.flatMap loC).length=l.length*2:=Qbg (k:=2) (fun _=>rfl) l
theorem QaX(l:List (Nat×List (Nat×Nat))):noRefs (l.flatMap exC)=true:=Qa6 (fun x=>by simp only[exC,noRefs,noRef,QbA];rfl) l
theorem QbQ(l):noRef (exs l)=true:=by simp only[noRef];exact QaX l
theorem QeX(l:List (Nat×List (Nat×Nat))):(l.flatMap exC).length=l.length*2:=Qbg (k:=2) (fun _=>rfl) l
theorem QcO(l):noRef (tes l)=true:=by simp only[noRef];exact Qa3 l
theorem Qbc(l:List (List (Nat×Int)×Int)):noRefs (l.flatMap coC)=true:=Qa6 (fun x=>by simp only[coC,noRefs,noRef,Qa3];rfl) l
theorem QlU(l):noRef (cos l)=true:=by simp only[noRef];exact Qbc l
theorem QdV{ch}{l:List (Nat×Aut)}(h:l[i]?=some x):(l.flatMap (itC ch)).drop (i*5)=.str [ch,UInt8.ofNat (48+x.1)]::ZN x.2.al::.int .i64 (x.2.n:Int)::ZN x.2.ms::egsN x.2.es::(l.drop (i+1)).flatMap (itC ch):=Qbi (f:=itC ch) (k:=5) (fun _=>rfl) h
theorem Qu6(h:i*4+4<=X.length):((u8s X).drop (i*4)).take 4=[.int .u8 ((X.getD (i*4) 0:Nat):Int),.int .u8 ((X.getD (i*4+1) 0:Nat):Int),.int .u8 ((X.getD (i*4+2) 0:Nat):Int),.int .u8 ((X.getD (i*4+3) 0:Nat):Int)]:=by
 have g:∀k,k<4->X.getD (i*4+k) 0=X[i*4+k]!:=fun k hk=>by rw[Zah,List.getElem!_eq_getElem?_getD];rfl
 apply ZbG;intro j;by_cases a:j<4
 ·rw[List.getElem?_take_of_lt a,ZbN,Qsh (by omega)];have:j=0\/j=1\/j=2\/j=3:=by omega
  rcases this with rfl|rfl|rfl|rfl<;>rfl
 rw[ZaG (by rw[Zap];omega),ZaG (by simp;omega)]
theorem QaY(c):noRef (celV c)=true:=by rw[celV,noRef,noRefs,noRefs,noRefs,noRefs,noRefs,Qsi,QaJ,QaJ,QbQ,QlU];rfl
theorem Qen{s}{a:Aut}:noRefs [.str s,ZN a.al,.int .i64 (a.n:Int),ZN a.ms,egsN a.es]=true:=by simp only[noRefs,noRef,Qaa,Qag];rfl
theorem Qav{x}(a:noRefs x=true)(b:noRefs y=true):noRefs (x++y)=true:=by rw[Qaf,a,b];rfl
theorem Qsj{ch}:List.flatMap (itC ch) [(i,a)]=[.str [ch,UInt8.ofNat (48+i)],ZN a.al,.int .i64 (a.n:Int),ZN a.ms,egsN a.es]:=rfl
theorem Qee{ch}(l:List (Nat×Aut)):(l.flatMap (itC ch)).length=l.length*5:=Qbg (k:=5) (fun _=>rfl) l
theorem QtQ{i}:pCs p (i+1)=pCs p i++[(i,pA p i)]:=by unfold pCs;rw[ZaK,ZaJ];rfl
theorem QtR{i}:pRs p (i+1)=pRs p i++[(i,pR p i)]:=by unfold pRs;rw[ZaK,ZaJ];rfl
theorem Qkn{i}:(pCs p i).length=i:=by simp[pCs]
theorem QpH{i}:(pRs p i).length=i:=by simp[pRs]
theorem QpI:∀{i:Nat},pAll p i<32|0=>by show 0<32;decide|i+1=>Nat.or_lt_two_pow (n:=5) QpI (Zce _ (by decide))
end
theorem QqI(a):(ST.allV a).cells=[ST.allV a]:=by unfold ST.allV;split<;>rfl
theorem QtS(a):(ST.allV a).one=true:=by unfold ST.allV;split<;>rfl
theorem QoQ(a):noRefs [ST.allV a]=true:=by
 unfold ST.allV;split;·rfl
 simp only[noRefs,noRef,Qaa];rfl
end Go.AM.SU
namespace Go.AM.SN
open Go.Proofs Go.AM.SD Go.AM.SE Go.AM.SO
variable{K S X v:AV}{i:Int}{ks:List (List (Nat×Int)×Int)}{xs:List (Nat×List (Nat×Nat))}{cs ds:List AV}{s:List UInt8}{f:Nat}{x:Nat×List (Nat×Nat)}{w:World}
noncomputable section
def is0:AV->Bool|.int .i64 n=>decide (n=0)|_=>false
theorem QwK:∀u,is0 u=true->u=.int .i64 0:=by intro u h;unfold is0 at h;grind
def nameR(s:List UInt8)(f:Nat)(X K:AV)(i:Int):Bool:=callR ansB noOrc SK.ft.get (exR ansB noOrc SK.ft.get 1000) (.c .pure) 197 [.str s,.fn f [] [.fptr [.any,X,K],.fptr [.int .i64 i]]] .e 64 (fun u _ _=>is0 u)
theorem QtT(h:nameR s f X K i=true):Ps 197 [.str s,.fn f [] [.fptr [.any,X,K],.fptr [.int .i64 i]]] (.int .i64 0):=Qb6 (t:=SK.ft) SK.ft_ok QdK (d:=1000) is0 QwK h
theorem e0_1:nameR [101,48] 196 (.fsl [.str [101,48],.any] 1 2) .any 0=true:=by kernel_rfl
theorem e1_1:nameR [101,49] 196 (.fsl [.str [101,49],.any] 1 2) .any 0=true:=by kernel_rfl
theorem e0_2:nameR [101,48] 196 (.fsl [.str [101,48],.any,.str [101,49],.any] 2 2) .any 0=true:=by kernel_rfl
theorem e1_2a:nameR [101,49] 196 (.fsl [.str [101,48],.fsl [.any,.any] 1 2,.str [101,49],.any] 2 2) .any 1=true:=by kernel_rfl
theorem e1_2b:nameR [101,49] 196 (.fsl [.str [101,48],.fsl [.any,.any,.any,.any] 2 2,.str [101,49],.any] 2 2) .any 1=true:=by kernel_rfl
theorem e1_2c:nameR [101,49] 196 (.fsl [.str [101,48],.fsl [.any,.any,.any,.any,.any,.any] 3 2,.str [101,49],.any] 2 2) .any 1=true:=by kernel_rfl
theorem k_1:nameR [107] 199 .any (.fsl [.str [107],.any,.any] 1 3) 0=true:=by kernel_rfl
def Wk(x y:AV):Prop:=∀(ok:Okc)(c:Ctx ok)(w:World)(v:Value),VRel c w x v->VRel c w y v
def WkL:List AV->List AV->Prop|[],[]=>True|x::xs,y::a=>Wk x y/\WkL xs a|_,_=>False
theorem Wk.refl(x):Wk x x:=fun _ _ _ _ h=>h
theorem Wk.any{x}:Wk x .any:=fun _ _ _ _ _=>by simp[VRel]
theorem WkL.rels{ok}{c:Ctx ok}:∀{xs ys:List AV}{vs:List Value},WkL xs ys->VRels c w xs vs->VRels c w ys vs|[],[],_,_,a=>a|[],_::_,_,h,_=>h.elim|_::_,[],_,h,_=>h.elim|x::xs,y::ys,vs,h,a=>by simp only[VRels]at a⊢;obtain⟨v,b,rfl,h1,d⟩:=a;exact⟨v,b,rfl,h.1 _ c w v h1,WkL.rels h.2 d⟩
theorem WkL.pre{ok}{c:Ctx ok}:∀{xs ys:List AV}{vs:List Value},WkL xs ys->VPre c w xs vs->VPre c w ys vs|[],[],_,_,a=>a|[],_::_,_,h,_=>h.elim|_::_,[],_,h,_=>h.elim|x::xs,y::ys,vs,h,a=>by simp only[VPre]at a⊢;obtain⟨v,b,rfl,h1,d⟩:=a;exact⟨v,b,rfl,h.1 _ c w v h1,WkL.pre h.2 d⟩
theorem WkL.length:∀{xs ys:List AV},WkL xs ys->xs.length=ys.length|[],[],_=>rfl|[],_::_,h=>h.elim|_::_,[],h=>h.elim|x::xs,y::ys,h=>by simp[WkL.length h.2]
theorem Wk.fsl{len sz}(h:WkL cs ds):Wk (.fsl cs len sz) (.fsl ds len sz):=fun _ c w v b=>by
 simp only[VRel]at b⊢;have m:=h.length;rcases b with⟨h1,rfl,a⟩|⟨k,off,cap,C,e,g,h1,a,l,f,d,i⟩;·grind
 exact .inr ⟨k,off,cap,C,e,g,h1,a,by omega,f,d,h.pre i⟩
theorem Wk.fptr(h:WkL cs ds):Wk (.fptr cs) (.fptr ds):=fun _ c w v a=>by simp only[VRel]at a⊢;obtain⟨d,off,C,e,b,h1,i,f,g⟩:=a;exact⟨d,off,C,e,b,h1,i,f,h.pre g⟩
theorem Wk.fn{xs ys us vs}(h1:WkL xs ys)(g:WkL us vs):Wk (.fn f xs us) (.fn f ys vs):=fun _ c w v a=>by simp only[VRel]at a⊢;obtain⟨d,b,rfl,g1,g2⟩:=a;exact⟨d,b,rfl,h1.rels g1,g.rels g2⟩
theorem PSpec.wk{args bs}(a:WkL args bs)(b:noRefs args=true)(hp:Ps f bs v):Ps f args v:=SE.PSpec.weak (fun _ c w d _ h=>a.rels h) b hp
theorem nameW{X' K'}(h:nameR s f X' K' i=true)(b:Wk X X')(a:Wk K K')(c:noRefs [S,X,K]=true):Ps 197 [.str s,.fn f [] [.fptr [S,X,K],.fptr [.int .i64 i]]] (.int .i64 0):=by refine PSpec.wk (bs:=[.str s,.fn f [] [.fptr [.any,X',K'],.fptr [.int .i64 i]]]) ⟨Wk.refl _,Wk.fn trivial ⟨Wk.fptr ⟨Wk.any,b,a,trivial⟩,Wk.refl _,trivial⟩,trivial⟩ ?_ (QtT h);simp_all[noRefs,noRef]
theorem nameX{i:Nat}(c:xs[i]?=some x)(m:xs.length<=2)(s:(xs.map (·.1)).Pairwise (·<·))(k:∀x∈xs,x.1<2)(g:∀x∈xs,x.2≠[]/\x.2.length<=3)(d:noRefs [S,exs xs,K]=true):Ps 197 [.str [101,UInt8.ofNat (48+x.1)],.fn 196 [] [.fptr [S,exs xs,K],.fptr [.int .i64 (i:Int)]]] (.int .i64 0):=by match xs,m with
 |[],_=>simp at c|[(a,f)],_=>
  have hi:i=0:=by grind
  subst hi;simp at c;subst c;have l:=k (a,f) (by simp);have:a=0\/a=1:=by omega
  rcases this with rfl|rfl;·exact nameW e0_1 (Wk.fsl ⟨Wk.refl _,Wk.any,trivial⟩) Wk.any d
  ·exact nameW e1_1 (Wk.fsl ⟨Wk.refl _,Wk.any,trivial⟩) Wk.any d|[(a,f),(b,o)],_=>
  have l:=k (a,f) (by simp);have u:=k (b,o) (by simp);have n:a<b:=by simpa using s
  dsimp only at l u;obtain rfl:a=0:=by omega
  obtain rfl:b=1:=by omega
  have hi:i=0\/i=1:=by grind
  rcases hi with rfl|rfl;·simp at c;subst c;exact nameW e0_2 (Wk.fsl ⟨Wk.refl _,Wk.any,Wk.refl _,Wk.any,trivial⟩) Wk.any d
  ·simp at c;subst c;obtain⟨v,t⟩:=g (0,f) (by simp);match f,v,t with|[],h,_=>exact absurd rfl h|[p],_,_=>exact nameW e1_2a (Wk.fsl ⟨Wk.refl _,Wk.fsl ⟨Wk.any,Wk.any,trivial⟩,Wk.refl _,Wk.any,trivial⟩) Wk.any d|[p,q],_,_=>exact nameW e1_2b (Wk.fsl ⟨Wk.refl _,Wk.fsl ⟨Wk.any,Wk.any,Wk.any,Wk.any,trivial⟩,Wk.refl _,Wk.any,trivial⟩) Wk.any d|[p,q,r],_,_=>exact nameW e1_2c (Wk.fsl ⟨Wk.refl _,Wk.fsl ⟨Wk.any,Wk.any,Wk.any,Wk.any,Wk.any,Wk.any,trivial⟩,Wk.refl _,Wk.any,trivial⟩) Wk.any d
theorem nameK{x}(b:ks=[x])(a:noRefs [S,X,cos ks]=true):Ps 197 [.str [107],.fn 199 [] [.fptr [S,X,cos ks],.fptr [.int .i64 0]]] (.int .i64 0):=by subst b;exact nameW k_1 Wk.any (Wk.fsl ⟨Wk.refl _,Wk.any,Wk.any,trivial⟩) a
end
end Go.AM.SN
namespace Go.AM.SO
open Go.Proofs Go.AM.SD Go.AM.SE
theorem great190(n)(h1:-65536<=n)(a:n<=65536):Ps 253 [.int .i64 n] (.bool false):=by
 refine Zcv 64 (Ok s253) rfl rfl rfl ?_;have g1:¬n< -65536:=by omega
 have g2:¬65536<n:=by omega
 unfold s253;refine ZcZ (Zc8 g1 g2) ?_;exact⟨.inr trivial,_,rfl,rfl⟩
abbrev cdC(S:List Nat)(xs:List (Nat×List (Nat×Nat)))(ks:List (List (Nat×Int)×Int)):List AV:=[ZN S,exs xs,cos ks]
abbrev cdV(S:List Nat)(xs:List (Nat×List (Nat×Nat)))(ks:List (List (Nat×Int)×Int)):AV:=.agg (cdC S xs ks)
theorem Qce{S}{xs}{ks}:noRefs (cdC S xs ks)=true:=by rw[cdC,noRefs,noRefs,noRefs,Qab,SU.QbQ,SU.QlU];rfl
theorem Qko{l:List (Nat×Nat)}{i}{x}(h:l[i]?=some x):(l.flatMap loC).drop (i*2)=.int .i64 (x.1:Int)::.int .i64 (x.2:Int)::(l.drop (i+1)).flatMap loC:=Qbi (f:=loC) (k:=2) (fun _=>rfl) h
theorem pw_at{l:List Nat}(h:l.Pairwise (·<·)){i}{x y}(b:l[i]?=some x)(a:l[i+1]?=some y):x<y:=by
 have hi:i+1<l.length:=by
  rcases ZbE (i+1) l.length with h|h;·exact h
  rw[ZaG h]at a;cases a
 rw[Zak (by omega)]at b;rw[Zak hi]at a;cases b;cases a;exact Za0.1 h i (i+1) (by omega) hi (Nat.lt_succ_self _)
theorem _root_.Go.AM.au20{p:Prop}(h:p:=by repeat(first|exact ZcB|(refine ZcC ?_ ?_;·(first|exact Zcr|exact Rn.x1 rfl rfl|exact Rn.x2 rfl rfl|exact Rn.x3 rfl rfl|exact Rn.x4 rfl rfl|exact Rn.x5 rfl|exact Rn.x6 rfl|exact Rn.x7 rfl|(refine ZcN ?_ ?_;(first|rfl|(rw[ZaF];rfl));(first|rfl|(simp only[noRef,noRefs,SD.Qaa,SD.Qab,SD.Qaf,SD.Qag,SD.Qah,SD.Qai,SD.Qaj,SD.Qam,SD.Qan,SD.Qar,SE.QaQ,SE.Qal,SE.Qao,SE.Qap,SE.Qaq,SE.Qay,SO.QaD,SO.QaP,SO.Qaz,SU.Qa2,SU.Qa3,SU.QaX,SU.QbA,SU.Qbc,Zad,Zae,Zai];done)))|(refine Rn.fn ?_ ?_<;>(repeat'(first|exact ZcJ|refine ZcK ?_ ?_|exact Zcs rfl|exact Rn.x6 rfl|exact Rn.x2 rfl rfl|exact Rn.x5 rfl|exact Rn.x1 rfl rfl))))))):p:=h
theorem excl103(S)(xs)(ks)(x)(hS:S.length<=8)(B:∀s∈S,s<=4096)(R:x.2.length<=1000)(t:x.2≠[])(hp:(x.2.map (·.1)).Pairwise (·<·))(I:∀l∈x.2,∃n,S[l.1]?=some n/\l.2<n):Ps 198 [cdV S xs ks,.agg (exC x)] (.int .i64 0):=by
 obtain⟨u,l⟩:=x;dsimp only at R t hp I;have hex:exC (u,l)=[.str [101,UInt8.ofNat (48+u)],los l]:=rfl;rw[hex];have a:=@Qce S xs ks;have b:noRefs [.str [101,UInt8.ofNat (48+u)],los l]=true:=by rw[noRefs,noRefs,SU.Qcs];rfl
 refine Zcv 64 (Ok s198) rfl (by rw[noRefs,noRefs,noRef,noRef,a,b];rfl) rfl ?_;have v:¬(l.length:Int)=0:=by have:=List.length_pos_iff.2 t;omega
 have L:=SU.Qg3 l;unfold s198;refine ZcZ v ?_;refine QaC 100 (fun i:Nat=>[(2,.ptr 50 0 0),(3,.ptr 51 0 0),(12,los l),(13,.int .i64 l.length),(14,.int .i64 i)]) (fun _=>[(50,.cells 0 (cdC S xs ks)),(51,.cells 0 [.str [101,UInt8.ofNat (48+u)],los l])]) (fun i=>i<=l.length) (fun i=>l.length-i) 0 ⟨[(50,.blk 64 0),(51,.blk 65 0)],rfl,au0,?_,au20⟩ (Zaj _) ?_;·exact ZcE rfl rfl gg (Zct a) (ZcE rfl rfl gg (Zct b) ZcD)
 rintro i hi;by_cases d:i<l.length
 ·obtain⟨⟨c,s⟩,g⟩:=Qak d;obtain⟨n,m,C⟩:=I _ (Zaa g);dsimp only at m C;have o:c<S.length:=by
   rcases ZbE c S.length with h|h;·exact h
   rw[ZaG h]at m;cases m
  have N:=B n (Zaa m);have k:=Qko g;have p:2<=((l.flatMap loC).drop (i*2)).length:=by rw[k];simp
  have h1:¬(c:Int)<0:=by omega
  have G:¬(S.length:Int)<=(c:Int):=by omega
  have H:¬(s:Int)<0:=by omega
  have F:¬(n:Int)<=(s:Int):=by omega
  cases i with|zero=>
   have y:¬(0:Int)<((0:Nat):Int):=by omega
   refine ZcZ (Zdg d k p y h1 G H F (QaI m) o) ?_;refine⟨1,by omega,by omega,?_⟩;refine⟨[(50,.blk 50 0),(51,.blk 51 0)],rfl,au0,?_,au20⟩;exact ZcE rfl rfl gg (Zct a) (ZcE rfl rfl gg (Zct b) ZcD)|succ j=>
   obtain⟨⟨E,T⟩,f⟩:=Qak (l:=l) (i:=j) (by omega);have q:=Qko f;have Q:E<c:=pw_at hp (i:=j) (by rw[ZaA,f];rfl) (by rw[ZaA,g];rfl);have y:(0:Int)<((j+1:Nat):Int):=by omega
   have O:¬(c:Int)<=(E:Int):=by omega
   have K:((j+1:Nat):Int)-1=(j:Int):=by omega
   have P:j<l.length:=by omega
   have hle:((j+1:Nat):Int)<(l.length:Int):=by omega
   have w:((j+1:Nat):Int).toNat=j+1:=by omega
   have z:0<=((j+1:Nat):Int):=by omega
   generalize M:((j+1:Nat):Int)=J at*;simp(disch:=first|omega|(simp only[lenW]<;>omega))only[d,hle,w,z,k,q,p,y,h1,G,H,F,O,K,P,QaI m,o,wV,simprocAttr];refine⟨j+2,by omega,by omega,?_⟩;have A:J+1=((j+2:Nat):Int):=by omega
   rw[A];exact bgzqY
 refine ZcZ d ?_;exact⟨.inr trivial,_,rfl,rfl⟩
theorem cons105(S)(xs)(ks)(x)(hS:S.length<=8)(P:x.1.length<=1000)(m:x.1≠[])(hp:(x.1.map (·.1)).Pairwise (·<·))(F:∀l∈x.1,l.1<S.length/\l.2≠0/\-65536<=l.2/\l.2<=65536)(E:-65536<=x.2/\x.2<=65536):Ps 200 [cdV S xs ks,.agg (coC x)] (.int .i64 0):=by
 obtain⟨l,o⟩:=x;dsimp only at P m hp F E;have hex:coC (l,o)=[.str [107],tes l,.int .i64 o]:=rfl;rw[hex];have a:=@Qce S xs ks;have b:noRefs [.str [107],tes l,.int .i64 o]=true:=by rw[noRefs,noRefs,SU.QcO];rfl
 refine Zcv 64 (Ok s200) rfl (by rw[noRefs,noRefs,noRef,noRef,a,b];rfl) rfl ?_;have A:¬(l.length:Int)=0:=by have:=List.length_pos_iff.2 m;omega
 have L:=SU.Qdr l;have v:=great190 o E.1 E.2;unfold s200;refine ZcZ A ?_;refine QaC 100 (fun i:Nat=>[(2,.ptr 50 0 0),(3,.ptr 51 0 0),(12,tes l),(13,.int .i64 l.length),(14,.int .i64 i)]) (fun _=>[(50,.cells 0 (cdC S xs ks)),(51,.cells 0 [.str [107],tes l,.int .i64 o])]) (fun i=>i<=l.length) (fun i=>l.length-i) 0 ⟨[(50,.blk 64 0),(51,.blk 65 0)],rfl,au0,?_,au20⟩ (Zaj _) ?_;·exact ZcE rfl rfl gg (Zct a) (ZcE rfl rfl gg (Zct b) ZcD)
 rintro i hi;by_cases d:i<l.length
 ·obtain⟨⟨c,s⟩,h⟩:=Qak d;obtain⟨B,g,t,p⟩:=F _ (Zaa h);dsimp only at B g t p;have k:=SU.QdU h;have q:2<=((l.flatMap teC).drop (i*2)).length:=by rw[k];simp
  have h1:¬(c:Int)<0:=by omega
  have H:¬(S.length:Int)<=(c:Int):=by omega
  have u:=great190 s t p;cases i with|zero=>
   have w:¬(0:Int)<((0:Nat):Int):=by omega
   refine ZcZ (Zdd d k q w h1 H g) ?_;refine cp u ?_;refine ZcY ?_;refine⟨1,by omega,by omega,?_⟩;refine⟨[(50,.blk 50 0),(51,.blk 51 0)],rfl,au0,?_,au20⟩;exact ZcE rfl rfl gg (Zct a) (ZcE rfl rfl gg (Zct b) ZcD)|succ j=>
   obtain⟨⟨G,Q⟩,f⟩:=Qak (l:=l) (i:=j) (by omega);have n:=SU.QdU f;have K:G<c:=pw_at hp (i:=j) (by rw[ZaA,f];rfl) (by rw[ZaA,h];rfl);have w:(0:Int)<((j+1:Nat):Int):=by omega
   have I:¬(c:Int)<=(G:Int):=by omega
   have M:((j+1:Nat):Int)-1=(j:Int):=by omega
   have N:j<l.length:=by omega
   have hle:((j+1:Nat):Int)<(l.length:Int):=by omega
   have C:((j+1:Nat):Int).toNat=j+1:=by omega
   have y:0<=((j+1:Nat):Int):=by omega
   generalize O:((j+1:Nat):Int)=J at*;refine ZcZ (Zdk d hle C y k n q w h1 H g I M N) ?_;refine cp u ?_;refine ZcY ?_;refine⟨j+2,by omega,by omega,?_⟩;have z:J+1=((j+2:Nat):Int):=by omega
   rw[z];exact bgzqY
 refine ZcZ d ?_;refine cp v ?_;refine ZcY ?_;exact⟨.inr trivial,_,rfl,rfl⟩
end Go.AM.SO
namespace Go.AM.SQ
open Go.Proofs
set_option maxHeartbeats 4000000
noncomputable section
def cf:YA.Cf:={most:=.pure,always:=[197].map fun k=>(k,.heap)}
def s156:SFn:=by
 refine(?f:YA.Yt Tryz.prog cf 156 [[0,2],[15,16,17],[1,18],[2,18,19],[],[23,24,25],[4,26,27,28],[1,20,21,22,30,29,41,40,39,38,31],[2,31,32],[20,21,22,30,29,41,40,39,38,33,34,35,36,37],[1,42],[2,42,43],[],[47,48,49,50],[5,51],[7,52,53,54,55],[56],[1,44,45,46,6,8,57,58],[2,6,8,57,59,60,61],[62],[1,44,45,46,9,63,64],[2,9,63,65],[44,45,46,66],[],[70,71,72,73],[10,74],[12,75,76,77,78],[79],[1,67,68,69,11,13,80,81],[2,11,13,80,82,83,84],[85],[1,67,68,69,14,86,87],[2,14,86,88],[1,67,68,69]]) ?s ?h;case h=>exact YA.rr
 exact fun s _=>s
end
end Go.AM.SQ
namespace Go.AM.SO
open Go.Proofs Go.AM.SD Go.AM.SE
variable{c:Cel}{cap:List AV}{K i:Nat}{x:Nat×List (Nat×Nat)}{α:Type}{l:List α}{q:α->Bool}{f:α->List AV}
def szs(c:Cel):List Nat:=c.cs.map (·.2.n)
theorem WfCel.comp(h:WfCel c)(b:x∈c.xs):∀l∈x.2,∃n,(szs c)[l.1]?=some n/\l.2<n:=fun l a=>by obtain⟨y,h1,d⟩:=(h.xl x b).2.2 l a;exact⟨y.2.n,by unfold szs;rw[ZaA,h1];rfl,d⟩
theorem WfCel.xlen(h:WfCel c)(a:x∈c.xs):x.2.length<=3:=by
 have h1:=Qa1 c.cs.length (x.2.map (·.1)) (by rw[ZaN];exact(h.xl x a).2.1.imp fun h=>by omega) (fun y d=>by
  obtain⟨l,b,rfl⟩:=Zaq.1 d;obtain⟨z,h1,_⟩:=(h.xl x a).2.2 l b;rcases ZbE l.1 c.cs.length with h|h;·exact h
  rw[ZaG h]at h1;cases h1);rw[Zax]at h1;exact ZaC h1 h.c3
theorem WfCel.klen(h:WfCel c){x}(a:x∈c.ks):x.1.length<=3:=by have h1:=Qa1 c.cs.length (x.1.map (·.1)) (by rw[ZaN];exact(h.kl x a).2.1.imp fun h=>by omega) (fun y d=>by obtain⟨l,b,rfl⟩:=Zaq.1 d;exact((h.kl x a).2.2.1 l b).1);rw[Zax]at h1;exact ZaC h1 h.c3
theorem WfCel.slen(h:WfCel c):(szs c).length=c.cs.length:=by simp[szs]
theorem WfCel.sz(h:WfCel c):∀s∈szs c,1<=s/\s<=3:=fun s b=>by obtain⟨x,a,rfl⟩:=Zaq.1 b;exact⟨(h.ca x a).pos,(h.ca x a).n3⟩
theorem Qkp{l:List (Nat×List (Nat×Nat))}(h:l[i]?=some x):(l.flatMap exC).drop (i*2)=.str [101,UInt8.ofNat (48+x.1)]::los x.2::(l.drop (i+1)).flatMap exC:=Qbi (f:=exC) (k:=2) (fun _=>rfl) h
theorem Qkq{l:List (List (Nat×Int)×Int)}{x}(h:l[i]?=some x):(l.flatMap coC).drop (i*3)=.str [107]::tes x.1::.int .i64 x.2::(l.drop (i+1)).flatMap coC:=Qbi (f:=coC) (k:=3) (fun _=>rfl) h
theorem Qg4(l:List (List (Nat×Int)×Int)):(l.flatMap coC).length=l.length*3:=Qbg (k:=3) (fun _=>rfl) l
theorem conds32(c)(h:WfCel c):Ps 156 [cdV (szs c) c.xs c.ks] (.int .i64 0):=by
 have a:=@Qce (szs c) c.xs c.ks;refine Zcv 64 (Ok SQ.s156) rfl (by rw[noRefs,noRef,a];rfl) rfl ?_;have C:=h.slen;have F:=h.c3;have t:=h.x2;have w:=h.k1;have g1:¬(8:Int)<((szs c).length:Int):=by omega
 have g2:¬(32:Int)<(c.xs.length:Int):=by omega
 have g3:¬(32:Int)<(c.ks.length:Int):=by omega
 have z:∀x∈c.xs,x.2≠[]/\x.2.length<=3:=fun x g=>⟨(h.xl x g).1,h.xlen g⟩;unfold SQ.s156;refine Zc7 g1 ?_;refine Qas 100 (fun i:Nat=>[(1,.ptr 50 0 0),(20,ZN (szs c)),(21,.int .i64 (szs c).length),(22,.int .i64 i)]) (fun _=>[(50,.cells 0 (cdC (szs c) c.xs c.ks))]) (fun i=>i<=(szs c).length) (fun i=>(szs c).length-i) 0 0 140 (fun _:Unit=>[(1,.ptr 50 0 0)]) (fun _=>[(50,.cells 0 (cdC (szs c) c.xs c.ks))]) (fun _=>True) ⟨[(50,.blk 64 0)],rfl,au0,?_,au20⟩ (Zaj _) ?_ ?_;·exact ZcE rfl rfl gg (Zct a) ZcD
 ·rintro i hi;by_cases b:i<(szs c).length
  ·obtain⟨s,o⟩:=Qak b;obtain⟨I,A⟩:=h.sz s (Zaa o);have q1:¬(s:Int)<1:=by omega
   have q2:¬(4096:Int)<(s:Int):=by omega
   refine Zc7 (Zda b (QaI o) @q1 @q2) ?_;exact bIaJD
  exact bKVSY
 rintro _ _;refine Zc7 (Zc8 g2 g3) ?_;refine Qas 200 (fun i:Nat=>[(1,.ptr 50 0 0),(44,exs c.xs),(45,.int .i64 c.xs.length),(46,.int .i64 i)]) (fun _=>[(50,.cells 0 (cdC (szs c) c.xs c.ks))]) (fun i=>i<=c.xs.length) (fun i=>c.xs.length-i) 0 2 240 (fun _:Unit=>[(1,.ptr 50 0 0)]) (fun _=>[(50,.cells 0 (cdC (szs c) c.xs c.ks))]) (fun _=>True) ⟨[(50,.blk 50 0)],rfl,au0,?_,au20⟩ (Zaj _) ?_ ?_;·exact ZcE rfl rfl gg (Zct a) ZcD
 ·rintro i hi;by_cases b:i<c.xs.length
  ·obtain⟨x,g⟩:=Qak b;have d:=Zaa g;have f:=Qkp g;have k:2<=((c.xs.flatMap exC).drop (i*2)).length:=by rw[f];simp
   have p:=SN.nameX g t h.xn.1 h.xn.2 z a;have n:=excl103 (szs c) c.xs c.ks x (by omega) (fun s o=>by have:=h.sz s o;omega) (by have:=h.xlen d;omega) (h.xl x d).1 (h.xl x d).2.1 (h.comp d);have hex:exC x=[.str [101,UInt8.ofNat (48+x.1)],los x.2]:=rfl;rw[hex]at n;refine Zc7 (Zc9 b f k) ?_;refine SU.chc (ZcQ (ZcT (Zcy _) (ZcT (FrzTo.fn ZcS (ZcT (ZcP (g:=0) (cs:=cdC (szs c) c.xs c.ks) gg (Zcz _)) (ZcT (ZcP (g:=0) (cs:=[.int .i64 (i:Int)]) gg (Zcz _)) ZcS))) ZcS)) p rfl) ?_;refine Zc6 ?_;refine cp n ?_;refine Zc6 ?_;exact bIaJD
  exact bKVSY
 rintro _ _;refine Zc6 ?_;refine QaC 300 (fun i:Nat=>[(1,.ptr 50 0 0),(67,cos c.ks),(68,.int .i64 c.ks.length),(69,.int .i64 i)]) (fun _=>[(50,.cells 0 (cdC (szs c) c.xs c.ks))]) (fun i=>i<=c.ks.length) (fun i=>c.ks.length-i) 0 ⟨[(50,.blk 50 0)],rfl,au0,?_,au20⟩ (Zaj _) ?_;·exact ZcE rfl rfl gg (Zct a) ZcD
 rintro i hi;by_cases b:i<c.ks.length
 ·obtain⟨x,g⟩:=Qak b;have q:i=0:=by omega
  subst q;have d:=Zaa g;have f:=Qkq g;rw[Zcf]at f;have k:3<=(c.ks.flatMap coC).length:=by rw[Qg4];omega
  have v:c.ks=[x]:=by match hk:c.ks,g,w with|[y],g,_=>simp at g;rw[g]
  have p:=SN.nameK (S:=ZN (szs c)) (X:=exs c.xs) v a;obtain⟨G,H,B,L,J⟩:=h.kl x d;have n:=cons105 (szs c) c.xs c.ks x (by omega) (by have:=h.klen d;omega) G H (fun l E=>by obtain⟨q1,q2,M,K⟩:=B l E;exact⟨by omega,q2,by omega,by omega⟩) ⟨by omega,by omega⟩;have hex:coC x=[.str [107],tes x.1,.int .i64 x.2]:=rfl;rw[hex]at n;have m:(0:Int)<(c.ks.length:Int):=by omega
  rw[Za5]at f;have u:List.take 3 (c.ks.flatMap coC)=[.str [107],tes x.1,.int .i64 x.2]:=by rw[f];rfl
  refine Zc7 (Zda b m u k) ?_;refine SU.chc (ZcQ (ZcT (Zcy _) (ZcT (FrzTo.fn ZcS (ZcT (ZcP (g:=0) (cs:=cdC (szs c) c.xs c.ks) gg (Zcz _)) (ZcT (ZcP (g:=0) (cs:=[.int .i64 0]) gg (Zcz _)) ZcS))) ZcS)) p rfl) ?_;refine Zc6 ?_;refine cp n ?_;refine Zc6 ?_;refine⟨1,by omega,by omega,?_⟩;refine⟨[(50,.blk 50 0)],rfl,au0,?_,au20⟩;exact ZcE rfl rfl gg (Zct a) ZcD
 refine Zc7 b ?_;exact⟨.inr trivial,_,rfl,rfl⟩
theorem Qc7(hf:∀x,(f x).all AV.one=true):∀l:List α,(l.flatMap f).all AV.one=true|[]=>rfl|x::l=>by rw[Zaz,ZbR,hf,Qc7 hf l];rfl
theorem clone148(l)(f:l.length<=1000)(c:l≠[]):Ps 201 [los l] (los l):=by
 refine Zcu 100 (Ok s201) rfl (by rw[noRefs,SU.Qcs];rfl) (SU.Qcs _) ?_;have d:aEqN false (los l)=.ret (.bool false):=by match l,c with|x::l,_=>rfl
 have a:(l.flatMap loC).all AV.one=true:=Qc7 (fun _=>rfl) l;have b:=SU.Qg3 l;unfold s201;refine Zc7 (Zc9 d a b) ?_;exact⟨.inr trivial,_,rfl,ZcM rfl b (Zct (SU.QbA _))⟩
theorem clone149(l)(f:l.length<=1000)(c:l≠[]):Ps 202 [tes l] (tes l):=by
 refine Zcu 100 (Ok s202) rfl (by rw[noRefs,SU.QcO];rfl) (SU.QcO _) ?_;have d:aEqN false (tes l)=.ret (.bool false):=by match l,c with|x::l,_=>rfl
 have a:(l.flatMap teC).all AV.one=true:=Qc7 (fun _=>rfl) l;have b:=SU.Qdr l;unfold s202;refine Zc7 (Zc9 d a b) ?_;exact⟨.inr trivial,_,rfl,ZcM rfl b (Zct (SU.Qa3 _))⟩
theorem take_succ'{x}(h:l[i]?=some x):l.take (i+1)=l.take i++[x]:=by rw[Za6,h];rfl
theorem QwL:List.flatMap exC [x]=[.str [101,UInt8.ofNat (48+x.1)],los x.2]:=rfl
theorem QwM{x}:List.flatMap coC [x]=[.str [107],tes x.1,.int .i64 x.2]:=rfl
theorem conds85(c)(h:WfCel c):Ps 157 [celV c] (cdV (szs c) c.xs c.ks):=by
 have g:noRefs [evsV c.ev,its 99 c.cs,its 114 c.rs,exs c.xs,cos c.ks]=true:=by have:=SU.QaY c;rwa[celV,noRef]at this
 refine Zcu 64 (Ok s157) rfl (by rw[noRefs,SU.QaY];rfl) (by rw[noRef];exact Qce) ?_;have w:=h.c3;have y:=h.x2;have v:=h.k1;have u:=@SU.Qee 99 c.cs;have t:=SU.QeX c.xs;have z:=Qg4 c.ks;unfold s157;refine Zc6 ?_;refine Qas 100 (fun i:Nat=>[(1,.ptr 50 0 0),(2,.ptr 51 0 0),(3,.ptr 52 0 0),(12,its 99 c.cs),(13,.int .i64 c.cs.length),(14,.int .i64 i)]) (fun i=>[(50,.cells 0 [evsV c.ev,its 99 c.cs,its 114 c.rs,exs c.xs,cos c.ks]),(51,.cells 0 [.nilsl,.nilsl,.nilsl]),(52,.cells 0 [.sl 76 0 0 (szs c|>.take i).length 1,.nilsl,.nilsl]),(76,.cells 0 (ZI (nz ((szs c).take i))))]) (fun i=>i<=c.cs.length) (fun i=>c.cs.length-i) 0 0 160 (fun _:Unit=>[(1,.ptr 50 0 0),(2,.ptr 51 0 0),(3,.ptr 52 0 0)]) (fun _=>[(50,.cells 0 [evsV c.ev,its 99 c.cs,its 114 c.rs,exs c.xs,cos c.ks]),(51,.cells 0 [.nilsl,.nilsl,.nilsl]),(52,.cells 0 [ZN (szs c),.nilsl,.nilsl])]) (fun _=>True) ⟨[(50,.blk 64 0),(51,.blk 65 0),(52,.blk 67 0),(76,.nil)],rfl,au0,?_,au20⟩ (Zaj _) ?_ ?_;·exact ZcE rfl rfl gg (Zct g) (ZcE rfl rfl gg (Zct rfl) (ZcE rfl rfl gg (ZcK (Rn.x4 rfl rfl) (Zct rfl)) (ZcF rfl rfl ZcD)))
 ·rintro i hi;by_cases a:i<c.cs.length
  ·obtain⟨x,n⟩:=Qak a;have d:=SU.QdV (ch:=99) n;have m:5<=((c.cs.flatMap (itC 99)).drop (i*5)).length:=by rw[d];simp
   have q:(szs c)[i]?=some x.2.n:=by unfold szs;rw[ZaA,n];rfl
   have f:=take_succ' q;have b:((szs c).take i).length=i:=by rw[Zap,h.slen];omega
   have s:=@SU.Qen [99,UInt8.ofNat (48+x.1)] x.2;refine Zc7 (Zda a d m b) ?_;refine⟨i+1,by omega,by omega,?_⟩;rw[f,Zag,QaM,QaB,b];refine⟨[(50,.blk 50 0),(51,.blk 51 0),(52,.blk 52 0),(76,.blk 76 1)],rfl,au0,?_,au20⟩;exact ZcE rfl rfl gg (Zct g) (ZcE rfl rfl gg (Zct rfl) (ZcE rfl rfl gg (ZcK (Rn.x1 rfl rfl) (Zct rfl)) (ZcE rfl rfl gg (Zct (SU.Qav (Qaa _) rfl)) ZcD)))
  have e:i=c.cs.length:=by omega
  subst e;have p:(szs c).take c.cs.length=szs c:=by rw[<-h.slen,Zan]
  refine Zc7 (Zc8 a p) ?_;refine⟨(),?_⟩;refine⟨[(50,.blk 50 0),(51,.blk 51 0),(52,.blk 52 0)],rfl,au0,?_,au20⟩;exact ZcE rfl rfl gg (Zct g) (ZcE rfl rfl gg (Zct rfl) (ZcE rfl rfl gg (ZcK (ZcL rfl rfl rfl rfl (by simp[ZI]) (Zct (Qaa _))) (Zct rfl)) ZcD))
 rintro _ _;refine Zc6 ?_;refine Qas 200 (fun i:Nat=>[(1,.ptr 50 0 0),(2,.ptr 51 0 0),(3,.ptr 52 0 0),(28,exs c.xs),(29,.int .i64 c.xs.length),(30,.int .i64 i)]) (fun i=>[(50,.cells 0 [evsV c.ev,its 99 c.cs,its 114 c.rs,exs c.xs,cos c.ks]),(51,.cells 0 [.nilsl,.nilsl,.nilsl]),(52,.cells 0 [ZN (szs c),.sl 77 0 0 (c.xs.take i).length 2,.nilsl]),(77,.cells 0 ((c.xs.take i).flatMap exC))]) (fun i=>i<=c.xs.length) (fun i=>c.xs.length-i) 0 2 260 (fun _:Unit=>[(1,.ptr 50 0 0),(2,.ptr 51 0 0),(3,.ptr 52 0 0)]) (fun _=>[(50,.cells 0 [evsV c.ev,its 99 c.cs,its 114 c.rs,exs c.xs,cos c.ks]),(51,.cells 0 [.nilsl,.nilsl,.nilsl]),(52,.cells 0 [ZN (szs c),exs c.xs,.nilsl])]) (fun _=>True) ⟨[(50,.blk 50 0),(51,.blk 51 0),(52,.blk 52 0),(77,.nil)],rfl,au0,?_,au20⟩ (Zaj _) ?_ ?_;·exact ZcE rfl rfl gg (Zct g) (ZcE rfl rfl gg (Zct rfl) (ZcE rfl rfl gg (ZcK (Zcs (Qab _)) (ZcK (Rn.x4 rfl rfl) (Zct rfl))) (ZcF rfl rfl ZcD)))
 ·rintro i hi;by_cases a:i<c.xs.length
  ·obtain⟨x,n⟩:=Qak a;have l:=Zaa n;have d:=Qkp n;have m:2<=((c.xs.flatMap exC).drop (i*2)).length:=by rw[d];simp
   have f:=take_succ' n;have b:(c.xs.take i).length=i:=by rw[Zap];omega
   have o:=clone148 x.2 (by have:=h.xlen l;omega) (h.xl x l).1;have k:=SU.QeX (c.xs.take i);rw[b]at k;refine Zc7 (Zda a d m b) ?_;refine cp o ?_;refine Zc7 k ?_;refine⟨i+1,by omega,by omega,?_⟩;rw[f,Zag,Zao,b,QwL];refine⟨[(50,.blk 50 0),(51,.blk 51 0),(52,.blk 52 0),(77,.blk 77 1)],rfl,au0,?_,au20⟩;exact ZcE rfl rfl gg (Zct g) (ZcE rfl rfl gg (Zct rfl) (ZcE rfl rfl gg (ZcK (Zcs (Qab _)) (ZcK (Rn.x1 rfl rfl) (Zct rfl))) (ZcE rfl rfl gg (Zct (SU.Qav (SU.QaX _) (by rw[noRefs,noRefs,SU.Qcs];rfl))) ZcD)))
  have e:i=c.xs.length:=by omega
  subst e;refine Zc7 (Zc8 a @Zan) ?_;refine⟨(),?_⟩;refine⟨[(50,.blk 50 0),(51,.blk 51 0),(52,.blk 52 0)],rfl,au0,?_,au20⟩;exact ZcE rfl rfl gg (Zct g) (ZcE rfl rfl gg (Zct rfl) (ZcE rfl rfl gg (ZcK (Zcs (Qab _)) (ZcK (ZcL rfl rfl rfl rfl (SU.QeX _) (Zct (SU.QaX _))) (Zct rfl))) ZcD))
 rintro _ _;refine Zc6 ?_;refine Qas 300 (fun i:Nat=>[(2,.ptr 51 0 0),(3,.ptr 52 0 0),(47,cos c.ks),(48,.int .i64 c.ks.length),(49,.int .i64 i)]) (fun i=>[(51,.cells 0 [.nilsl,.nilsl,.nilsl]),(52,.cells 0 [ZN (szs c),exs c.xs,.sl 78 0 0 (c.ks.take i).length 3]),(78,.cells 0 ((c.ks.take i).flatMap coC))]) (fun i=>i<=c.ks.length) (fun i=>c.ks.length-i) 0 4 360 (fun _:Unit=>[(2,.ptr 51 0 0),(3,.ptr 52 0 0)]) (fun _=>[(51,.cells 0 [.nilsl,.nilsl,.nilsl]),(52,.cells 0 [ZN (szs c),exs c.xs,cos c.ks])]) (fun _=>True) ⟨[(51,.blk 51 0),(52,.blk 52 0),(78,.nil)],rfl,au0,?_,au20⟩ (Zaj _) ?_ ?_;·exact ZcE rfl rfl gg (Zct rfl) (ZcE rfl rfl gg (ZcK (Zcs (Qab _)) (ZcK (Zcs (SU.QbQ _)) (ZcK (Rn.x4 rfl rfl) ZcJ))) (ZcF rfl rfl ZcD))
 ·rintro i hi;by_cases a:i<c.ks.length
  ·obtain⟨x,n⟩:=Qak a;have l:=Zaa n;have d:=Qkq n;have m:3<=((c.ks.flatMap coC).drop (i*3)).length:=by rw[d];simp
   have f:=take_succ' n;have b:(c.ks.take i).length=i:=by rw[Zap];omega
   have o:=clone149 x.1 (by have:=h.klen l;omega) (h.kl x l).1;have k:=Qg4 (c.ks.take i);rw[b]at k;refine Zc7 (Zda a d m b) ?_;refine cp o ?_;refine Zc7 k ?_;refine⟨i+1,by omega,by omega,?_⟩;rw[f,Zag,Zao,b,QwM];refine⟨[(51,.blk 51 0),(52,.blk 52 0),(78,.blk 78 1)],rfl,au0,?_,au20⟩;exact ZcE rfl rfl gg (Zct rfl) (ZcE rfl rfl gg (ZcK (Zcs (Qab _)) (ZcK (Zcs (SU.QbQ _)) (ZcK (Rn.x1 rfl rfl) ZcJ))) (ZcE rfl rfl gg (Zct (SU.Qav (SU.Qbc _) (by rw[noRefs,noRefs,SU.QcO];rfl))) ZcD))
  have e:i=c.ks.length:=by omega
  subst e;refine Zc7 (Zc8 a @Zan) ?_;refine⟨(),?_⟩;refine⟨[(51,.blk 51 0),(52,.blk 52 0)],rfl,au0,?_,au20⟩;exact ZcE rfl rfl gg (Zct rfl) (ZcE rfl rfl gg (ZcK (Zcs (Qab _)) (ZcK (Zcs (SU.QbQ _)) (ZcK (ZcL rfl rfl rfl rfl (Qg4 _) (Zct (SU.Qbc _))) ZcJ))) ZcD)
 rintro _ _;refine Zc6 ?_;refine⟨.inr trivial,_,rfl,?_⟩;exact Zcs (by rw[noRef];exact Qce)
def idxQ{α:Type}(q:α->Bool)(l:List α):Int:=if l.any q then(l.findIdx q:Int)else-1
theorem Qef(h:∀x∈l,q x=false):idxQ q l=-1:=by unfold idxQ;rw[if_neg];rw[Za8];rintro⟨x,b,a⟩;rw[h x b]at a;cases a
theorem QfA{x}(a:l[i]?=some x)(c:q x=true)(d:∀(j:Nat)y,j<i->l[j]?=some y->q y=false):idxQ q l=i:=by
 have b:i<l.length:=by
  rcases ZbE i l.length with h|h;·exact h
  rw[ZaG h]at a;cases a
 have h1:l.any q=true:=Za8.2 ⟨x,Zaa a,c⟩;have g:l.findIdx q=i:=by rw[Zca b];refine⟨by rw[Zak b]at a;cases a;exact c,fun j f=>d j l[j] f (Zak (by omega))⟩
 unfold idxQ;rw[if_pos h1,g]
theorem QpJ{α}{q}{l:List α}:decide (0<=idxQ q l)=l.any q:=by
 unfold idxQ;cases h:l.any q;·simp
 simp
theorem QbR(h:noRefs cap=true):noRef (.fn K [] cap)=true:=by simp only[noRef,noRefs,h];rfl
theorem Qu7{l}{x:Nat}(h:l[i]?=some x):(ZI (nz l)).drop (i*1)=.int .i64 (x:Int)::(ZI (nz (l.drop (i+1)))):=by
 rw[ZbY];have hi:i<l.length:=by
  rcases ZbE i l.length with h1|h1;·exact h1
  rw[ZaG h1]at h;cases h
 rw[Zak hi]at h;cases h;rw[Zbm (by simp[ZI];omega)];simp[ZI,nz,List.map_drop]
theorem index110(q:Nat->Bool)(l:List Nat)(s:l.length<=1000000)(hc:noRefs cap=true)(hk:∀x∈l,Ps K (.int .i64 (x:Int)::cap) (.bool (q x))):Ps 151 [ZN l,.fn K [] cap] (.int .i64 (idxQ q l)):=by
 refine Zcv 64 (Ok s151) rfl (by rw[noRefs,noRefs,QbR hc,(Qab _)];rfl) rfl ?_;have c:=QbR (K:=K) hc;have n:=(show(ZI (nz l)).length=l.length*1 by simp[ZI]);unfold s151;refine Zc7 @Zas ?_;refine QaC 100 (fun i:Nat=>[(0,ZN l),(1,.fn K [] cap),(7,.int .i64 l.length),(8,.int .i64 i)]) (fun _=>[]) (fun i=>i<=l.length/\∀(j:Nat)y,j<i->l[j]?=some y->q y=false) (fun i=>l.length-i) 0 ?_ ⟨Zaj _,fun j y k=>absurd k (Zay _)⟩ ?_;·exact⟨[],rfl,ZcA,ZcD,ZcC (Zcs (Qab _)) (ZcC (Zcs c) (ZcC (Zcs rfl) (ZcC (Zcs rfl) ZcB)))⟩
 rintro i⟨hi,m⟩;by_cases a:i<l.length
 ·obtain⟨x,b⟩:=Qak a;have h:=hk x (Zaa b);have d:=QaI b;have f:1<=(List.drop (i*1) (ZI (nz l))).length:=by rw[ZaR,n];omega
  cases g:q x
  ·rw[g]at h;refine Zc7 (Zdb a d f @Zbs @Zas) ?_;refine⟨_,by simpa using h,?_⟩;refine Zc7 @Zas ?_;refine⟨i+1,by omega,⟨by omega,fun j y k o=>?_⟩,?_⟩
   ·by_cases e:j=i;·subst e;rw[b]at o;cases o;exact g
    exact m j y (by omega) o
   exact⟨[],rfl,ZcA,ZcD,ZcC (Zcs (Qab _)) (ZcC (Zcs c) (ZcC (Zcs rfl) (ZcC (Zcs rfl) ZcB)))⟩
  rw[g]at h;refine Zc7 (Zdb a d f @Zbs @Zas) ?_;refine⟨_,by simpa using h,?_⟩;refine Zc7 @Zas ?_;refine⟨.inr trivial,_,rfl,?_⟩;rw[QfA b g m];rfl
 refine Zc7 (Zc8 a @Zas) ?_;refine⟨.inr trivial,_,rfl,?_⟩;rw[Qef fun x b=>by obtain⟨j,k,p⟩:=ZaO b;exact m j x (by omega) (by rw[Zak k,p])];rfl
theorem contains36(q:Nat->Bool)(l:List Nat)(a:l.length<=1000000)(hc:noRefs cap=true)(hk:∀x∈l,Ps K (.int .i64 (x:Int)::cap) (.bool (q x))):Ps 144 [ZN l,.fn K [] cap] (.bool (l.any q)):=by
 refine Zcv 64 (Ok s144) rfl (by rw[noRefs,noRefs,QbR hc,Qab];rfl) rfl ?_;unfold s144;refine Zc7 @Zas ?_;refine cp (index110 q l a hc hk) ?_;have e:=@QpJ Nat q l;cases h:l.any q;·rw[h,decide_eq_false_iff_not]at e;refine Zc7 (Zc8 e @Zas) ?_;exact⟨.inr trivial,_,rfl,rfl⟩
 rw[h,decide_eq_true_eq]at e;refine Zc7 (Zc8 e @Zas) ?_;exact⟨.inr trivial,_,rfl,rfl⟩
theorem ge166(x:Nat):Ps 192 [.int .i64 (x:Int),.fptr [.int .i64 5]] (.bool (decide (5<=x))):=by refine Zcv 64 (Ok s192) rfl rfl rfl ?_;have e:decide ((5:Int)<=(x:Int))=decide (5<=x):=decide_eq_decide.2 (by omega);unfold s192;refine Zc7 (Zc8 e @Zas) ?_;exact⟨.inr trivial,_,rfl,rfl⟩
end Go.AM.SO
namespace Go.AM.SR
open Go.Proofs
set_option maxHeartbeats 4000000
noncomputable section
def cf:YA.Cf:={most:=.pure,always:=[144].map fun k=>(k,.heap)}
def s154:SFn:=by
 refine(?f:YA.Yt Tryz.prog cf 154 [[0,1,8],[11,12,13,14],[2,3,4,5,10],[10,16,17,18,19],[2,3,4,5,15],[8,3,15,20,21,22],[23,24,25],[26],[2,4,5,9,27,28],[8,9,27,30,31,32,33],[2,4,5,29],[29,35,36,37,38],[2,4,5,34],[5,34,40,41,42,43,44],[2,4,39],[2,4,39,46,47,48,49,50,51],[45],[45]]) ?s ?h;case h=>exact YA.rr
 exact fun s _=>s
end
end Go.AM.SR
namespace Go.AM.SO
open Go.Proofs Go.AM.SD Go.AM.SE
variable{a:Aut}{b:Bxn}{P:Bxn->Prop}{c:Cel}{h n:Int}{A L:List (List Int)}{v:List (List UInt8×Int)}{l:List (Nat×Aut)}{bs:List Bxn}{t:List Int}{G:List Int->Bxn}{B:List Nat}{y:List UInt8×Int}{g i k m:Nat}{π:Nat->Option Src}{x:Nat×Aut}{s:UInt8}
theorem Qsk{A}(hA:A.Pairwise (·<·))(c:B.Pairwise (·<·))(h:∀x∈A,x∈B):mrg (fun a b=>a&&!b) A B=[]:=by rw[List.eq_nil_iff_forall_not_mem];intro x d;obtain⟨h1,f⟩:=(Qb8 hA c).1 d;simp at h1;exact h1.2 (h x h1.1)
theorem Qg5(h:WfA a):a.al.length<=32:=Qa1 32 a.al (by rw[ZaN];exact h.al.imp fun h=>by omega) h.al5
abbrev nmsB(l:List (List UInt8)):Blk:=.map 0 (mapS yes l)
theorem item83(i)(a)(B)(names)(h:WfI a)(t:Ps 165 [.str i] (.bool true))(m:i∉names)(u:names.length<=100)(n:B.Pairwise (·<·))(k:B.length<=1000000)(p:∀x∈a.al,x∈B):HSpec Tryz.prog 154 [.agg [.str i,ZN a.al,.int .i64 (a.n:Int),ZN a.ms,egsN a.es],.int .i64 5,ZN B,.map 68 0] (hp [(68,nmsB names)]) (.int .i64 0) (hp [(68,nmsB (names++[i]))]):=by
 have q:=Qg5 h.wf;have f:a.es.length<=1000000:=ZaC h.el (by decide);have v:=check112 a h.wf f;have s:=isCanon60 a h.wf f h.can;have o:=h.pos;have l:¬(a.n:Int)=0:=by omega
 have d:=contains36 (K:=192) (cap:=[.fptr [.int .i64 5]]) (fun x=>decide (5<=x)) a.al (by omega) rfl (fun x _=>ge166 x);have g:a.al.any (fun x=>decide (5<=x))=false:=by rw[ZbB];intro x w;have:=h.a5 x w;simp;omega
 rw[g]at d;have b:=subset167 a.al B (by omega) k;rw[Qsk h.wf.al n p]at b;have c:Ps 193 [ZN a.al,ZN B] (.bool true):=b;refine HSpec.Qv5 (m:=69) 100 (Ok SR.s154) rfl rfl rfl ?_;unfold SR.s154;refine Zc6 ?_;refine cp t ?_;refine Zc6 ?_;refine Qg0 gg m ?_;refine Zc6 ?_;refine QeW gg m (by omega) ?_;refine Zc7 @QiI ?_;refine cp v ?_;refine Zc6 ?_;refine cp s ?_;refine Zc7 l ?_;refine SU.chc (ZcQ (ZcT (Zcy _) (ZcT (FrzTo.fn ZcS (ZcT (ZcP (g:=0) (cs:=[.int .i64 5]) gg (Zcz _)) ZcS)) ZcS)) d rfl) ?_;refine Zc6 ?_;refine cp c ?_;refine Zc6 ?_;refine⟨.inr trivial,_,rfl,rfl,?_⟩;refine⟨[(68,.nil)],rfl,au0,?_,au20⟩;exact ZcI rfl gg (RnM.mapS fun _ _=>Zcs rfl) ZcD
theorem item83F{h}(b)(a)(B)(names)(hw:WfI a)(m:Ps 165 [.str b] (.bool true))(g:b∉names)(f:names.length<=100)(k:B.Pairwise (·<·))(d:B.length<=1000000)(i:∀x∈a.al,x∈B)(c:h.get 68=some (nmsB names)):HSpec Tryz.prog 154 [.agg [.str b,ZN a.al,.int .i64 (a.n:Int),ZN a.ms,egsN a.es],.int .i64 5,ZN B,.map 68 0] h (.int .i64 0) (h.set 68 (nmsB (names++[b]))):=by
 have hm:∀(l:List (List UInt8)),∀e∈mapS yes l,noRef e.1=true/\noRef e.2=true:=fun l e he=>by unfold mapS at he;obtain⟨x,_,rfl⟩:=Zaq.1 he;exact⟨rfl,rfl⟩
 exact HSpec.frameM (item83 b a B names hw m g f k d i) (OnlyD.cons (OnlyD.same (by rw[noRef];exact SU.Qen)) (OnlyD.cons (OnlyD.same rfl) (OnlyD.cons (OnlyD.same (Qab _)) (OnlyD.cons (OnlyD.map rfl) OnlyD.nil)))) (OnlyD.same rfl) (hm _) (hm _) c rfl
def uUp(l:List (Nat×Aut)):List Nat:=l.foldl (fun out x=>mrg (fun a b=>a||b) out x.2.al) []
theorem Qhl:∀{l:List (Nat×Aut)}{out:List Nat},out.Pairwise (·<·)->(∀x∈l,x.2.al.Pairwise (·<·))->(l.foldl (fun out x=>mrg (fun a b=>a||b) out x.2.al) out).Pairwise (·<·)/\∀e,e∈l.foldl (fun out x=>mrg (fun a b=>a||b) out x.2.al) out↔e∈out\/∃y∈l,e∈y.2.al
 |[],out,h,_=>⟨h,fun e=>by simp⟩|x::l,out,h,f=>by
  have d:=f x (by simp);obtain⟨h1,g⟩:=Qhl (l:=l) (QcV (k:=fun a b=>a||b) h d) fun y i=>f y (by simp[i]);refine⟨h1,fun e=>?_⟩;rw[ZaS,g e,Qb8 h d];simp only[Zav,exists_eq_or_imp,Zbo,decide_eq_true_eq];constructor
  ·rintro(⟨c,_⟩|c)
   ·rcases c with c|c;·exact .inl c
    exact .inr (.inl c)
   exact .inr (.inr c)
  rintro(c|c|c);·exact .inl ⟨.inl c,.inl c⟩
  ·exact .inl ⟨.inr c,.inr c⟩
  exact .inr c
theorem Qf5(h:∀x∈l,WfI x.2):(uUp l).Pairwise (·<·):=(Qhl (by simp) fun x a=>(h x a).wf.al).1
theorem Qhm(h:∀x∈l,WfI x.2){e}:e∈uUp l↔∃y∈l,e∈y.2.al:=by have:=(Qhl (l:=l) (out:=[]) (by simp) fun x a=>(h x a).wf.al).2 e;simpa[uUp]using this
theorem Qkr(h:∀x∈l,WfI x.2):(uUp l).length<=5:=by refine Qa1 5 _ (by rw[ZaN];exact(Qf5 h).imp fun h=>by omega) fun x a=>?_;obtain⟨y,b,he⟩:=(Qhm h).1 a;exact(h y b).a5 x he
theorem QtU(h:l[i]?=some x):uUp (l.take (i+1))=mrg (fun a b=>a||b) (uUp (l.take i)) x.2.al:=by unfold uUp;rw[take_succ' h,Zba];rfl
def nmsI(ch:UInt8)(l:List (Nat×Aut)):List (List UInt8):=l.map fun x=>[ch,UInt8.ofNat (48+x.1)]
theorem QnK{ch}(h:l[i]?=some x):nmsI ch (l.take (i+1))=nmsI ch (l.take i)++[[ch,UInt8.ofNat (48+x.1)]]:=by unfold nmsI;rw[take_succ' h,ZaJ];rfl
theorem Qu8{a b}(c:a<10)(d:b<10)(h:UInt8.ofNat (48+a)=UInt8.ofNat (48+b)):a=b:=by have:=congrArg UInt8.toNat h;simp at this;omega
theorem QjG(h:l.map (·.1)=List.range l.length)(a:l[i]?=some x):x.1=i/\i<l.length:=by
 have hi:i<l.length:=by
  rcases ZbE i l.length with h|h;·exact h
  rw[ZaG h]at a;cases a
 have h1:(l.map (·.1))[i]?=some x.1:=by rw[ZaA,a];rfl
 rw[h,Zbu hi]at h1;cases h1;exact⟨rfl,hi⟩
theorem QpK{ch:UInt8}(h:l.map (·.1)=List.range l.length)(k:l.length<=9)(b:l[i]?=some x):[ch,UInt8.ofNat (48+x.1)]∉nmsI ch (l.take i):=by intro hm;obtain⟨y,d,he⟩:=Zaq.1 hm;obtain⟨j,c,a⟩:=ZaO d;rw[Zap]at c;rw[List.getElem_take]at a;obtain⟨n,m⟩:=QjG h b;obtain⟨f,g⟩:=QjG h (i:=j) (x:=y) (by rw[<-a];exact Zak (by omega));have:=Qu8 (a:=y.1) (b:=x.1) (by omega) (by omega) (by simpa using he);omega
theorem Qsl{a b}(c:a≠b):[a,s]∉nmsI b l:=by intro hm;obtain⟨y,d,he⟩:=Zaq.1 hm;simp at he;exact c he.1.symm
theorem QjE(h:i<3):Ps 165 [.str [99,UInt8.ofNat (48+i)]] (.bool true):=by
 have:i=0\/i=1\/i=2:=by omega
 rcases this with rfl|rfl|rfl;·exact SP.QuT
 ·exact SP.QuU
 exact SP.QuV
theorem Qsm(h:i<2):Ps 165 [.str [114,UInt8.ofNat (48+i)]] (.bool true):=by
 have:i=0\/i=1:=by omega
 rcases this with rfl|rfl;·exact SP.QuW
 exact SP.QuX
theorem Qhn{h}:RnM m π h (mapS yes []) []:=trivial
theorem Qbh(c:Cel):noRefs [evsV c.ev,its 99 c.cs,its 114 c.rs,exs c.xs,cos c.ks]=true:=by have:=SU.QaY c;rwa[celV,noRef]at this
theorem check21(c)(h:WfCel c):Ps 98 [celV c] (.int .i64 0):=by
 have a:=Qbh c;refine Zcv 64 (Ok s98) rfl (by rw[noRefs,SU.QaY];rfl) rfl ?_;have A:=check82 c.ev h.ev;have C:=h.c0;have F:=h.c3;have E:=h.r2;have g1:¬(c.cs.length:Int)=0:=by omega
 have g2:¬(8:Int)<(c.cs.length:Int):=by omega
 have g3:¬(12:Int)<(c.cs.length:Int)+(c.rs.length:Int):=by omega
 have w:=conds85 c h;have t:=conds32 c h;unfold s98;refine Zc6 ?_;refine cp A ?_;refine Zc7 (Zc9 g1 g2 g3) ?_;refine Qas 140 (fun i:Nat=>[(1,.ptr 50 0 0),(5,.map 68 0),(6,.sl 76 0 0 i 1),(7,.nilsl),(41,.int .i64 5),(42,.int .i64 i)]) (fun i=>[(50,.cells 0 [evsV c.ev,its 99 c.cs,its 114 c.rs,exs c.xs,cos c.ks]),(68,nmsB []),(76,.cells 0 (ZI (nz (List.range i))))]) (fun i=>i<=5) (fun i=>5-i) 0 1 180 (fun _:Unit=>[(1,.ptr 50 0 0),(5,.map 68 0),(6,ZN (List.range 5)),(7,ZN [])]) (fun _=>[(50,.cells 0 [evsV c.ev,its 99 c.cs,its 114 c.rs,exs c.xs,cos c.ks]),(68,nmsB [])]) (fun _=>True) ?_ (Zaj _) ?_ ?_;·refine⟨[(50,.blk 64 0),(68,.blk 90 0),(76,.nil)],rfl,au0,?_,au20⟩;exact ZcE rfl rfl gg (Zct a) (ZcG rfl rfl gg Qhn (ZcF rfl rfl ZcD))
 ·rintro i hi;by_cases b:i<5
  ·have q:(i:Int)<5:=by omega
   have s:(ZI (nz (List.range i))).length=i:=by simp[ZI]
   refine Zc7 (Zc9 q @ZbH s) ?_;refine⟨i+1,by omega,by omega,?_⟩;rw[ZaK,QaM,QaB];refine⟨[(50,.blk 50 0),(68,.blk 68 0),(76,.blk 76 1)],rfl,au0,?_,au20⟩;exact ZcE rfl rfl gg (Zct a) (ZcG rfl rfl gg Qhn (ZcE rfl rfl gg (Zct (SU.Qav (Qaa _) rfl)) ZcD))
  have e:i=5:=by omega
  subst e;refine Zc6 ?_;refine⟨(),[(50,.blk 50 0),(68,.blk 68 0)],rfl,ZcA,?_,?_⟩;·exact ZcE rfl rfl gg (Zct a) (ZcG rfl rfl gg Qhn ZcD)
  exact ZcC (Rn.x2 rfl rfl) (ZcC (Rn.x3 rfl rfl) (ZcC (Rn.fz (b:=76) (g:=0) gg rfl rfl rfl (Zct rfl)) (ZcC Rn.nilK ZcB)))
 rintro _ _;refine Zc6 ?_;refine Qas 240 (fun i:Nat=>[(1,.ptr 50 0 0),(5,.map 68 0),(6,ZN (List.range 5)),(7,ZN (uUp (c.cs.take i))),(51,its 99 c.cs),(52,.int .i64 c.cs.length),(53,.int .i64 i)]) (fun i=>[(50,.cells 0 [evsV c.ev,its 99 c.cs,its 114 c.rs,exs c.xs,cos c.ks]),(68,nmsB (nmsI 99 (c.cs.take i)))]) (fun i=>i<=c.cs.length) (fun i=>c.cs.length-i) 0 3 280 (fun _:Unit=>[(1,.ptr 50 0 0),(5,.map 68 0),(7,ZN (uUp c.cs))]) (fun _=>[(50,.cells 0 [evsV c.ev,its 99 c.cs,its 114 c.rs,exs c.xs,cos c.ks]),(68,nmsB (nmsI 99 c.cs))]) (fun _=>True) ?_ (Zaj _) ?_ ?_;·refine⟨[(50,.blk 50 0),(68,.blk 68 0)],rfl,au0,?_,au20⟩;exact ZcE rfl rfl gg (Zct a) (ZcG rfl rfl gg Qhn ZcD)
 ·rintro i hi;by_cases b:i<c.cs.length
  ·obtain⟨x,f⟩:=Qak b;have m:=Zaa f;have l:=SU.QdV (ch:=99) f;have o:5<=((c.cs.flatMap (itC 99)).drop (i*5)).length:=by rw[l];simp
   have g:=h.ca x m;have v:=QjG h.cn f;have n:(nmsI 99 (c.cs.take i)).length<=100:=by simp[nmsI];omega
   have u:=QjE (i:=x.1) (by omega);have k:=QpK (ch:=99) h.cn (by omega) f;have d:(uUp (c.cs.take i)).length<=1000000:=by have:=Qkr (l:=c.cs.take i) fun y B=>h.ca y (ZaX B);omega
   have z:=union84 (uUp (c.cs.take i)) x.2.al d (by have:=Qg5 g.wf;omega);rw[<-QtU f]at z;have p:=QnK (ch:=99) f;refine Zc7 (Zc9 b l o) ?_;refine SU.chc (item83F _ _ _ _ g u k n ZbF (by decide) (fun e he=>Zau.2 (g.a5 e he)) gg) ?_;refine Zc6 ?_;refine cp z ?_;refine Zc6 ?_;refine⟨i+1,by omega,by omega,?_⟩;rw[p];exact b3XkW
  have e:i=c.cs.length:=by omega
  subst e;refine Zc7 (Zc8 b @Zan) ?_;refine⟨(),?_⟩;exact b3XkW
 rintro _ _;refine Zc6 ?_;refine Qas 340 (fun i:Nat=>[(1,.ptr 50 0 0),(5,.map 68 0),(7,ZN (uUp c.cs)),(74,its 114 c.rs),(75,.int .i64 c.rs.length),(76,.int .i64 i)]) (fun i=>[(50,.cells 0 [evsV c.ev,its 99 c.cs,its 114 c.rs,exs c.xs,cos c.ks]),(68,nmsB (nmsI 99 c.cs++nmsI 114 (c.rs.take i)))]) (fun i=>i<=c.rs.length) (fun i=>c.rs.length-i) 0 5 380 (fun _:Unit=>[(1,.ptr 50 0 0)]) (fun _=>[(50,.cells 0 [evsV c.ev,its 99 c.cs,its 114 c.rs,exs c.xs,cos c.ks])]) (fun _=>True) ?_ (Zaj _) ?_ ?_;·rw[show nmsI 99 c.cs++nmsI 114 (c.rs.take 0)=nmsI 99 c.cs by simp[nmsI]];refine⟨[(50,.blk 50 0),(68,.blk 68 0)],rfl,au0,?_,au20⟩;exact ZcE rfl rfl gg (Zct a) (ZcG rfl rfl gg (RnM.mapS fun _ _=>Zcs rfl) ZcD)
 ·rintro i hi;by_cases b:i<c.rs.length
  ·obtain⟨x,f⟩:=Qak b;have m:=Zaa f;have l:=SU.QdV (ch:=114) f;have o:5<=((c.rs.flatMap (itC 114)).drop (i*5)).length:=by rw[l];simp
   have g:=h.ra x m;have v:=QjG h.rn f;have n:(nmsI 99 c.cs++nmsI 114 (c.rs.take i)).length<=100:=by simp[nmsI];omega
   have u:=Qsm (i:=x.1) (by omega);have k:[114,UInt8.ofNat (48+x.1)]∉nmsI 99 c.cs++nmsI 114 (c.rs.take i):=by
    intro hm;rcases ZaE.1 hm with hm|hm;·exact Qsl (by decide) hm
    exact QpK (ch:=114) h.rn (by omega) f hm
   have d:(uUp c.cs).length<=1000000:=by have:=Qkr (l:=c.cs) h.ca;omega
   have p:=QnK (ch:=114) f;refine Zc7 (Zc9 b l o) ?_;refine SU.chc (item83F _ _ _ _ g u k n (Qf5 h.ca) d (fun e he=>(Qhm h.ca).2 (h.rsub x m e he)) gg) ?_;refine Zc6 ?_;refine⟨i+1,by omega,by omega,?_⟩;rw[p,<-ZaQ];exact b3XkW
  exact bKVSY
 rintro _ _;refine Zc6 ?_;refine cp w ?_;refine Zc6 ?_;refine cp t ?_;refine Zc6 ?_;exact⟨.inr trivial,_,rfl,rfl⟩
theorem u8_wf(h:(Lit.int .u8 n).wf=true):0<=n/\n<256:=by grind[Lit.wf,IntKind.min,IntKind.max,IntKind.signed,IntKind.bits]
theorem i8_wf(h:(Lit.int .i8 n).wf=true):-128<=n/\n<128:=by grind[Lit.wf,IntKind.min,IntKind.max,IntKind.signed,IntKind.bits]
def u8O:Ty->Bool|.int k=>k==.u8|.arr _ t=>u8O t|.st t=>u8O t|.unit=>true|.pair a b=>u8O a&&u8O b|_=>false
theorem Qf6{a b}:u8s (a++b)=u8s a++u8s b:=by simp[u8s]
theorem Qcf:∀(t:Ty),u8O t=true->∀(d:t.D),t.wf d->∃l:List Nat,l.length=t.sz/\(∀x∈l,x<256)/\t.cells d=u8s l
 |.int k,h,d,hw=>by
  have:k=.u8:=by grind[u8O]
  subst this;have:=u8_wf hw;refine⟨[Int.toNat d],rfl,by simp;omega,?_⟩;show[AV.int .u8 d]=[AV.int .u8 ((Int.toNat d:Nat):Int)];grind|.bool,h,_,_=>by cases h|.str,h,_,_=>by cases h|.sl _,h,_,_=>by cases h|.st t,h,d,hw=>Qcf t h d hw|.unit,_,_,_=>⟨[],rfl,by simp,rfl⟩|.pair a b,h,d,hw=>by simp only[u8O,Zac]at h;obtain⟨l,h1,g,i⟩:=Qcf a h.1 d.1 hw.1;obtain⟨m,g1,g2,g3⟩:=Qcf b h.2 d.2 hw.2;refine⟨l++m,by rw[Zag,h1,g1];rfl,fun x c=>(ZaE.1 c).elim (g x) (g2 x),?_⟩;show a.cells d.1++b.cells d.2=_;rw[i,g3,Qf6]|.arr n t,h,d,hw=>by
  obtain⟨f,c⟩:=hw;have key:∀l:List t.D,(∀x∈l,t.wf x)->∃r:List Nat,r.length=l.length*t.sz/\(∀x∈r,x<256)/\l.flatMap t.cells=u8s r:=by intro l;induction l with|nil=>intro _;exact⟨[],by simp,by simp,rfl⟩|cons a l o=>intro f;obtain⟨r,g1,g2,g3⟩:=o fun y p=>f y (by simp[p]);obtain⟨m,h1,g,i⟩:=Qcf t h a (f a (by simp));refine⟨m++r,by grind,fun x c=>(ZaE.1 c).elim (g x) (g2 x),?_⟩;rw[Zaz,g3,i,Qf6]
  obtain⟨r,g1,g2,g3⟩:=key d c;refine⟨r,by rw[g1];show List.length d*t.sz=n*t.sz;rw[f],g2,g3⟩
abbrev tyTo:Ty:=.arr 5 (.arr 5 (.int .u8))
abbrev tyGr:Ty:=.st (.pair (.int .u8) (.pair (.int .u8) (.pair tyTo .unit)))
abbrev tyPln:Ty:=.st (.pair (.arr 5 (.int .u8)) (.pair (.int .u8) (.pair (.arr 3 (.int .u8)) (.pair (.arr 3 tyGr) (.pair (.int .u8) (.pair (.arr 2 (.int .u8)) (.pair (.arr 2 tyGr) (.pair (.sl (.arr 4 (.int .u8))) (.pair (.arr 3 (.int .i8)) (.pair (.int .i8) .unit))))))))))
variable{d:tyPln.D}
theorem QwN(h:tyPln.wf d):∃p:Pln,POk p/\p.xn<=9223372036854775807/\tyPln.val d=plnV p:=by
 obtain⟨a,b,c,g,e,f,k,x,y,z,u⟩:=d;obtain⟨h1,E,A,w,t,C,v,q,B,o,_⟩:=h;dsimp only at h1 E A w t C v q B o;obtain⟨Y,a1,b1,c1⟩:=Qcf (.arr 5 (.int .u8)) rfl _ h1;obtain⟨F,a2,b2,c2⟩:=Qcf (.int .u8) rfl _ E;obtain⟨S,a3,b3,U⟩:=Qcf (.arr 3 (.int .u8)) rfl _ A;obtain⟨I,a4,b4,O⟩:=Qcf (.arr 3 tyGr) rfl _ w;obtain⟨Q,a5,b5,L⟩:=Qcf (.int .u8) rfl _ t;obtain⟨G,J,b6,H⟩:=Qcf (.arr 2 (.int .u8)) rfl _ C;obtain⟨Z,a7,b7,P⟩:=Qcf (.arr 2 tyGr) rfl _ v;obtain⟨s,q⟩:=q;obtain⟨M,X,b8,N⟩:=Qcf (.arr (List.length x) (.arr 4 (.int .u8))) rfl x ⟨rfl,q⟩;obtain⟨R,n⟩:=B;obtain⟨i,l,m,rfl⟩:∃i l m,y=[i,l,m]:=by match y,R with|[i,l,m],_=>exact⟨i,l,m,rfl⟩
 have K:=i8_wf (n i (by simp));have T:=i8_wf (n l (by simp));have w2:=i8_wf (n m (by simp));have V:=i8_wf o;refine⟨⟨Y++F++S++I++Q++G++Z,M,List.length x,i,l,m,z⟩,⟨?_,?_,X,b8,K,T,w2,V⟩,s,?_⟩;·simp only[Zag,a1,a2,a3,a4,a5,J,a7];rfl
 ·grind
 show AV.agg (tyPln.cells _)=_;congr 1;show(Ty.arr 5 (.int .u8)).cells a++((Ty.int .u8).cells b++((Ty.arr 3 (.int .u8)).cells c++((Ty.arr 3 tyGr).cells g++((Ty.int .u8).cells e++((Ty.arr 2 (.int .u8)).cells f++((Ty.arr 2 tyGr).cells k++([.fsl ((Ty.arr (List.length x) (.arr 4 (.int .u8))).cells x) (List.length x) 4]++((Ty.arr 3 (.int .i8)).cells [i,l,m]++((Ty.int .i8).cells z++[])))))))))=_;rw[c1,c2,U,O,L,H,P,N];simp only[plnC,Qf6,ZaQ];rfl
def itN(x:List UInt8×Aut):List AV:=[.str x.1,ZN x.2.al,.int .i64 (x.2.n:Int),ZN x.2.ms,egsN x.2.es]
abbrev itsN(l:List (List UInt8×Aut)):AV:=.fsl (l.flatMap itN) l.length 5
def nmL'(ch:UInt8)(l:List (Nat×Aut)):List (List UInt8×Aut):=l.map fun x=>([ch,UInt8.ofNat (48+x.1)],x.2)
theorem QjH{ch}:its ch l=itsN (nmL' ch l):=by
 unfold nmL';have:(l.map fun x=>([ch,UInt8.ofNat (48+x.1)],x.2)).flatMap itN=l.flatMap (itC ch):=by rw[List.flatMap_map];rfl
 rw[itsN,this,Zax]
theorem Qbf(l:List (List UInt8×Aut)):noRefs (l.flatMap itN)=true:=Qa6 (fun x=>by simp only[itN,noRefs,noRef,Qaa,Qag];rfl) l
theorem Qdt(l):noRef (itsN l)=true:=by simp only[noRef];exact Qbf l
theorem Qg6(l:List (List UInt8×Aut)):(l.flatMap itN).length=l.length*5:=Qbg (k:=5) (fun _=>rfl) l
theorem QpL{l:List (List UInt8×Aut)}{x}(h:l[i]?=some x):(l.flatMap itN).drop (i*5)=.str x.1::ZN x.2.al::.int .i64 (x.2.n:Int)::ZN x.2.ms::egsN x.2.es::(l.drop (i+1)).flatMap itN:=Qbi (f:=itN) (k:=5) (fun _=>rfl) h
def evl(e:Nat->Evt):List (List UInt8×Evt):=(List.range 5).map fun i=>([UInt8.ofNat (97+i)],e i)
def evN(x:List UInt8×Evt):List AV:=[.str x.1,.bool x.2.c,.bool x.2.o,.bool x.2.f,.int .i64 (x.2.flt:Int)]
abbrev evNV(x:List UInt8×Evt):AV:=.agg [.str x.1,.bool x.2.c,.bool x.2.o,.bool x.2.f,.int .i64 (x.2.flt:Int)]
abbrev evsN(l:List (List UInt8×Evt)):AV:=.fsl (l.flatMap evN) l.length 5
theorem Qho(e):evsV e=evsN (evl e):=rfl
theorem Qdu(l:List (List UInt8×Evt)):noRefs (l.flatMap evN)=true:=Qa6 (fun x=>rfl) l
theorem Qu9(l:List (List UInt8×Evt)):(l.flatMap evN).length=l.length*5:=Qbg (k:=5) (fun _=>rfl) l
theorem QiJ{l:List (List UInt8×Evt)}{x}(h:l[i]?=some x):(l.flatMap evN).drop (i*5)=.str x.1::.bool x.2.c::.bool x.2.o::.bool x.2.f::.int .i64 (x.2.flt:Int)::(l.drop (i+1)).flatMap evN:=Qbi (f:=evN) (k:=5) (fun _=>rfl) h
def vrI(ch:UInt8)(x:Nat×Aut):List UInt8×Int:=([ch,UInt8.ofNat (48+x.1)],(x.2.n:Int)-1)
def ZV(c:Cel):List (List UInt8×Int):=c.cs.map (vrI 99)++c.rs.map (vrI 114)
theorem QiK:(ZV c).length=c.cs.length+c.rs.length:=by simp[ZV]
theorem Qdv(h:WfCel c):(ZV c).length<=5:=by have:=h.c3;have:=h.r2;rw[QiK];omega
theorem QbW(h:WfCel c):∀x∈ZV c,0<=x.2/\x.2<=2:=by
 intro x b;rcases ZaE.1 b with b|b;·obtain⟨y,a,rfl⟩:=Zaq.1 b;have h1:=(h.ca y a).pos;have d:=(h.ca y a).n3;show 0<=((y.2.n:Nat):Int)-1/\((y.2.n:Nat):Int)-1<=2;omega
 obtain⟨y,a,rfl⟩:=Zaq.1 b;have h1:=(h.ra y a).pos;have d:=(h.ra y a).n3;show 0<=((y.2.n:Nat):Int)-1/\((y.2.n:Nat):Int)-1<=2;omega
def szV(n:Int)(l:List (List UInt8×Int)):Int:=l.foldl (fun n x=>n*(x.2+1)) n
theorem Qsn:∀{l:List (List UInt8×Int)}{n m:Int},(∀x∈l,0<=x.2/\x.2<=2)->1<=n->n<=m->1<=szV n l/\szV n l<=m*3^l.length
 |[],n,m,_,h1,d=>by simp[szV];omega|x::l,n,m,h,h1,d=>by
  have f:=h x (by simp);have b:1<=n*(x.2+1)/\n*(x.2+1)<=m*3:=by
   have:x.2=0\/x.2=1\/x.2=2:=by omega
   rcases this with e|e|e<;>rw[e]<;>omega
  have a:=Qsn (l:=l) (fun y c=>h y (by simp[c])) b.1 b.2;refine⟨a.1,?_⟩;rw[ZaD,Int.pow_succ,Int.mul_comm (3^l.length) 3,<-Int.mul_assoc];exact a.2
theorem QdW{l:List (List UInt8×Int)}{x}(h:l[i]?=some x):szV 1 (l.take (i+1))=szV 1 (l.take i)*(x.2+1):=by unfold szV;rw[take_succ' h,Zba];rfl
theorem QbO{l:List (List UInt8×Int)}(h:∀x∈l,0<=x.2/\x.2<=2)(c:l.length<=5)(i):1<=szV 1 (l.take i)/\szV 1 (l.take i)<=243:=by
 have a:=Qsn (l:=l.take i) (n:=1) (m:=1) (fun x b=>h x (ZaX b)) (by decide) (by decide);refine⟨a.1,Int.le_trans a.2 ?_⟩;have hk:(l.take i).length<=5:=by rw[Zap];omega
 generalize(l.take i).length=k at hk;have:k=0\/k=1\/k=2\/k=3\/k=4\/k=5:=by omega
 rcases this with rfl|rfl|rfl|rfl|rfl|rfl<;>decide
theorem QpM(h:WfCel c):1<=szV 1 (ZV c)/\szV 1 (ZV c)<=243:=by have:=QbO (QbW h) (Qdv h) (ZV c).length;rwa[Zan]at this
abbrev liV(L:List (List Int)):AV:=.fsl (L.map sli) L.length 1
theorem QaG(L:List (List Int)):noRefs (L.map sli)=true:=by induction L with|nil=>rfl|cons x L a=>rw[ZaL,noRefs,Qah,a];rfl
theorem Qcj(L):noRef (liV L)=true:=by rw[noRef];exact QaG L
theorem QdX(h:L[i]?=some t):((L.map sli).drop i).head?=some (sli t):=by rw[ZbC,ZaA,h];rfl
def domE(h:Int)(t:List Int):List (List Int):=(List.range (h+1).toNat).map fun n=>t++[((n:Nat):Int)]
def domS(L:List (List Int))(h:Int):List (List Int):=L.flatMap (domE h)
def dom(v:List (List UInt8×Int)):List (List Int):=v.foldl (fun L x=>domS L x.2) [[]]
theorem QeY{x}(h:v[i]?=some x):dom (v.take (i+1))=domS (dom (v.take i)) x.2:=by unfold dom;rw[take_succ' h,Zba];rfl
def domP(L:List (List Int))(h:Int)(k n:Nat):List (List Int):=(L.take k).flatMap (domE h)++(List.range n).map fun j=>L.getD k []++[((j:Nat):Int)]
theorem Qso:domP L h k 0=domS (L.take k) h:=by simp[domP,domS]
theorem Qsp{n}(hk:L[k]?=some t):domP L h k (n+1)=domP L h k n++[t++[((n:Nat):Int)]]:=by unfold domP;rw[ZaK,ZaJ,<-ZaQ,Qaw hk];rfl
theorem QtV(hk:L[k]?=some t):domP L h k (h+1).toNat=domS (L.take (k+1)) h:=by unfold domP domS;rw[take_succ' hk,Zao,Qaw hk];simp[domE]
theorem QiL{L}{h}(b:0<=h):((domS L h).length:Int)=L.length*(h+1):=by unfold domS;induction L with|nil=>simp|cons t L a=>
 rw[Zaz,Zag,ZaF,a];have:((domE h t).length:Int)=h+1:=by simp[domE];omega
 rw[this,ZaD,ZaF,Int.add_mul];simp[Int.add_comm]
theorem QfB(h:∀x∈v,0<=x.2/\x.2<=2)(i):i<=v.length->((dom (v.take i)).length:Int)=szV 1 (v.take i):=by induction i with|zero=>intro _;rfl|succ i b=>intro hi;obtain⟨x,a⟩:=Qak (l:=v) (i:=i) (by omega);have:=h x (Zaa a);rw[QeY a,QdW a,QiL this.1,b (by omega)]
theorem Qdw:∀(i:Nat),i<=v.length->∀t∈dom (v.take i),t.length=i|0,_,t,a=>by have:t∈([[]]:List (List Int)):=a;simp at this;subst this;rfl|i+1,hi,t,a=>by obtain⟨x,b⟩:=Qak (l:=v) (i:=i) (by omega);rw[QeY b]at a;obtain⟨u,hu,hm⟩:=Zby.1 a;obtain⟨n,_,rfl⟩:=Zaq.1 hm;rw[Zag,Qdw i (by omega) u hu];rfl
theorem QtW{n}(a:0<=h/\h<=2)(d:n<=(h+1).toNat):(domP L h k n).length<=L.length*3+3:=by
 have h1:=@QiL (L.take k) h a.1;have b:(domP L h k n).length=(domS (L.take k) h).length+n:=by simp[domP,domS]
 have c:(L.take k).length<=L.length:=by rw[Zap];omega
 have f:((L.take k).length:Int)*(h+1)<=L.length*3:=by
  have:h=0\/h=1\/h=2:=by omega
  rcases this with rfl|rfl|rfl<;>omega
 omega
abbrev boV(l:List Bool):AV:=.fsl (l.map AV.bool) l.length 1
theorem QaT(l:List Bool):noRefs (l.map AV.bool)=true:=by induction l with|nil=>rfl|cons x l a=>rw[ZaL,noRefs,a];rfl
theorem Qev{l:List Bool}{b}(h:l[i]?=some b):((l.map AV.bool).drop i).head?=some (.bool b):=by rw[ZbC,ZaA,h];rfl
def perQ(b:Bxn)(A:List (List Int))(t c:List Bool)(i:Nat):Bool:=c.getD i false&&(!t.getD i false&&inB b (A.getD i []))
def perB(b:Bxn)(A:List (List Int))(t c:List Bool):Bool:=!(List.range A.length).any (perQ b A t c)
def cvQ(bs:List Bxn)(lf:List Bool)(k:Int)(t:List Int)(i:Nat):Bool:=!decide ((i:Int)=k)&&(lf.getD i false&&inB (bs.getD i bx0) t)
def cvB(bs:List Bxn)(lf:List Bool)(k:Int)(t:List Int):Bool:=(List.range bs.length).any (cvQ bs lf k t)
def dnB(b:Bxn)(i:Nat):Bxn:=⟨b.lo.set i (b.lo.getD i 0-1),b.hi⟩
def upB(b:Bxn)(i:Nat):Bxn:=⟨b.lo,b.hi.set i (b.hi.getD i 0+1)⟩
def dnF(ok:Bxn->Bool)(i:Nat):Nat->Bxn->Bxn|0,b=>b|f+1,b=>if ok (dnB b i)=true then dnF ok i f (dnB b i)else b
def upF(ok:Bxn->Bool)(i:Nat):Nat->Bxn->Bxn|0,b=>b|f+1,b=>if ok (upB b i)=true then upF ok i f (upB b i)else b
def dnA(ok:Bxn->Bool)(i:Nat)(b:Bxn):Bxn:=dnF ok i (b.lo.getD i 0).toNat b
def upA(ok:Bxn->Bool)(i:Nat)(h:Int)(b:Bxn):Bxn:=upF ok i (h-b.hi.getD i 0).toNat b
def grI(ok:Bxn->Bool)(v:List (List UInt8×Int))(b:Bxn)(i:Nat):Bxn:=upA ok i (v.getD i vr0).2 (dnA ok i b)
def grB(ok:Bxn->Bool)(v:List (List UInt8×Int))(a:List Int)(i:Nat):Bxn:=(List.range i).foldl (grI ok v) ⟨a,a⟩
theorem QiM{ok}{v}{a}{i}:grB ok v a (i+1)=grI ok v (grB ok v a i) i:=by unfold grB;rw[ZaK,Zba];rfl
theorem QjI(h:i<b.lo.length):(dnB b i).lo.getD i 0=b.lo.getD i 0-1:=by unfold dnB;rw[Zah,Zbz h];rfl
theorem QjJ(h:i<b.hi.length):(upB b i).hi.getD i 0=b.hi.getD i 0+1:=by unfold upB;rw[Zah,Zbz h];rfl
theorem dnA_0{ok}(h:¬0<b.lo.getD i 0):dnA ok i b=b:=by unfold dnA;rw[show(b.lo.getD i 0).toNat=0 by omega];rfl
theorem upA_0{ok}(a:¬b.hi.getD i 0<h):upA ok i h b=b:=by unfold upA;rw[show(h-b.hi.getD i 0).toNat=0 by omega];rfl
theorem QwO{ok}(h:ok (dnB b i)=false):dnA ok i b=b:=by unfold dnA;generalize(b.lo.getD i 0).toNat=f;cases f with|zero=>rfl|succ f=>rw[dnF,if_neg (by rw[h];decide)]
theorem QwP{ok}(a:ok (upB b i)=false):upA ok i h b=b:=by unfold upA;generalize(h-b.hi.getD i 0).toNat=f;cases f with|zero=>rfl|succ f=>rw[upF,if_neg (by rw[a];decide)]
theorem Qva{ok}(hi:i<b.lo.length)(a:0<b.lo.getD i 0)(h:ok (dnB b i)=true):dnA ok i b=dnA ok i (dnB b i):=by unfold dnA;rw[QjI hi,show(b.lo.getD i 0).toNat=(b.lo.getD i 0-1).toNat+1 by omega,dnF,if_pos h]
theorem Qvb{ok}(hi:i<b.hi.length)(c:b.hi.getD i 0<h)(a:ok (upB b i)=true):upA ok i h b=upA ok i h (upB b i):=by unfold upA;rw[QjJ hi,show(h-b.hi.getD i 0).toNat=(h-(b.hi.getD i 0+1)).toNat+1 by omega,upF,if_pos a]
def BxR(v:List (List UInt8×Int))(b:Bxn):Prop:=b.lo.length=v.length/\b.hi.length=v.length/\∀(j:Nat)x,v[j]?=some x->(0<=b.lo.getD j 0/\b.lo.getD j 0<=2)/\(0<=b.hi.getD j 0/\b.hi.getD j 0<=2)/\b.lo.getD j 0<=b.hi.getD j 0/\b.hi.getD j 0<=x.2
theorem getDsetNe{l:List Int}{j}{x}(h:i≠j):(l.set i x).getD j 0=l.getD j 0:=by rw[Zah,List.getElem?_set_ne h,<-Zah]
theorem BxR.dn(h:BxR v b)(hi:i<v.length)(g:0<b.lo.getD i 0):BxR v (dnB b i):=by
 obtain⟨h1,a,f⟩:=h;refine⟨by show(List.set _ _ _).length=_;rw[ZbD];exact h1,a,fun j x d=>?_⟩;have:=f j x d;by_cases e:i=j;·subst e;rw[QjI (by omega)];show _/\(0<=b.hi.getD i 0/\b.hi.getD i 0<=2)/\_<=b.hi.getD i 0/\b.hi.getD i 0<=x.2;omega
 have c:(dnB b i).lo.getD j 0=b.lo.getD j 0:=getDsetNe e;rw[c];exact this
theorem BxR.up(h:BxR v b)(c:v[i]?=some y)(d:y.2<=2)(l:b.hi.getD i 0<y.2):BxR v (upB b i):=by
 obtain⟨h1,k,g⟩:=h;refine⟨h1,by show(List.set _ _ _).length=_;rw[ZbD];exact k,fun j x a=>?_⟩;have:=g j x a;by_cases e:i=j;·subst e;rw[c]at a;cases a;have:=(Zaf.1 c).1;rw[QjJ (by omega)];show(0<=b.lo.getD i 0/\b.lo.getD i 0<=2)/\_/\b.lo.getD i 0<=_/\_;omega
 have f:(upB b i).hi.getD j 0=b.hi.getD j 0:=getDsetNe e;rw[f];exact this
theorem BxR.ok(h:BxR v b):BxOk v b:=⟨h.1,h.2.1,fun j x a=>by have:=h.2.2 j x a;omega⟩
theorem QbN{l}{i}{x}:(ZI l).set i (.int .i64 x)=ZI (l.set i x):=by unfold ZI;rw[List.map_set]
theorem QnL{l:List Int}{x y}(h:l[i]?=some x):(l.set i y).set i x=l:=by rw[List.set_set];obtain⟨hi,rfl⟩:=Zaf.1 h;exact List.set_getElem_self hi
abbrev okP(A:List (List Int))(t c:List Bool)(b:Bxn):Bool:=perB b A t c
theorem dnF_R{ok}(hi:i<v.length):∀(f:Nat)(b:Bxn),BxR v b->f<=(b.lo.getD i 0).toNat->BxR v (dnF ok i f b)
 |0,b,a,_=>a|f+1,b,a,hf=>by
  rw[dnF];split;·exact dnF_R hi f _ (a.dn hi (by omega)) (by rw[QjI (by have:=a.1;omega)];omega)
  exact a
theorem upF_R{ok}(d:v[i]?=some y)(a:y.2<=2):∀(f:Nat)(b:Bxn),BxR v b->f<=(y.2-b.hi.getD i 0).toNat->BxR v (upF ok i f b)
 |0,b,c,_=>c|f+1,b,c,hf=>by
  rw[upF];have hi:=(Zaf.1 d).1;split;·exact upF_R d a f _ (c.up d a (by omega)) (by rw[QjJ (by have:=c.2.1;omega)];omega)
  exact c
theorem grB_R{ok}{v:List (List UInt8×Int)}{a:List Int}(hin:∀x∈v,0<=x.2/\x.2<=2)(d:a.length=v.length)(c:∀(j:Nat)x,v[j]?=some x->0<=a.getD j 0/\a.getD j 0<=x.2):∀i,i<=v.length->BxR v (grB ok v a i)|0,_=>⟨d,d,fun j x b=>by have h1:=c j x b;have f:=hin x (Zaa b);show(0<=a.getD j 0/\a.getD j 0<=2)/\(0<=a.getD j 0/\a.getD j 0<=2)/\a.getD j 0<=a.getD j 0/\a.getD j 0<=x.2;omega⟩|i+1,hi=>by obtain⟨x,b⟩:=Qak (l:=v) (i:=i) (by omega);rw[QiM];unfold grI upA dnA;rw[Qaw b];exact upF_R b (hin x (Zaa b)).2 _ _ (dnF_R (by omega) _ _ (grB_R hin d c i (by omega)) (Zar _)) (Zar _)
theorem Qf7{h}{b n}{l}(c:h.get b=some (.cells g (ZI l)))(a:l.length=n):FrzTo h (.sl b g 0 n 1) (sli l):=by
 subst a;refine FrzTo.sl c (by simp[ZI]) ?_;have:((ZI l).drop 0).take (l.length*1)=ZI l:=by rw[Za5,ZbY];exact ZaM (by simp[ZI])
 rw[this];exact Zcz _
abbrev gSt(b:Bxn)(n:Nat):List (Nat×Blk):=[(51,.cells 0 [.nilsl,.nilsl]),(52,.cells 0 [.sl 61 0 0 n 1,.sl 62 0 0 n 1]),(61,.cells 0 (ZI b.lo)),(62,.cells 0 (ZI b.hi))]
theorem Qsq{h}{b n}{l}(c:h.get b=some (.cells g (l.flatMap bxC)))(a:l.length=n):FrzTo h (.sl b g 0 n 2) (bxsV l):=by
 subst a;refine FrzTo.sl c (by rw[QbF];omega) ?_;have:((l.flatMap bxC).drop 0).take (l.length*2)=l.flatMap bxC:=by rw[Za5];exact ZaM (by rw[QbF];omega)
 rw[this];exact Zcz _
section
variable(G:List Int->Bxn)(A:List (List Int))(t c:List Bool)
def cA:Nat->List Bxn|0=>[]|i+1=>if(c.getD i false&&(t.getD i false&&!inBs (cA i) (A.getD i [])))=true then cA i++[G (A.getD i [])]else cA i
def spQ(bs:List Bxn)(lf:List Bool)(k:Nat)(i:Nat):Bool:=!c.getD i false||(!t.getD i false||(!inB (bs.getD k bx0) (A.getD i [])||cvB bs lf k (A.getD i [])))
def spU(bs:List Bxn)(lf:List Bool)(k:Nat):Nat->Bool|0=>true|i+1=>spU bs lf k i&&spQ A t c bs lf k i
def cB(bs:List Bxn):Nat->List Bool×List Bxn
 |0=>(List.replicate bs.length true,[])|k+1=>let s:=cB bs k
  if spU A t c bs s.1 k A.length=true then(s.1.set k false,s.2)else(s.1.set k true,s.2++[bs.getD k bx0])
def cov:List Bxn:=(cB A t c (cA G A t c A.length) (cA G A t c A.length).length).2
end
theorem Qsr{G}{A}{t c}:∀i,(cA G A t c i).length<=i
 |0=>Zar _|i+1=>by
  have:=@Qsr G A t c i;rw[cA];split;·rw[Zag];simp;omega
  omega
theorem QnM{t c}(h:∀a∈A,P (G a)):∀i,i<=A.length->∀b∈cA G A t c i,P b
 |0,_,b,d=>by cases d|i+1,hi,b,d=>by
  rw[cA]at d;obtain⟨a,f⟩:=Qak (l:=A) (i:=i) (by omega);split at d
  ·rcases ZaE.1 d with d|d;·exact QnM h i (by omega) b d
   rw[ZaU.1 d,Qaw f];exact h a (Zaa f)
  exact QnM h i (by omega) b d
theorem Qss{A}{t c}{bs}:∀k,(cB A t c bs k).1.length=bs.length/\(cB A t c bs k).2.length<=k
 |0=>⟨Zbv ..,Zar _⟩|k+1=>by
  obtain⟨h1,a⟩:=@Qss A t c bs k;rw[cB];split;·exact⟨by rw[ZbD];exact h1,by show(cB A t c bs k).2.length<=k+1;omega⟩
  exact⟨by rw[ZbD];exact h1,by rw[Zag];simp;omega⟩
theorem QnN{t c}:∀k,k<=bs.length->∀b∈(cB A t c bs k).2,b∈bs
 |0,_,b,a=>by cases a|k+1,hk,b,a=>by
  rw[cB]at a;obtain⟨y,d⟩:=Qak (l:=bs) (i:=k) (by omega);split at a;·exact QnN k (by omega) b a
  rcases ZaE.1 a with a|a;·exact QnN k (by omega) b a
  rw[ZaU.1 a,Qaw d];exact Zaa d
theorem Qst{l:List Bool}{b}:(l.map AV.bool).set k (.bool b)=(l.set k b).map AV.bool:=by rw[List.map_set]
def vrN(x:List UInt8×Aut):List UInt8×Int:=(x.1,(x.2.n:Int)-1)
def itsL(c:Cel):List (List UInt8×Aut):=nmL' 99 c.cs++nmL' 114 c.rs
theorem vrs_N(c):ZV c=(itsL c).map vrN:=by unfold ZV itsL nmL';rw[ZaJ,Zci,Zci];rfl
theorem QnO(c):(itsL c).length=c.cs.length+c.rs.length:=by simp[itsL,nmL']
theorem Qsu(h:WfCel c):∀x∈itsL c,0<x.2.n/\x.2.n<=3:=by
 intro x hx;rcases ZaE.1 hx with hx|hx;·obtain⟨y,hy,rfl⟩:=Zaq.1 hx;exact⟨(h.ca y hy).pos,(h.ca y hy).n3⟩
 ·obtain⟨y,hy,rfl⟩:=Zaq.1 hx;exact⟨(h.ra y hy).pos,(h.ra y hy).n3⟩
theorem Qsv{x}:List.flatMap vrC (List.map vrN [x])=[.str x.1,.int .i64 0,.int .i64 ((x.2.n:Int)-1),.int .i64 0]:=rfl
theorem _root_.Go.AM.au21{p:Prop}(h:p:=by repeat(first|exact ZcB|(refine ZcC ?_ ?_;·(first|exact Zcr|exact Rn.x1 rfl rfl|exact Rn.x2 rfl rfl|exact Rn.x3 rfl rfl|exact Rn.x4 rfl rfl|exact Rn.x5 rfl|exact Rn.x6 rfl|exact Rn.x7 rfl|(refine ZcN ?_ ?_;(first|rfl|(rw[ZaF];rfl));(first|rfl|(simp only[noRef,noRefs,SD.Qaa,SD.Qab,SD.Qaf,SD.Qag,SD.Qah,SD.Qai,SD.Qaj,SD.Qam,SD.Qan,SD.Qar,SE.QaQ,SE.Qal,SE.Qao,SE.Qap,SE.Qaq,SE.Qay,SO.QaD,SO.QaG,SO.QaP,SO.QaT,SO.Qaz,SO.Qbf,SO.Qdu,SU.Qa2,SU.Qa3,SU.QaX,SU.QbA,SU.Qbc,Zad,Zae,Zai];done)))|(refine Rn.fn ?_ ?_<;>(repeat'(first|exact ZcJ|refine ZcK ?_ ?_|exact Zcs rfl|exact Rn.x6 rfl|exact Rn.x2 rfl rfl|exact Rn.x5 rfl|exact Rn.x1 rfl rfl))))))):p:=h
theorem vars12(c)(h:WfCel c):Ps 12 [celV c] (vrsV (ZV c)):=by
 have H:=h.c3;have F:=h.r2;have t:=Qsu h;rw[vrs_N];have C:=QnO c;refine Zcu 64 (Ok UK.s12) rfl (by rw[noRefs,SU.QaY];rfl) (QaO _) ?_;have y:(nmL' 99 c.cs).length=c.cs.length:=by simp[nmL']
 have z:(nmL' 114 c.rs).length=c.rs.length:=by simp[nmL']
 rw[show celV c=.agg [evsV c.ev,itsN (nmL' 99 c.cs),itsN (nmL' 114 c.rs),exs c.xs,cos c.ks]from by rw[celV,QjH,QjH]];unfold itsL at*;generalize nmL' 99 c.cs=A at*;generalize nmL' 114 c.rs=B at*;have g:(A.flatMap itN).all AV.one=true:=Qc7 (fun _=>rfl) _;have v:(B.flatMap itN).all AV.one=true:=Qc7 (fun _=>rfl) _;have p:=Qg6 A;have l:=Qg6 B;unfold UK.s12;refine Zc6 ?_;refine QcU [(8,[]),(11,[])] rfl rfl ?_;refine Zc7 (Zda g v p l) ?_;refine⟨⟨⟨[],rfl,fun b s=>s⟩,⟨[],rfl,fun b s=>s⟩,trivial⟩,?_⟩;have q:A.flatMap itN++B.flatMap itN=(A++B).flatMap itN:=by rw[Zao]
 have f:A.length+B.length=(A++B).length:=List.length_append.symm;rw[q,f];generalize A++B=L at*;have m:=Qg6 L;have n:=Qbf L;have E:L.length<=5:=by omega
 refine Qas 100 (fun i:Nat=>[(3,.sl 60 0 0 i 4),(4,itsN L),(5,.int .i64 i)]) (fun i=>[(60,.cells 0 (((L.take i).map vrN).flatMap vrC))]) (fun i=>i<=L.length) (fun i=>L.length-i) 0 0 160 (fun _:Unit=>[(3,vrsV (L.map vrN))]) (fun _=>[]) (fun _=>True) ?_ (Zaj _) ?_ ?_;·exact⟨[(60,.nil)],rfl,ZcA,ZcF rfl rfl ZcD,ZcC (by first|exact Rn.x3 rfl rfl|exact Rn.x4 rfl rfl|exact Rn.x6 rfl|exact Rn.x7 rfl|exact Rn.x5 rfl) (ZcC (ZcL (b:=67) (g:=2) gg rfl rfl rfl m (Zct n)) au21)⟩
 ·rintro i hi;by_cases a:i<L.length
  ·obtain⟨x,u⟩:=Qak a;have d:=QpL u;have w:5<=((L.flatMap itN).drop (i*5)).length:=by rw[d];simp
   have k:((L.take i).map vrN).length=i:=by rw[Zax,Zap];omega
   have o:(((L.take i).map vrN).flatMap vrC).length=i*4:=by rw[QgP,k]
   have G:=t x (Zaa u);refine Zc7 (Zda a d w o) ?_;refine⟨i+1,by omega,by omega,?_⟩;rw[take_succ' u,ZaJ,Zao,Qsv];refine⟨[(60,.blk 60 1)],rfl,au0,?_,au21⟩;exact ZcE rfl rfl gg (Zct (SU.Qav (Qaz _) (Qaz [vrN x]))) ZcD
  have e:i=L.length:=by omega
  subst e;refine Zc7 (Zc8 a @Zan) ?_;exact btx2Y
 rintro _ _;refine Zc6 ?_;exact⟨.inr trivial,_,rfl,Zcs (QaO _)⟩
theorem _root_.Go.AM.au22{p:Prop}(h:p:=by repeat'(first|exact ZcD|(refine Zct ?_;first|rfl|(simp only[noRef,noRefs,SD.Qaa,SD.Qab,SD.Qaf,SD.Qag,SD.Qah,SD.Qai,SD.Qaj,SD.Qam,SD.Qan,SD.Qar,SE.QaQ,SE.Qal,SE.Qao,SE.Qap,SE.Qaq,SE.Qay,SO.QaD,SO.QaG,SO.QaP,SO.QaT,SO.Qaz,SO.Qbf,SO.Qdu,SU.Qa2,SU.Qa3,SU.QaX,SU.QbA,SU.Qbc,Zad,Zae,Zai];done))|exact ZcR rfl|exact ZcJ|exact(True.intro:RnM _ _ _ [] [])|refine ZcK ?_ ?_|(refine Zcs ?_;first|rfl|(simp only[noRef,noRefs,SD.Qaa,SD.Qab,SD.Qaf,SD.Qag,SD.Qah,SD.Qai,SD.Qaj,SD.Qam,SD.Qan,SD.Qar,SE.QaQ,SE.Qal,SE.Qao,SE.Qap,SE.Qaq,SE.Qay,SO.QaD,SO.QaG,SO.QaP,SO.QaT,SO.Qaz,SO.Qbf,SO.Qdu,SU.Qa2,SU.Qa3,SU.QaX,SU.QbA,SU.Qbc,Zad,Zae,Zai];done))|exact Rn.x1 rfl rfl|exact Rn.x2 rfl rfl|exact Rn.x3 rfl rfl|exact Rn.x4 rfl rfl|exact Rn.x5 rfl|exact Rn.x6 rfl|exact Rn.x7 rfl|refine ZcF rfl rfl ?_|refine ZcE rfl rfl rfl ?_ ?_|refine ZcG rfl rfl rfl ?_ ?_|refine ZcH rfl rfl ?_ ?_|refine ZcI rfl rfl ?_ ?_)):p:=h
theorem size43(c)(h:WfCel c):Ps 43 [celV c] (.int .i64 (szV 1 (ZV c))):=by
 have l:=vars12 c h;refine Zcv 64 (Ok UK.s43) rfl (by rw[noRefs,SU.QaY];rfl) rfl ?_;have hin:=QbW h;have k:=Qdv h;generalize ZV c=v at*;unfold UK.s43;refine Zc6 ?_;refine cp l ?_;refine Zc6 ?_;refine QaC 100 (fun i:Nat=>[(3,.int .i64 (szV 1 (v.take i))),(4,vrsV v),(5,.int .i64 i)]) (fun _=>[]) (fun i=>i<=v.length) (fun i=>v.length-i) 0 ⟨[],rfl,au0,au22,au21⟩ (Zaj _) ?_;rintro i hi;by_cases a:i<v.length
 ·obtain⟨x,d⟩:=Qak a;have b:=QcB d;have f:4<=((v.flatMap vrC).drop (i*4)).length:=by rw[b];simp
  have n:=QbO hin k i;have b2:=hin x (Zaa d);have m:=QbO hin k (i+1);have g:=QdW d;rw[g]at m;generalize szV 1 (v.take i)=S at*;refine Zc7 (Zc9 a b f) ?_;refine⟨i+1,by omega,by omega,?_⟩;rw[g];exact⟨[],rfl,au0,au22,au21⟩
 have e:i=v.length:=by omega
 subst e;refine Zc7 (Zc8 a @Zan) ?_;exact⟨.inr trivial,_,rfl,rfl⟩
theorem small10(c)(h:WfCel c)(C)(hlen:C.length=152)(a:C.all AV.one=true)(b:noRefs C=true)(i:Ps 42 [.agg C] (celV c)):Ps 10 [.agg C] (.tup [celV c,.bool true]):=by
 have f:=size43 c h;have k:=QpM h;have d:C.take 152=C:=by rw[<-hlen,Zan]
 refine Zcv 64 (Ok UK.s10) rfl (by rw[noRefs,noRef,b];rfl) (by rw[noRef,noRefs,SU.QaY];rfl) ?_;generalize szV 1 (ZV c)=S at*;unfold UK.s10;refine Zc7 (Zc9 hlen a d) ?_;refine cp i ?_;refine Zc6 ?_;refine cp f ?_;have g:S<=400:=by omega
 refine Zc7 g ?_;exact⟨.inr trivial,_,rfl,rfl⟩
end Go.AM.SO
namespace Go.AM.VK
open Go.Proofs
set_option maxHeartbeats 4000000
noncomputable section
def cf:YA.Cf:={most:=.pure,always:=[84].map fun k=>(k,.heap),value:=.pure}
def s46:SFn:=by
 refine(?f:YA.Yt Tryz.prog cf 46 [[0,2],[6],[1,7],[],[11,12,13],[5,14,15,16,17,18,19,20,21],[22],[3,8,9,10,23]]) ?s ?h;case h=>exact YA.rr
 exact fun s _=>s
def s50:SFn:=by
 refine(?f:YA.Yt Tryz.prog cf 50 [[6],[0,1,2,10,11,12,13,14,9,15,16,7],[8,17]]) ?s ?h;case h=>exact YA.rr
 exact fun s _=>s
def s127:SFn:=by
 refine(?f:YA.Yt Tryz.prog cf 127 [[1,7],[2,9,10,11,12,13,14],[0,3,4,6,15],[7,6,15,16,17,18],[0,3,4,8,19,20,21,22,23,24,25,26,27,28,29,30]]) ?s ?h;case h=>exact YA.rr
 exact fun s _=>s
def s128:SFn:=by
 refine(?f:YA.Yt Tryz.prog cf 128 [[0,3],[1,2,4,5,6,7]]) ?s ?h;case h=>exact YA.rr
 exact fun s _=>s
end
end Go.AM.VK
namespace Go.AM.SO
open Go.Proofs Go.AM.SD Go.AM.SE
theorem fstG'{l:List Gdn}:∀(i:Nat){x:Gdn},l[i]?=some x->∃f g,l[f]?=some g/\g.ev=x.ev/\f<=i/\∀(j:Nat)y,j<f->l[j]?=some y->y.ev≠x.ev
 |i,x,m=>by
  by_cases h:∃j y,j<i/\l[j]?=some y/\y.ev=x.ev;·obtain⟨j,y,b,a,he⟩:=h;obtain⟨f,g,h1,c,o,d⟩:=fstG' j a;exact⟨f,g,h1,by rw[c,he],by omega,fun k z hk n=>by rw[<-he];exact d k z hk n⟩
  exact⟨i,x,m,rfl,Zar _,fun j y b a he=>h ⟨j,y,b,a,he⟩⟩
def ixQ(v:List (List UInt8×Int))(a:List Int):Nat->Int|0=>0|i+1=>ixQ v a i*((v.getD i vr0).2+1)+a.getD i 0
theorem Qeg{v}{a}(hin:∀x∈v,0<=x.2/\x.2<=2)(b:∀(j:Nat)x,v[j]?=some x->0<=a.getD j 0/\a.getD j 0<=x.2):∀i,i<=v.length->0<=ixQ v a i/\ixQ v a i<szV 1 (v.take i)
 |0,_=>⟨Int.le_refl _,by show(0:Int)<1;decide⟩|i+1,hi=>by
  obtain⟨x,c⟩:=Qak (l:=v) (i:=i) (by omega);obtain⟨h1,f⟩:=Qeg hin b i (by omega);have d:=b i x c;have g:=hin x (Zaa c);rw[QdW c,ixQ,Qaw c];generalize szV 1 (v.take i)=S at*;generalize ixQ v a i=I at*;have:x.2=0\/x.2=1\/x.2=2:=by omega
  rcases this with e|e|e<;>rw[e]at d⊢<;>omega
end Go.AM.SO
namespace Go.AM.OE
open Go.Proofs
set_option maxHeartbeats 4000000
noncomputable section
def cf:YA.Cf:={most:=.pure,value:=.pure}
def s47:SFn:=by
 refine(?f:YA.Yt Tryz.prog cf 47 [[4,5],[10,11],[12],[0,1,6,13,14],[4,5,6,13,15,16],[1,7,18,19,20,17,21,22],[9,23],[0,8,24],[0,8,24,25,26,27]]) ?s ?h;case h=>exact YA.rr
 exact fun s _=>s
def s104:SFn:=by
 refine(?f:YA.Yt Tryz.prog cf 104 [[0,2],[1,3,4,5]]) ?s ?h;case h=>exact YA.rr
 exact fun s _=>s
def s109:SFn:=by
 refine(?f:YA.Yt Tryz.prog cf 109 [[4],[],[0],[],[11,12,13,14],[7,15,16],[6,17,18,19,20,21],[6,17,22],[1,5,8,9,10,23]]) ?s ?h;case h=>exact YA.rr
 exact fun s _=>s
end
end Go.AM.OE
namespace Go.AM.SO
open Go.Proofs Go.AM.SD Go.AM.SE
def uncL(e:Nat->Evt)(n:Nat):List Nat:=(List.range n).filter fun i=>!(e i).c
theorem QtX(e)(n):uncL e (n+1)=uncL e n++if(e n).c then[]else[n]:=by unfold uncL;rw[ZaK,Zbj];cases h:(e n).c<;>simp[h]
theorem Qvc(e)(n):(uncL e n).length<=n:=by have:=Za4 (fun i=>!(e i).c) (List.range n);rwa[ZbH]at this
theorem Qsw(e){i}(h:i<5):(evl e)[i]?=some ([UInt8.ofNat (97+i)],e i):=by unfold evl;rw[ZaA,Zbu h];rfl
theorem unc171(x):Ps 104 [evNV x] (.bool (!x.2.c)):=by refine Zcv 64 (Ok OE.s104) rfl rfl rfl ?_;cases h:x.2.c;all_goals unfold OE.s104;refine Zc7 h ?_;exact⟨.inr trivial,_,rfl,rfl⟩
theorem chosen176(e):Ps 109 [evsV e,.fn 104 [] []] (ZN (uncL e 5)):=by
 have k:=Qdu (evl e);rw[Qho];refine Zcu 64 (Ok OE.s109) rfl (by simp only[noRefs,noRef,k];rfl) (Qab _) ?_;unfold OE.s109;refine Zc6 ?_;refine Qas 100 (fun i:Nat=>[(1,.fn 104 [] []),(5,.sl 76 0 0 (uncL e i).length 1),(8,evsN (evl e)),(9,.int .i64 5),(10,.int .i64 i)]) (fun i=>[(76,.cells 0 (ZI (nz (uncL e i))))]) (fun i=>i<=5) (fun i=>5-i) 0 0 160 (fun _:Unit=>[(5,ZN (uncL e 5))]) (fun _=>[]) (fun _=>True) ?_ (Zaj _) ?_ ?_;·refine⟨[(76,.nil)],rfl,au0,?_,au21⟩;exact ZcF rfl rfl ZcD
 ·rintro i hi;have l:=Qvc e i;by_cases g:i<5
  ·have c:=QiJ (Qsw e g);have d:5<=(((evl e).flatMap evN).drop (i*5)).length:=by rw[c];simp
   have a:=QtX e i;have b:(i:Int)<5:=by omega
   have f:i<(evl e).length:=by simpa[evl]using g
   have hc:=unc171 ([UInt8.ofNat (97+i)],e i);cases h:(e i).c;·rw[h]at a;refine Zc7 (Zda b f c d) ?_;refine cp hc ?_;refine Zc7 h ?_;refine⟨i+1,by omega,by omega,?_⟩;rw[a,if_neg (by simp),Zag,QaM,QaB];refine⟨[(76,.blk 76 1)],rfl,au0,?_,au21⟩;exact ZcE rfl rfl gg (Zct (SU.Qav (Qaa _) rfl)) ZcD
   rw[h]at a;refine Zc7 (Zda b f c d) ?_;refine cp hc ?_;refine Zc7 h ?_;refine⟨i+1,by omega,by omega,?_⟩;rw[a,if_pos rfl,Zas];refine⟨[(76,.blk 76 0)],rfl,au0,?_,au21⟩;exact ZcE rfl rfl gg (Zct (Qaa _)) ZcD
  exact b3Dqd
 rintro _ _;refine Zc6 ?_;exact⟨.inr trivial,_,rfl,Zcs (Qab _)⟩
theorem select86(e)(he:∀i,i<5->(e i).Ok):Ps 47 [evsV e,.int .i64 2] (.tup [ZN (uncL e 5),.int .i64 0]):=by
 have a:noRef (evsV e)=true:=by rw[Qho];exact Qdu (evl e)
 refine Zcu 64 (Ok OE.s47) rfl (by simp only[noRefs,a];rfl) (by simp only[noRef,noRefs,Qaa];rfl) ?_;have b:=check82 e he;have hH:=chosen176 e;unfold OE.s47;refine Zc6 ?_;refine cp b ?_;refine Zc6 ?_;refine Qbe ?_;refine Zc6 ?_;refine Qbz (f:=fun _=>.any) (l:=[]) (x:=1) (by simp) (by decide) ?_;refine Zc6 ?_;refine Qbe ?_;refine Zc6 ?_;refine Qbz (x:=2) (by simp) (by decide) ?_;refine Zc6 ?_;refine Qbe ?_;refine Zc6 ?_;refine Qbz (x:=3) (by simp) (by decide) ?_;refine Zc6 ?_;refine Qbe ?_;refine Zc6 ?_;refine Qbz (x:=4) (by simp) (by decide) ?_;refine Zc6 ?_;refine Qbe ?_;refine Zc6 ?_;refine Qbz (x:=5) (by simp) (by decide) ?_;refine Zc6 ?_;refine Qbe ?_;refine Zc6 ?_;refine Qbz (x:=6) (by simp) (by decide) ?_;refine Zc6 ?_;refine Qci ?_;refine Zc6 ?_;refine wK_in (x:=2) (by simp) ?_;have hu:updF (updF (updF (updF (updF (updF (fun _=>.any) 1 (.fn 103 [] [])) 2 (.fn 104 [] [])) 3 (.fn 105 [] [])) 4 (.fn 106 [] [])) 5 (.fn 107 [] [])) 6 (.fn 108 [] []) 2=.fn 104 [] []:=rfl;exact bVayR
end Go.AM.SO
