/- A part of the proof of SynthesisLoopsCardSaid: lemmas on the way (AmCm, AmCu, AmCi, AmCk, AmCl, AmCn, AmCv, AmCw, AmCyc, AmCyd, AmCyb, AmCye, AmCyf, AmCyh, AmCyg, AmCyi, AmCyj, AmCr, AmCzg, AmOf, AmGm, AmGa, AmTl, AmTn, AmCp). Conditions: none of ours. -/
import Derived.Test.YtmoanlnleppcpaaGreatDoorProg
import Derived.KernelRfl
import Derived.Test.YtmoanlnleppcpaaGreatDoorAmV13
set_option linter.unusedSectionVars false
set_option maxHeartbeats 32000000
set_option maxRecDepth 100000
set_option linter.unusedVariables false
set_option linter.unusedSimpArgs false
namespace Go.AM.SO
open Go.Proofs Go.AM.SD Go.AM.SE
structure Cel where
 ev:Nat->Evt
 cs:List (Nat×Aut)rs:List (Nat×Aut)xs:List (Nat×List (Nat×Nat))ks:List (List (Nat×Int)×Int)
def itC(ch:UInt8)(x:Nat×Aut):List AV:=[.str [ch,UInt8.ofNat (48+x.1)],sliN x.2.al,.int .i64 (x.2.n:Int),sliN x.2.ms,egsN x.2.es]
def loC(x:Nat×Nat):List AV:=[.int .i64 (x.1:Int),.int .i64 (x.2:Int)]
abbrev los(l:List (Nat×Nat)):AV:=.fsl (l.flatMap loC) l.length 2
def exC(x:Nat×List (Nat×Nat)):List AV:=[.str [101,UInt8.ofNat (48+x.1)],los x.2]
def teC(x:Nat×Int):List AV:=[.int .i64 (x.1:Int),.int .i64 x.2]
abbrev tes(l:List (Nat×Int)):AV:=.fsl (l.flatMap teC) l.length 2
def coC(x:List (Nat×Int)×Int):List AV:=[.str [107],tes x.1,.int .i64 x.2]
abbrev its(ch:UInt8)(l:List (Nat×Aut)):AV:=.fsl (l.flatMap (itC ch)) l.length 5
abbrev exs(l:List (Nat×List (Nat×Nat))):AV:=.fsl (l.flatMap exC) l.length 2
abbrev cos(l:List (List (Nat×Int)×Int)):AV:=.fsl (l.flatMap coC) l.length 3
abbrev celV(c:Cel):AV:=.agg [evsV c.ev,its 99 c.cs,its 114 c.rs,exs c.xs,cos c.ks]
structure WfI(a:Aut):Prop where
 wf:WfA a
 a5:∀x∈a.al,x<5
 pos:0<a.n
 n3:a.n<=3
 can:restr a (fun _=>true)=a
 el:a.es.length<=25
structure WfJ(a:Aut):Prop where
 wf:WfA a
 pos:0<a.n
 n10:a.n<=10
theorem WfI.j{a:Aut}(h:WfI a):WfJ a:=⟨h.wf,h.pos,by have:=h.n3;omega⟩
structure WfCel(c:Cel):Prop where
 ev:∀i,i<5->(c.ev i).Ok
 c0:0<c.cs.length
 c3:c.cs.length<=3
 r2:c.rs.length<=2
 x2:c.xs.length<=2
 k1:c.ks.length<=1
 cn:c.cs.map (·.1)=List.range c.cs.length
 rn:c.rs.map (·.1)=List.range c.rs.length
 xn:(c.xs.map (·.1)).Pairwise (·<·)/\∀x∈c.xs,x.1<2
 ca:∀x∈c.cs,WfI x.2
 ra:∀x∈c.rs,WfI x.2
 rsub:∀x∈c.rs,∀e∈x.2.al,∃y∈c.cs,e∈y.2.al
 xl:∀x∈c.xs,x.2≠[]/\(x.2.map (·.1)).Pairwise (·<·)/\∀l∈x.2,∃y,c.cs[l.1]?=some y/\l.2<y.2.n
 kl:∀x∈c.ks,x.1≠[]/\(x.1.map (·.1)).Pairwise (·<·)/\(∀t∈x.1,t.1<c.cs.length/\t.2≠0/\-4<t.2/\t.2<4)/\-8<x.2/\x.2<8
theorem Qoj{l:List Nat}(h:l.Pairwise (·<·)){p q:Nat}(a:p<q)(b:q<l.length):l.getD p 0<l.getD q 0:=by grind[Za7]
theorem partLt{n b:Nat}:∀x∈SD.part n b,x<n:=fun x a=>(Qlm.1 a).1
theorem Qr3{al:List Nat}{st mk:Nat}{T:List Nat}(f:al.Pairwise (·<·))(k:∀x∈al,x<5):WfA (gRaw al st mk T):=by
 have o:=Qfc (st:=st) (mk:=mk) (T:=T) (Qbq f k);have a:=o.esn;have b:=o.n5;unfold gRaw at a b⊢;split;·exact⟨f,fun x d=>by have:=k x d;omega,by simp,by simp,by simp,by simp,by simp,by simp⟩
 rename_i l;rw[if_neg l]at a b;have s:∀i,∀e∈gRow al (1+st%5) T i al.length,e.1=i/\∃j,j<al.length/\e.2.1=al.getD j 0:=fun i e he=>by unfold gRow at he;obtain⟨j,u,hm⟩:=ZbF.1 he;unfold gEd at hm;grind
 refine⟨f,fun x d=>by have:=k x d;omega,by dsimp only at b⊢;omega,Qdn _ _,partLt,?_,a,fun e he=>?_⟩
 ·show(gPre _ _ _ _).Pairwise _;unfold gPre;refine Qcx (fun i _=>?_) (List.pairwise_lt_range.imp fun r x d y n=>.inl ?_)
  ·unfold gRow;refine List.Pairwise.filterMap _ (R:=fun j m=>j<m/\m<al.length) ?_ (List.pairwise_lt_range.imp_of_mem fun _ t h=>⟨h,Zat.1 t⟩);rintro x y⟨g,n⟩p hp q c;unfold gEd at hp c;split at hp
   ·split at c;·cases hp;cases c;exact .inr ⟨rfl,Qoj f g n⟩
    cases c
   cases hp
  grind
 grind[gPre]
theorem Qr4{al:List Nat}{st mk:Nat}{T:List Nat}(b:al.Pairwise (·<·))(a:∀x∈al,x<5):restr (mkA al st mk T) (fun _=>true)=mkA al st mk T:=by have h:=Qr3 (st:=st) (mk:=mk) (T:=T) b a;show restr (canon _) _=canon _;grind[QmC,QgW]
theorem QlS{es:List Ed}{s:Nat}:∀{L:List Nat}{out:List Nat},out.length<=(L.foldl (fEv es s) out).length|[],out=>ZaJ _|e::L,out=>by rw[ZaH];refine Zay ?_ (QlS (L:=L));grind[fEv]
theorem QpP{al:List Nat}{es:List Ed}:∀(k i:Nat)(out:List Nat),out.length<=(fQ al es k i out).length
 |0,_,_=>ZaJ _|k+1,i,out=>by
  unfold fQ;split;·exact Zay QlS (QpP k (i+1) _)
  omega
theorem Qnw{al:List Nat}{st mk:Nat}{T:List Nat}(b:al.Pairwise (·<·))(a:∀x∈al,x<5)(k:st<3):WfI (mkA al st mk T):=by
 have d:=Qfc (st:=st) (mk:=mk) (T:=T) (Qbq b a);have e:gRaw al st mk T=⟨al,1+st%5,SD.part (1+st%5) mk,gPre al (1+st%5) T (1+st%5)⟩:=if_neg (by omega);have c:(gRaw al st mk T).n<=3:=by grind
 have hf:(found (gRaw al st mk T)).length<=(gRaw al st mk T).n:=QaT _ _ (Qe1 d.esn).1.nd (Qe1 d.esn).1.lt;have h1:=QhC (gRaw al st mk T) (found (gRaw al st mk T)) (found (gRaw al st mk T)).length;refine⟨QsY b a,fun x f=>a x (by rwa[show(mkA al st mk T).al=al from by show(gRaw al st mk T).al=al;rw[e]]at f),?_,Zay hf c,Qr4 b a,?_⟩
 ·show 0<(found (gRaw al st mk T)).length;have g:0<(gRaw al st mk T).n:=by grind
  unfold found;rw[if_pos g];exact ZaV (by simp) (QpP _ _ _)
 have i:(mkA al st mk T).es.length=(cPre (gRaw al st mk T) (found (gRaw al st mk T)) (found (gRaw al st mk T)).length).length:=rfl;rw[i];have h:(gRaw al st mk T).al.length<=5:=by simp_all[Qbq]
 refine Zay h1 (Zay (Nat.mul_le_mul (Zay hf c) h) (by decide))
structure Pln where
 L:List Nat
 X:List Nat
 xn:Nat
 f0:Int
 f1:Int
 f2:Int
 bd:Int
structure POk(p:Pln):Prop where
 L:p.L.length=147
 L8:∀x∈p.L,x<256
 X:p.X.length=p.xn*4
 X8:∀x∈p.X,x<256
 f0:-128<=p.f0/\p.f0<128
 f1:-128<=p.f1/\p.f1<128
 f2:-128<=p.f2/\p.f2<128
 bd:-128<=p.bd/\p.bd<128
abbrev plnC(p:Pln):List AV:=u8s p.L++[.fsl (u8s p.X) p.xn 4,.int .i8 p.f0,.int .i8 p.f1,.int .i8 p.f2,.int .i8 p.bd]
abbrev plnV(p:Pln):AV:=.agg (plnC p)
variable(p:Pln)
def pN:Nat:=1+p.L.getD 5 0%3
def pM:Nat:=p.L.getD 90 0%3
def pA(i:Nat):Aut:=mkA (SD.part 5 (p.L.getD (6+i) 0)) (p.L.getD (9+i*27) 0%3) (p.L.getD (9+i*27+1) 0) ((p.L.drop (9+i*27+2)).take 25)
def pAll:Nat->Nat|0=>0|i+1=>pAll i|||p.L.getD (6+i) 0%32
def pW(i:Nat):List Nat:=(SD.part 5 (p.L.getD (91+i) 0)).filter fun x=>(pAll p (pN p)).testBit x
def pR(i:Nat):Aut:=mkA (pW p i) (p.L.getD (93+i*27) 0%3) (p.L.getD (93+i*27+1) 0) ((p.L.drop (93+i*27+2)).take 25)
def pCs(n:Nat):List (Nat×Aut):=(List.range n).map fun i=>(i,pA p i)
def pRs(n:Nat):List (Nat×Aut):=(List.range n).map fun i=>(i,pR p i)
def pLo(i:Nat):Nat->List (Nat×Nat)|0=>[]|k+1=>if p.X.getD (i*4+k) 0%((pA p k).n+2)<(pA p k).n then pLo i k++[(k,p.X.getD (i*4+k) 0%((pA p k).n+2))]else pLo i k
def pXs:Nat->List (Nat×List (Nat×Nat))|0=>[]|i+1=>if 0<(pLo p i (pN p)).length then pXs i++[(i,pLo p i (pN p))]else pXs i
def pF(i:Nat):Int:=if i=0 then p.f0 else if i=1 then p.f1 else p.f2
def pT:Nat->List (Nat×Int)|0=>[]|i+1=>if pF p i=0 then pT i else pT i++[(i,(pF p i).tmod 4)]
def pT0:List (Nat×Int):=(pT p (pN p)).filter fun t=>!(decide (t.2=0))
def pKs:List (List (Nat×Int)×Int):=if 0<(pT0 p).length then[(pT0 p,p.bd.tmod 8)]else[]
def mkC:Cel:=⟨fun i=>evOf ((p.L.take 5).getD i 0),pCs p (pN p),pRs p (pM p),pXs p (min p.xn 2),pKs p⟩
variable{p}
theorem pN_le:1<=pN p/\pN p<=3:=by unfold pN;omega
theorem pM_le:pM p<=2:=by unfold pM;omega
theorem Qj9(i:Nat):(pW p i).Pairwise (·<·):=(Qdn _ _).filter _
theorem pW_lt(i:Nat):∀x∈pW p i,x<5:=fun x a=>partLt x (Za8.1 a).1
theorem pA_wf(i:Nat):WfI (pA p i):=Qnw (Qdn _ _) partLt (by omega)
theorem pR_wf(i:Nat):WfI (pR p i):=Qnw (Qj9 i) (pW_lt i) (by omega)
theorem QpQ{al:List Nat}{st mk:Nat}{T:List Nat}:(mkA al st mk T).al=al:=by show(gRaw al st mk T).al=al;grind[gRaw]
theorem Qip{i:Nat}:∀{n:Nat},∀x∈pLo p i n,x.1<n/\x.2<(pA p x.1).n
 |0,x,h=>by cases h|n+1,x,h=>by
  unfold pLo at h;split at h
  ·rename_i hc;rcases ZaE.1 h with h|h;·have:=Qip x h;omega
   simp_all
  have:=Qip x h;omega
theorem Qfe{i:Nat}:∀{n:Nat},((pLo p i n).map (·.1)).Pairwise (·<·)
 |0=>by simp[pLo]|n+1=>by
  unfold pLo;split;·rw[ZaN,Zba];refine⟨Qfe,by simp,fun x c y a=>?_⟩;simp at a;subst a;obtain⟨z,b,rfl⟩:=Zao.1 c;exact(Qip z b).1
  exact Qfe
theorem Qga:∀{n:Nat},∀x∈pXs p n,x.1<n/\x.2=pLo p x.1 (pN p)/\x.2≠[]
 |0,x,h=>by cases h|n+1,x,h=>by
  unfold pXs at h;split at h
  ·rename_i hc;rcases ZaE.1 h with h|h;·have:=Qga x h;grind
   grind
  have:=Qga x h;grind
theorem Qff:∀{n:Nat},((pXs p n).map (·.1)).Pairwise (·<·)
 |0=>by simp[pXs]|n+1=>by
  unfold pXs;split;·rw[ZaN,Zba];refine⟨Qff,by simp,fun x c y a=>?_⟩;simp at a;subst a;obtain⟨z,b,rfl⟩:=Zao.1 c;exact(Qga z b).1
  exact Qff
theorem QiP:∀{n:Nat},(pXs p n).length<=n|0=>by simp[pXs]|n+1=>by have:=@QiP n;grind[pXs]
theorem QiQ{i:Nat}:∀{n:Nat},(pLo p i n).length<=n|0=>by simp[pLo]|n+1=>by have:=@QiQ i n;grind[pLo]
theorem QlT:∀{n:Nat},(pT p n).length<=n|0=>by simp[pT]|n+1=>by have:=@QlT n;grind[pT]
theorem pT_lt:∀{n:Nat},∀x∈pT p n,x.1<n/\-4<x.2/\x.2<4
 |0,x,h=>by cases h|n+1,x,h=>by
  unfold pT at h;split at h;·have:=pT_lt x h;omega
  rcases ZaE.1 h with h|h;·have:=pT_lt x h;omega
  grind
theorem Qgb:∀{n:Nat},((pT p n).map (·.1)).Pairwise (·<·)
 |0=>by simp[pT]|n+1=>by
  unfold pT;split;·exact Qgb
  rw[ZaN,Zba];refine⟨Qgb,by simp,fun x c y a=>?_⟩;simp at a;subst a;obtain⟨z,b,rfl⟩:=Zao.1 c;exact(pT_lt z b).1
theorem QlU{e:Nat}:∀{n:Nat},(pAll p n).testBit e=true->e<5->∃i,i<n/\(p.L.getD (6+i) 0).testBit e=true
 |0,h,_=>by simp[pAll]at h|n+1,h,a=>by
  unfold pAll at h;rw[Nat.testBit_or,Zbd]at h;rcases h with h|h;·obtain⟨i,hi,h⟩:=QlU h a;grind
  rw[show 32=2^5 from rfl,Nat.testBit_mod_two_pow]at h;grind
theorem QpR{n i:Nat}(h:i<n):(pCs p n)[i]?=some (i,pA p i):=by simp_all[pCs]
theorem Qs5:WfCel (mkC p):=by
 have h1:=@pN_le p;have r:=@pM_le p;have hc:(pCs p (pN p)).length=pN p:=by simp[pCs]
 have s:(pRs p (pM p)).length=pM p:=by simp[pRs]
 have a:=@QiP p (min p.xn 2);refine⟨fun i _=>Qr2 _,?_,?_,?_,?_,?_,?_,?_,⟨Qff,fun x a=>?_⟩,fun x a=>?_,fun x a=>?_,fun x a e he=>?_,fun x a=>?_,fun x a=>?_⟩;·show 0<(pCs p (pN p)).length;omega
 ·show(pCs p (pN p)).length<=3;omega
 ·show(pRs p (pM p)).length<=2;omega
 ·show(pXs p _).length<=2;omega
 ·show(pKs p).length<=1;grind[pKs]
 ·show(pCs p (pN p)).map (·.1)=List.range (pCs p (pN p)).length;simp_all[pCs,Function.comp_def]
 ·show(pRs p (pM p)).map (·.1)=List.range (pRs p (pM p)).length;simp_all[pRs,Function.comp_def]
 ·have:=(Qga x a).1;omega
 ·obtain⟨i,_,rfl⟩:=Zao.1 (show x∈pCs p (pN p)from a);exact pA_wf i
 ·obtain⟨i,_,rfl⟩:=Zao.1 (show x∈pRs p (pM p)from a);exact pR_wf i
 ·obtain⟨i,_,rfl⟩:=Zao.1 (show x∈pRs p (pM p)from a);dsimp only at he;rw[show(pR p i).al=pW p i from QpQ]at he;obtain⟨c,d⟩:=Za8.1 he;obtain⟨j,n,d⟩:=QlU d (partLt e c);refine⟨(j,pA p j),Zao.2 ⟨j,Zat.2 n,rfl⟩,?_⟩;simp_all[pA,QpQ,Qlm]
 ·obtain⟨_,g,c⟩:=Qga x a;refine⟨c,by grind[Qfe],fun l f=>?_⟩;rw[g]at f;obtain⟨h,o⟩:=Qip l f;exact⟨_,QpR h,o⟩
 have b:x∈pKs p:=a;unfold pKs at b;split at b
 ·rename_i m;simp at b;subst b;refine⟨List.ne_nil_of_length_pos m,?_,fun t k=>?_,?_,?_⟩;·exact(Qgb (n:=pN p)).sublist (List.Sublist.map _ (List.filter_sublist))
  ·obtain⟨q,g⟩:=Za8.1 (show t∈pT0 p from k);have c:=pT_lt t q;simp_all[mkC]
  ·grind
  grind
 cases b
end Go.AM.SO
namespace Go.AM.SU
open Go.Proofs Go.AM.SD Go.AM.SE Go.AM.SO
theorem QaN(l:List (Nat×Int)):noRefs (l.flatMap teC)=true:=Qa0 (fun _=>rfl) l
theorem QcT(l:List (Nat×Int)):(l.flatMap teC).length=l.length*2:=Qbb (k:=2) (fun _=>rfl) l
theorem Qdi{l:List (Nat×Int)}{i:Nat}{x:Nat×Int}(h:l[i]?=some x):(l.flatMap teC).drop (i*2)=.int .i64 (x.1:Int)::.int .i64 x.2::(l.drop (i+1)).flatMap teC:=Qbf (f:=teC) (k:=2) (fun _=>rfl) h
theorem QpS{x:Nat×Int}:∀{l:List (Nat×Int)}{i:Nat},i<l.length->(l.flatMap teC).take (i*2)++[.int .i64 (x.1:Int),.int .i64 x.2]++(l.flatMap teC).drop (i*2+2)=(l.set i x).flatMap teC|[],i,h=>by simp at h|a::l,0,h=>by simp[Zax,teC]|a::l,i+1,h=>by have:=QpS (x:=x) (l:=l) (i:=i) (by simpa using h);rw[List.set_cons_succ,Zax,Zax,<-this];rw[show(i+1)*2=i*2+2 by omega];simp[teC]
abbrev teV(x:Nat×Int):AV:=.agg [.int .i64 (x.1:Int),.int .i64 x.2]
theorem zero94(x:Nat×Int):PSpec Tryz.prog 94 [teV x] (.bool (decide (x.2=0))):=by refine Zcc 64 ok94 rfl rfl rfl ?_;unfold s94;refine ZcC ?_;exact⟨.inr trivial,_,rfl,rfl⟩
def fst0(l:List (Nat×Int)):Int:=if l.all (fun x=>!decide (x.2=0))then-1 else(l.findIdx (fun x=>decide (x.2=0)):Int)
theorem _root_.Go.AM.au13{p:Prop}(h:p:=by repeat'(first|exact Zci|(refine Zca ?_;first|rfl|(simp only[noRef,noRefs,Qag,Zad,Zac,Zah,Qab,Qan,Qaa,QaN];done))|exact Zct rfl|exact Zco|exact(True.intro:RnM _ _ _ [] [])|refine Zcp ?_ ?_|(refine Zb9 ?_;first|rfl|(simp only[noRef,noRefs,Qag,Zad,Zac,Zah,Qab,Qan,Qaa,QaN];done))|exact Rn.x1 rfl rfl|exact Rn.x2 rfl rfl|exact Rn.x3 rfl rfl|exact Rn.x4 rfl rfl|exact Rn.x5 rfl|exact Rn.x6 rfl|exact Rn.x7 rfl|refine Zck rfl rfl ?_|refine Zcj rfl rfl rfl ?_ ?_|refine Zcl rfl rfl rfl ?_ ?_|refine Zcm rfl rfl ?_ ?_|refine Zcn rfl rfl ?_ ?_)):p:=h
theorem _root_.Go.AM.au14{p:Prop}(h:p:=by repeat(first|exact Zcg|(refine Zch ?_ ?_;·(first|exact Rn.any|exact Rn.x1 rfl rfl|exact Rn.x2 rfl rfl|exact Rn.x3 rfl rfl|exact Rn.x4 rfl rfl|exact Rn.x5 rfl|exact Rn.x6 rfl|exact Rn.x7 rfl|(refine Rn.slot ?_ ?_;(first|rfl|(rw[ZaO];rfl));(first|rfl|(simp only[noRef,noRefs,Qag,Zad,Zac,Zah,Qab,Qan,Qaa,QaN];done)))|(refine Rn.fn ?_ ?_<;>(repeat'(first|exact Zco|refine Zcp ?_ ?_|exact Zb9 rfl|exact Rn.x6 rfl|exact Rn.x2 rfl rfl|exact Rn.x5 rfl|exact Rn.x1 rfl rfl))))))):p:=h
theorem index186(l:List (Nat×Int))(p:l.length<=1000000):PSpec Tryz.prog 186 [tes l,.fn 94 [] []] (.int .i64 (fst0 l)):=by
 refine Zcc 64 ok186 rfl (by simp only[noRefs,noRef,QaN];rfl) rfl ?_;have o:=QcT l;unfold s186;refine ZcC ?_;refine QaO 100 (fun i:Nat=>[(0,tes l),(1,.fn 94 [] []),(7,.int .i64 l.length),(8,.int .i64 i)]) (fun _=>[]) (fun i=>i<=l.length/\∀(j:Nat)y,j<i->l[j]?=some y->y.2≠0) (fun i=>l.length-i) 0 ⟨[],rfl,au0,au13,au14⟩ ⟨Zaj _,fun j y c=>absurd c (ZaF _)⟩ ?_;rintro i⟨hi,k⟩;by_cases a:i<l.length
 ·obtain⟨x,b⟩:=Qaq a;have f:=zero94 x;by_cases d:x.2=0
  ·have e:decide (x.2=0)=true:=by simp[d]
   rw[e]at f;refine ZcD (ZcI a (Qdi b)) ?_;refine cpc f ?_;refine ZcC ?_;refine⟨.inr trivial,_,rfl,?_⟩;have h1:¬l.all (fun x=>!decide (x.2=0))=true:=by intro h;have:=ZaD.1 h x (Zae b);simp[d]at this
   have n:l.findIdx (fun x=>decide (x.2=0))=i:=by rw[List.findIdx_eq a];refine⟨by rw[Zal a]at b;cases b;simp[d],fun j c=>?_⟩;have:=k j l[j] c (Zal (by omega));simpa using this
   unfold fst0;rw[if_neg h1,n];rfl
  have e:decide (x.2=0)=false:=by simp[d]
  rw[e]at f;refine ZcD (ZcI a (Qdi b)) ?_;refine cpc f ?_;refine ZcC ?_;refine⟨i+1,by omega,⟨by omega,fun j y c g=>?_⟩,⟨[],rfl,au0,au13,au14⟩⟩;by_cases e:j=i;·subst e;rw[b]at g;cases g;exact d
  exact k j y (by omega) g
 have h1:l.all (fun x=>!decide (x.2=0))=true:=by rw[ZaD];intro x b;obtain⟨j,c,m⟩:=Zbf b;simpa using k j x (by omega) (by rw[Zal c,m])
 refine ZcD a ?_;refine⟨.inr trivial,_,rfl,?_⟩;unfold fst0;rw[if_pos h1];rfl
def flt0(l:List (Nat×Int)):List (Nat×Int):=l.filter fun t=>!(decide (t.2=0))
theorem Qka{l:List (Nat×Int)}{j:Nat}{v:Nat×Int}(h:l[j]?=some v):flt0 (l.take (j+1))=if v.2=0 then flt0 (l.take j)else flt0 (l.take j)++[v]:=by unfold flt0;rw[ZaT,h,Option.toList,Zbm];by_cases a:v.2=0<;>simp[a]
def delT(l:List (Nat×Int)):List (Nat×Int):=flt0 l++List.replicate (l.length-(flt0 l).length) (0,0)
theorem Qq3{l:List (Nat×Int)}(h:l.all (fun x=>!decide (x.2=0))=true):flt0 l=l:=by unfold flt0;exact ZbN.2 fun x a=>ZaD.1 h x a
theorem QpT{k:Nat}:(List.replicate k [AV.int .i64 0,AV.int .i64 0]).flatten=(List.replicate k ((0,0):Nat×Int)).flatMap teC:=by induction k with|zero=>rfl|succ k a=>rw[Za6,Zbv,a];rfl
theorem QiR:∀{l:List (Nat×Int)}{i:Nat},(l.flatMap teC).take (i*2)=(l.take i).flatMap teC|[],i=>by simp|a::l,0=>by simp|a::l,i+1=>by rw[Zax,ZaX,Zax,<-QiR,Zbb];simp[teC]
theorem del93(l:List (Nat×Int))(L:l.length<=1000000):HSpec Tryz.prog 93 [.sl 97 0 0 l.length 2,.fn 94 [] []] (hp [(97,.cells 0 (l.flatMap teC))]) (.sl 97 0 0 (flt0 l).length 2) (hp [(97,.cells 0 ((delT l).flatMap teC))]):=by
 refine HSpec.Qnq (m:=98) 100 ok93 rfl rfl ?_;have I:=QcT l;unfold s93;refine ZcC ?_;refine chc (Zcs (Zcv (FrzTo.all gg I) (Zcv (Zcd _) Zcu)) (index186 l L) rfl) ?_;by_cases a:l.all (fun x=>!decide (x.2=0))=true;·have s:fst0 l=-1:=if_pos a;refine ZcD s ?_;refine⟨.inr trivial,_,rfl,?_⟩;unfold delT;rw[Qq3 a,Nat.sub_self,List.replicate_zero,Zap];exact⟨[(97,.nil)],rfl,au0,au13,au14⟩
 have s:fst0 l=(l.findIdx (fun x=>decide (x.2=0)):Int):=if_neg a;have hex:∃x∈l,decide (x.2=0)=true:=by have:¬∀x∈l,(!decide (x.2=0))=true:=fun h=>a (ZaD.2 h);obtain⟨x,p⟩:=Classical.not_forall.1 this;obtain⟨p,J⟩:=Classical.not_imp.1 p;exact⟨x,p,by simpa using J⟩
 have k:l.findIdx (fun x=>decide (x.2=0))<l.length:=Zbk hex;obtain⟨i0,y⟩:∃i0,i0=l.findIdx (fun x=>decide (x.2=0)):=⟨_,rfl⟩;rw[<-y]at s k;have G:(l[i0]).2=0:=by have:=List.findIdx_getElem (w:=by rw[<-y];exact k) (xs:=l) (p:=fun x=>decide (x.2=0));simp only[<-y]at this;simpa using this
 have o:flt0 (l.take i0)=l.take i0:=by unfold flt0;refine ZbN.2 fun x p=>?_;obtain⟨j,B,rfl⟩:=Zbf p;rw[Zas]at B;have:=List.not_of_lt_findIdx (xs:=l) (p:=fun x=>decide (x.2=0)) (i:=j) (by rw[<-y];omega);rw[List.getElem_take];simpa using this
 have z:flt0 (l.take (i0+1))=l.take i0:=by rw[Qka (Zal k),if_pos G,o]
 have A:¬(i0:Int)=-1:=by omega
 refine ZcD (ZcI s A) ?_;refine QaO 110 (fun t:Nat×Nat×List (Nat×Int)=>[(0,.sl 97 0 0 l.length 2),(1,.fn 94 [] []),(5,.int .i64 t.2.1),(6,.int .i64 t.1)]) (fun t=>[(97,.cells 0 (t.2.2.flatMap teC))]) (fun t=>t.1<=l.length/\t.2.1<t.1/\t.2.2.length=l.length/\t.2.2.take t.2.1=flt0 (l.take t.1)/\t.2.2.drop t.1=l.drop t.1) (fun t=>l.length-t.1) (i0+1,i0,l) ⟨[(97,.nil)],rfl,au0,au13,au14⟩ ⟨by dsimp only;omega,by dsimp only;omega,rfl,z.symm,rfl⟩ ?_;rintro⟨j,i,C⟩⟨B,E,f,m,w⟩;dsimp only at B E f m w⊢;have b:=QcT C;by_cases d:j<l.length
 ·obtain⟨v,H⟩:=Qaq d;have r:C[j]?=some v:=by
   have:(C.drop j)[0]?=(l.drop j)[0]?:=by rw[w]
   simpa[H]using this
  have u:=Qka H;have g:=zero94 v;have g1:j*2+2<=l.length*2:=by omega
  have g2:i*2+2<=l.length*2:=by omega
  by_cases hm:v.2=0
  ·have F:decide (v.2=0)=true:=by simp[hm]
   rw[F]at g;rw[if_pos hm]at u;refine ZcD (ZcL d f b g1 (Qdi r)) ?_;refine chc (g.toH _) ?_;refine ZcC ?_;refine⟨(j+1,i,C),by dsimp only;omega,⟨by dsimp only;omega,by dsimp only;omega,f,by rw[u];exact m,?_⟩,?_⟩;·dsimp only;have:=congrArg (List.drop 1) w;simpa[ZaQ]using this
   exact⟨[(97,.nil)],rfl,au0,au13,au14⟩
  have F:decide (v.2=0)=false:=by simp[hm]
  rw[F]at g;rw[if_neg hm]at u;refine ZcD (ZcL d f b g1 (Qdi r)) ?_;refine chc (g.toH _) ?_;have c:i<l.length:=by omega
  refine ZcD (ZcL c f b g2 (QpS (l:=C) (i:=i) (x:=v) (by omega))) ?_;refine⟨(j+1,i+1,C.set i v),by dsimp only;omega,⟨by dsimp only;omega,by dsimp only;omega,by simp[f],?_,?_⟩,?_⟩;·dsimp only;rw[u,<-m,ZaT,List.getElem?_set_self (by omega),List.take_set,List.set_eq_of_length_le (by rw[Zas];omega)];rfl
  ·dsimp only;rw[List.drop_set_of_lt (by omega)];have:=congrArg (List.drop 1) w;simpa[ZaQ]using this
  exact⟨[(97,.nil)],rfl,au0,au13,au14⟩
 have K:j=l.length:=by omega
 subst K;rw[Zau]at m;have c:(i:Int)<=(l.length:Int):=by omega
 refine ZcD (ZcI d c) ?_;refine QlG gg (by omega) (by rw[b,f];omega) rfl (by decide) (by decide) ?_;refine ZcD c ?_;refine⟨.inr trivial,_,rfl,?_⟩;have n:(flt0 l).length=i:=by rw[<-m,Zas];omega
 have q:putR (C.flatMap teC) (i*2) (List.replicate (l.length-i) [AV.int .i64 0,AV.int .i64 0]).flatten=(delT l).flatMap teC:=by rw[Qez (by rw[b,f];omega),QpT,QiR,m];unfold delT;rw[n,Zaq,List.drop_of_length_le (by rw[b,f,QcT,ZbG];omega),Zap]
 rw[n,q];exact⟨[(97,.nil)],rfl,au0,au13,au14⟩
end Go.AM.SU
namespace Go.AM.SO
open Go.Proofs Go.AM.SD Go.AM.SE
theorem convB1{P:Program}{N:NM}{d:Option Nat}{r:List SOper}{dead:List Nat}{fs:List Fr}{n:Nat}{T:Tmps}{h:Heap}{Q:QC}{b g x:Nat}(a:h.get b=some (.cells g [.int .u8 (x:Int)]))(hk:wR P N r dead fs (n+1) (putD T d (.str [UInt8.ofNat x])) h Q):wM P N (aConvB (.sl b g 0 1 1)) d r dead fs n T h Q:=by
 refine⟨_,h,?_,hk⟩;have c:Nat.beq g g=true:=by simp
 simp[aConvB,aSrc,HM.cells,HM.run,a,c,bytesOf]
theorem QcU(F:List Nat)(i:Nat):noRefs (evP F i)=true:=by unfold evP;exact Qa0 (fun j=>rfl) _
theorem _root_.Go.AM.au15{p:Prop}(h:p:=by repeat(first|exact Zcg|(refine Zch ?_ ?_;·(first|exact Rn.any|exact Rn.x1 rfl rfl|exact Rn.x2 rfl rfl|exact Rn.x3 rfl rfl|exact Rn.x4 rfl rfl|exact Rn.x5 rfl|exact Rn.x6 rfl|exact Rn.x7 rfl|(refine Rn.slot ?_ ?_;(first|rfl|(rw[ZaO];rfl));(first|rfl|(simp only[noRef,noRefs,Qag,Zad,Zac,Zah,Qab,Qan,Qaa,QaI];done)))|(refine Rn.fn ?_ ?_<;>(repeat'(first|exact Zco|refine Zcp ?_ ?_|exact Zb9 rfl|exact Rn.x6 rfl|exact Rn.x2 rfl rfl|exact Rn.x5 rfl|exact Rn.x1 rfl rfl))))))):p:=h
theorem events88(F:List Nat)(r:F.length=5)(d:∀i,F.getD i 0<256):PSpec Tryz.prog 88 [.agg (u8s F)] (.fsl (evP F 5) 5 5):=by
 refine Zcb 64 ok88 rfl (by simp only[noRefs,noRef,QaI];rfl) (by simp only[noRef];exact QcU _ _) ?_;unfold s88;refine ZcE ?_;refine QaO 100 (fun i:Nat=>[(1,.ptr 64 0 0),(3,.sl 50 0 0 i 5),(4,.int .i64 i)]) (fun i=>[(50,.cells 0 (evP F i)),(64,.cells 0 (u8s F))]) (fun i=>i<=5) (fun i=>5-i) 0 ⟨[(50,.nil),(64,.blk 64 0)],rfl,au0,?_,au15⟩ (Zaj _) ?_;·exact Zck rfl rfl (Zcj rfl rfl rfl (Zca (QaI _)) Zci)
 rintro i hi;by_cases o:i<5
 ·have a:(i:Int)<5:=by omega
  have hu:(u8s F)[i]?=some (.int .u8 ((F.getD i 0:Nat):Int)):=Qf7 (by rw[Zal (by omega)];simp[List.getD,Zal (show i<F.length by omega)]);have g:=d i;have k:=@QlR F i;have h:=@QiO F i;generalize F.getD i 0=b at hu g k;have l:wr .u8 ((97:Int)+(i:Int))=((97+i:Nat):Int):=by rw[wr_u8 (by omega) (by omega)];omega
  refine ZcF (ZcL a hu h l @QqB) ?_;refine convB1 gg ?_;have s:((97+i:Nat):Int)=((97+i:Nat):Int):=rfl;by_cases f:48<=b/\b<52
  ·have p:(48:Int)<=(b:Int):=by omega
   have c:(b:Int)<52:=by omega
   have m:(b:Int)-47=((b-47:Nat):Int):=by omega
   have ev:evP F i++[.str [UInt8.ofNat (97+i)],.bool false,.bool false,.bool false,.int .i64 ((b-47:Nat):Int)]=evP F (i+1):=by rw[k];simp[evC,evOf,f]
   refine ZcF (ZcM a hu h p c m) ?_;refine⟨i+1,by omega,by omega,?_⟩;rw[ev];refine⟨[(50,.blk 50 1),(64,.blk 64 0)],rfl,au0,?_,au15⟩;exact Zcj rfl rfl gg (Zca (QcU _ _)) (Zcj rfl rfl gg (Zca (QaI _)) Zci)
  have ev:evP F i++[.str [UInt8.ofNat (97+i)],.bool (decide (b&&&1=1)),.bool (decide (b&&&2=2)),.bool (decide (b&&&4=4)),.int .i64 0]=evP F (i+1):=by rw[k];simp[evC,evOf,f]
  have d1:decide (((b&&&1:Nat):Int)=1)=decide (b&&&1=1):=decide_eq_decide.2 (by omega);have d2:decide (((b&&&2:Nat):Int)=2)=decide (b&&&2=2):=decide_eq_decide.2 (by omega);have d4:decide (((b&&&4:Nat):Int)=4)=decide (b&&&4=4):=decide_eq_decide.2 (by omega);have n:=QpM g;have a2:=QpN g;have a4:=QpO g;by_cases q:48<=b
  ·have c:(48:Int)<=(b:Int):=by omega
   have m:¬(b:Int)<52:=by omega
   refine ZcF (ZcR a hu h c m n a2 a4 d1 d2 d4) ?_;refine⟨i+1,by omega,by omega,?_⟩;rw[ev];refine⟨[(50,.blk 50 1),(64,.blk 64 0)],rfl,au0,?_,au15⟩;exact Zcj rfl rfl gg (Zca (QcU _ _)) (Zcj rfl rfl gg (Zca (QaI _)) Zci)
  have c:¬(48:Int)<=(b:Int):=by omega
  refine ZcF (ZcQ a hu h c n a2 a4 d1 d2 d4) ?_;refine⟨i+1,by omega,by omega,?_⟩;rw[ev];refine⟨[(50,.blk 50 1),(64,.blk 64 0)],rfl,au0,?_,au15⟩;exact Zcj rfl rfl gg (Zca (QcU _ _)) (Zcj rfl rfl gg (Zca (QaI _)) Zci)
 have a:¬(i:Int)<5:=by omega
 have e:i=5:=by omega
 subst e;refine ZcF a ?_;refine⟨.inr trivial,_,rfl,?_⟩;exact Rn.fz0 rfl QiO (Zca (QcU _ _))
end Go.AM.SO
namespace Go.AM.ST
open Go.Proofs Go.AM.SD
noncomputable section
def bitsL(s:Nat):List Nat:=(List.range 5).filter fun i=>s.testBit i
def isV(v:AV)(u:AV):Bool:=eqAV u v
theorem QpU{v:AV}:∀u,isV v u=true->u=v:=fun u h=>Qc5 _ _ h
def unionB(a b:Nat):Bool:=callR ansB noOrc SK.ft.get (exR ansB noOrc SK.ft.get 1000) (.c .pure) 90 [sliN (bitsL a),sliN (bitsL b)] .e 64 (fun u _ _=>isV (sliN (bitsL (a|||b))) u)
theorem Qq4{a b:Nat}(h:unionB a b=true):PSpec Tryz.prog 90 [sliN (bitsL a),sliN (bitsL b)] (sliN (bitsL (a|||b))):=QbJ (t:=SK.ft) SK.ft_ok Qc7 (d:=1000) (isV _) QpU h
end
end Go.AM.ST
namespace Go.AM.ST
open Go.Proofs Go.AM.SD
noncomputable section
def rowB(a n:Nat):Bool:=@Nat.rec (fun _=>Bool) true (fun b c=>ifB (unionB a b) c false) n
theorem row_1:rowB 1 32=true:=by kernel_rfl
theorem row_2:rowB 2 32=true:=by kernel_rfl
theorem row_3:rowB 3 32=true:=by kernel_rfl
theorem row_4:rowB 4 32=true:=by kernel_rfl
theorem row_5:rowB 5 32=true:=by kernel_rfl
theorem row_6:rowB 6 32=true:=by kernel_rfl
theorem row_7:rowB 7 32=true:=by kernel_rfl
theorem row_8:rowB 8 32=true:=by kernel_rfl
theorem row_9:rowB 9 32=true:=by kernel_rfl
theorem Qs6:rowB 10 32=true:=by kernel_rfl
theorem Qs7:rowB 11 32=true:=by kernel_rfl
theorem Qs8:rowB 12 32=true:=by kernel_rfl
theorem Qs9:rowB 13 32=true:=by kernel_rfl
theorem Qta:rowB 14 32=true:=by kernel_rfl
theorem Qtb:rowB 15 32=true:=by kernel_rfl
theorem Qtc:rowB 16 32=true:=by kernel_rfl
theorem Qtd:rowB 17 32=true:=by kernel_rfl
theorem Qte:rowB 18 32=true:=by kernel_rfl
theorem Qtf:rowB 19 32=true:=by kernel_rfl
theorem Qtg:rowB 20 32=true:=by kernel_rfl
theorem Qth:rowB 21 32=true:=by kernel_rfl
theorem Qti:rowB 22 32=true:=by kernel_rfl
theorem Qtj:rowB 23 32=true:=by kernel_rfl
theorem Qtk:rowB 24 32=true:=by kernel_rfl
theorem Qtl:rowB 25 32=true:=by kernel_rfl
theorem Qtm:rowB 26 32=true:=by kernel_rfl
theorem Qtn:rowB 27 32=true:=by kernel_rfl
theorem Qto:rowB 28 32=true:=by kernel_rfl
theorem Qtp:rowB 29 32=true:=by kernel_rfl
theorem Qtq:rowB 30 32=true:=by kernel_rfl
theorem Qtr:rowB 31 32=true:=by kernel_rfl
theorem QpV{a:Nat}:∀{n b:Nat},rowB a n=true->b<n->unionB a b=true
 |0,_,_,h=>absurd h (ZaF _)|n+1,b,c,d=>by
  have e:rowB a (n+1)=ifB (unionB a n) (rowB a n) false:=rfl;rw[e,QaD]at c;split at c
  ·rename_i h;rcases Nat.lt_succ_iff_lt_or_eq.1 d with h1|rfl;·exact QpV c h1
   exact h
  cases c
theorem Qok{a b:Nat}(f:0<a)(c:a<32)(d:b<32):PSpec Tryz.prog 90 [sliN (bitsL a),sliN (bitsL b)] (sliN (bitsL (a|||b))):=by
 have h:rowB a 32=true:=by
  have:a=1\/a=2\/a=3\/a=4\/a=5\/a=6\/a=7\/a=8\/a=9\/a=10\/a=11\/a=12\/a=13\/a=14\/a=15\/a=16\/a=17\/a=18\/a=19\/a=20\/a=21\/a=22\/a=23\/a=24\/a=25\/a=26\/a=27\/a=28\/a=29\/a=30\/a=31:=by omega
  rcases this with rfl|rfl|rfl|rfl|rfl|rfl|rfl|rfl|rfl|rfl|rfl|rfl|rfl|rfl|rfl|rfl|rfl|rfl|rfl|rfl|rfl|rfl|rfl|rfl|rfl|rfl|rfl|rfl|rfl|rfl|rfl;·exact row_1
  ·exact row_2
  ·exact row_3
  ·exact row_4
  ·exact row_5
  ·exact row_6
  ·exact row_7
  ·exact row_8
  ·exact row_9
  ·exact Qs6
  ·exact Qs7
  ·exact Qs8
  ·exact Qs9
  ·exact Qta
  ·exact Qtb
  ·exact Qtc
  ·exact Qtd
  ·exact Qte
  ·exact Qtf
  ·exact Qtg
  ·exact Qth
  ·exact Qti
  ·exact Qtj
  ·exact Qtk
  ·exact Qtl
  ·exact Qtm
  ·exact Qtn
  ·exact Qto
  ·exact Qtp
  ·exact Qtq
  exact Qtr
 exact Qq4 (QpV h d)
end
end Go.AM.ST
namespace Go.AM.ST
open Go.Proofs Go.AM.SD Go.AM.SE
noncomputable section
def allV(a:Nat):AV:=if a=0 then .nilsl else sliN (bitsL a)
def unionN(b:Nat):Bool:=callR ansB noOrc SK.ft.get (exR ansB noOrc SK.ft.get 1000) (.c .pure) 90 [.nilsl,sliN (bitsL b)] .e 64 (fun u _ _=>isV (allV b) u)
theorem QpW{b:Nat}(h:unionN b=true):PSpec Tryz.prog 90 [.nilsl,sliN (bitsL b)] (allV b):=QbJ (t:=SK.ft) SK.ft_ok Qc7 (d:=1000) (isV _) QpU h
def rowN(n:Nat):Bool:=@Nat.rec (fun _=>Bool) true (fun b a=>ifB (unionN b) a false) n
theorem Qq5:rowN 32=true:=by kernel_rfl
theorem Qnx:∀{n b:Nat},rowN n=true->b<n->unionN b=true
 |0,_,_,h=>absurd h (ZaF _)|n+1,b,a,c=>by
  have e:rowN (n+1)=ifB (unionN n) (rowN n) false:=rfl;rw[e,QaD]at a;split at a
  ·rename_i h;rcases Nat.lt_succ_iff_lt_or_eq.1 c with h1|rfl;·exact Qnx a h1
   exact h
  cases a
theorem QpX(b:Nat):SD.part 5 b=bitsL (b%32):=by unfold bitsL SD.part;apply Zbw;intro x a;have:=Zat.1 a;rw[show 32=2^5 from rfl,Nat.testBit_mod_two_pow];simp[this]
theorem union90{a b:Nat}(f:a<32):PSpec Tryz.prog 90 [allV a,sliN (SD.part 5 b)] (allV (a|||b%32)):=by
 rw[QpX];have d:b%32<32:=Nat.mod_lt _ (by decide);by_cases c:a=0;·subst c;rw[Nat.zero_or];exact QpW (Qnx Qq5 d)
 have h1:¬(a|||b%32)=0:=fun e=>c (Nat.or_eq_zero_iff.1 e).1;unfold allV;rw[if_neg c,if_neg h1];exact Qok (by omega) f d
end
end Go.AM.ST
namespace Go.AM.SU
open Go.Proofs Go.AM.SD Go.AM.SE Go.AM.SO
theorem QcI(l:List Nat):(u8s l).length=l.length:=by simp[u8s]
theorem graph91(al:List Nat)(st mk:Nat)(T:List Nat)(i:al.Pairwise (·<·))(n:∀x∈al,x<5)(o:st<256)(f:mk<256)(h:T.length=25)(c:∀x∈T,x<256):PSpec Tryz.prog 91 [sliN al,grV st mk T,.int .i64 3] (aV (mkA al (st%3) mk T)):=by
 refine Zcb 40 ok91 rfl (by(try simp only[noRefs,Qab,QaI,noRef,noRefs,Qaa,QaN,Zad,Zac])<;>rfl) (Qde _) ?_;have k:=Make32 al (st%3) mk T i n (by omega) f h c;have b:(u8s T).length=25:=by rw[QcI,h]
 have g:(u8s T).take 25=u8s T:=by rw[<-b,Zau]
 have d:(st:Int).tmod 3=((st%3:Nat):Int):=by rw[Zbg (Zbc _)];norm_cast
 have a:(u8s T).all AV.one=true:=by
  have:∀l:List Nat,(u8s l).all AV.one=true:=fun l=>by induction l with|nil=>rfl|cons x l m=>show(AV.one _&&(u8s l).all AV.one)=true;rw[m];rfl
  exact this T
 unfold s91;refine ZcD (ZcK b g d a) ?_;refine cp k ?_;generalize mkA al (st%3) mk T=A at*;refine ZcD (ZcI a b) ?_;refine⟨.inr trivial,_,rfl,?_⟩;exact Zb9 (Qde _)
theorem Qfg{i:Nat}(hi:i<10):aConvS (.int .i32 (48+(i:Int)))=some (.str [UInt8.ofNat (48+i)]):=by
 have:i=0\/i=1\/i=2\/i=3\/i=4\/i=5\/i=6\/i=7\/i=8\/i=9:=by omega
 rcases this with rfl|rfl|rfl|rfl|rfl|rfl|rfl|rfl|rfl|rfl<;>rfl
theorem _root_.Go.AM.au16{p:Prop}(h:p:=by repeat'(first|exact Zci|(refine Zca ?_;first|rfl|(simp only[noRef,noRefs,Qag,Zad,Zac,Zah,Qab,QaI,Qan,Qaa,QaN];done))|exact Zct rfl|exact Zco|exact(True.intro:RnM _ _ _ [] [])|refine Zcp ?_ ?_|(refine Zb9 ?_;first|rfl|(simp only[noRef,noRefs,Qag,Zad,Zac,Zah,Qab,QaI,Qan,Qaa,QaN];done))|exact Rn.x1 rfl rfl|exact Rn.x2 rfl rfl|exact Rn.x3 rfl rfl|exact Rn.x4 rfl rfl|exact Rn.x5 rfl|exact Rn.x6 rfl|exact Rn.x7 rfl|refine Zck rfl rfl ?_|refine Zcj rfl rfl rfl ?_ ?_|refine Zcl rfl rfl rfl ?_ ?_|refine Zcm rfl rfl ?_ ?_|refine Zcn rfl rfl ?_ ?_)):p:=h
theorem _root_.Go.AM.au17{p:Prop}(h:p:=by repeat(first|exact Zcg|(refine Zch ?_ ?_;·(first|exact Rn.any|exact Rn.x1 rfl rfl|exact Rn.x2 rfl rfl|exact Rn.x3 rfl rfl|exact Rn.x4 rfl rfl|exact Rn.x5 rfl|exact Rn.x6 rfl|exact Rn.x7 rfl|(refine Rn.slot ?_ ?_;(first|rfl|(rw[ZaO];rfl));(first|rfl|(simp only[noRef,noRefs,Qag,Zad,Zac,Zah,Qab,QaI,Qan,Qaa,QaN];done)))|(refine Rn.fn ?_ ?_<;>(repeat'(first|exact Zco|refine Zcp ?_ ?_|exact Zb9 rfl|exact Rn.x6 rfl|exact Rn.x2 rfl rfl|exact Rn.x5 rfl|exact Rn.x1 rfl rfl))))))):p:=h
theorem events89(s:Nat)(g:s<256):HSpec Tryz.prog 89 [.int .u8 s] .e (.sl 98 0 0 (SD.part 5 s).length 1) (hp [(98,.cells 0 (ints (nz (SD.part 5 s))))]):=by
 refine HSpec.QbN 64 ok89 rfl ?_;unfold s89;refine ZcC ?_;refine QaO 100 (fun i:Nat=>[(0,.int .u8 s),(3,.sl 50 0 0 (SD.part i s).length 1),(4,.int .i64 i)]) (fun i=>[(50,.cells 0 (ints (nz (SD.part i s))))]) (fun i=>i<=5) (fun i=>5-i) 0 ⟨[(50,.nil)],rfl,au0,au16,au17⟩ (Zaj _) ?_;rintro i hi;have d:=@Qdf i s;by_cases f:i<5
 ·have a:(i:Int)<5:=by omega
  by_cases b:s.testBit i=true;·have c:=QdO.2 b;have hp:=Qdx (n:=5) (b:=s) (i:=i);rw[if_pos b]at hp;simp(disch:=first|omega|(simp only[lenW]<;>omega))only[a,QcG (k:=.u8) (show i<=8 by omega),QcH,c,Zai,wW,wV,simprocAttr];refine⟨i+1,by omega,by omega,?_⟩;rw[hp,QaH,QaA,Zaf];exact⟨[(50,.blk 50 1)],rfl,au0,au16,au17⟩
  have c:¬((s/2^i%2:Nat):Int)=1:=fun e=>b (QdO.1 e);have hp:=Qdx (n:=5) (b:=s) (i:=i);rw[if_neg b,Zap]at hp;simp(disch:=first|omega|(simp only[lenW]<;>omega))only[a,QcG (k:=.u8) (show i<=8 by omega),QcH,c,Zai,wW,wV,simprocAttr];refine⟨i+1,by omega,by omega,?_⟩;rw[hp];exact⟨[(50,.blk 50 0)],rfl,au0,au16,au17⟩
 have a:¬(i:Int)<5:=by omega
 have e:i=5:=by omega
 subst e;refine ZcD a ?_;refine⟨.inr trivial,_,rfl,?_⟩;exact⟨[(98,.blk 50 0)],rfl,au0,au16,au17⟩
theorem del40F{A l:List Nat}{h:Heap}(hA:A.length<=1000000)(d:l.length<=1000000)(a:h.get 75=some (.cells 0 [sliN A]))(b:h.get 98=some (.cells 0 (ints (nz l)))):HSpec Tryz.prog 40 [.sl 98 0 0 l.length 1,.fn 92 [] [.ptr 75 0 0]] h (sliN (fltN A l)) ((h.set 98 (.cells 0 (ints (nz (delL A l))))).set 98 (.dead 0)):=by
 have h1:=HSpec.frameB (del40 A l hA d) (OnlyD.cons (OnlyD.sl (.inr rfl)) (OnlyD.cons (OnlyD.fn OnlyD.nil (OnlyD.cons (OnlyD.ptr (.inl rfl)) OnlyD.nil)) OnlyD.nil)) (OnlyD.sl (.inr rfl)) (by simp only[noRefs,noRef,Qab];rfl) (Qab _) (Qab _) a b (by decide) rfl rfl;have hle:(fltN A l).length*1<=(ints (nz (delL A l))).length:=by simp[ints,delL]
 have c:=HSpec.freeze (ds:=ints (nz (delL A l))) h1 (by rw[Qay (by decide)]) (Qb0 _) hle rfl;have e:(ints (nz (delL A l))).take ((fltN A l).length*1)=ints (nz (fltN A l)):=by rw[Zb2];unfold delL;rw[QaH,QaA,List.take_append_of_le_length (by simp[ints]),ZaS (by simp[ints])]
 rw[e]at c;exact c
theorem Qr5(l:List (Nat×Int)):flatVs (l.flatMap teC)=true:=by induction l with|nil=>rfl|cons x l a=>rw[Zax];exact a
theorem del93F{l:List (Nat×Int)}{h:Heap}(c:l.length<=1000000)(a:h.get 97=some (.cells 0 (l.flatMap teC))):HSpec Tryz.prog 93 [.sl 97 0 0 l.length 2,.fn 94 [] []] h (tes (flt0 l)) ((h.set 97 (.cells 0 ((delT l).flatMap teC))).set 97 (.dead 0)):=by
 have h1:=HSpec.frameA (del93 l c) (OnlyD.cons (OnlyD.sl rfl) (OnlyD.cons (OnlyD.same rfl) OnlyD.nil)) (OnlyD.sl rfl) (QaN _) (QaN _) a rfl;have hle:(flt0 l).length*2<=((delT l).flatMap teC).length:=by rw[QcT];simp[delT];omega
 have b:=HSpec.freeze (ds:=(delT l).flatMap teC) h1 (by rw[Qay (by decide)]) (Qr5 _) hle rfl;have e:((delT l).flatMap teC).take ((flt0 l).length*2)=(flt0 l).flatMap teC:=by rw[QiR];unfold delT;rw[List.take_left]
 rw[e]at b;exact b
end Go.AM.SU
namespace Go.AM.SU
open Go.Proofs Go.AM.SD Go.AM.SE Go.AM.SO
theorem Qny:∀l:List Nat,(u8s l).all AV.one=true|[]=>rfl|x::l=>by show(AV.one _&&(u8s l).all AV.one)=true;rw[Qny l];rfl
section
variable{p:Pln}
theorem QpY{l:List Nat}{k:Nat}(h:k<l.length):(u8s l)[k]?=some (.int .u8 ((l.getD k 0:Nat):Int)):=by refine Qf7 ?_;rw[Zal h,Zak,Zal h];rfl
theorem QiS(h:POk p):(plnC p).length=152:=by show(u8s p.L++_).length=152;rw[Zaf,QcI,h.L];rfl
theorem Qts(h:POk p){k:Nat}(hk:k<147):(plnC p)[k]?=some (.int .u8 ((p.L.getD k 0:Nat):Int)):=by show(u8s p.L++_)[k]?=_;rw[Zbh (by rw[QcI,h.L];exact hk),QpY (by rw[h.L];exact hk)]
theorem QeL(h:POk p){k:Nat}:(plnC p)[147+k]?=([.fsl (u8s p.X) p.xn 4,.int .i8 p.f0,.int .i8 p.f1,.int .i8 p.f2,.int .i8 p.bd]:List AV)[k]?:=by show(u8s p.L++_)[147+k]?=_;rw[List.getElem?_append_right (by rw[QcI,h.L];omega),QcI,h.L];congr 1;omega
theorem QlV(h:POk p){k m:Nat}(hk:k+m<=147):((plnC p).drop k).take m=u8s ((p.L.drop k).take m):=by show((u8s p.L++_).drop k).take m=_;rw[List.drop_append_of_le_length (by rw[QcI,h.L];omega),List.take_append_of_le_length (by rw[Za4,QcI,h.L];omega)];simp[u8s,List.map_drop,List.map_take]
theorem Qtt(h:POk p){k:Nat}(hk:k+27<=147):((plnC p).drop k).take 27=.int .u8 ((p.L.getD k 0:Nat):Int)::.int .u8 ((p.L.getD (k+1) 0:Nat):Int)::u8s ((p.L.drop (k+2)).take 25):=by
 have a:=h.L;rw[QlV h hk];have e:(p.L.drop k).take 27=p.L.getD k 0::p.L.getD (k+1) 0::(p.L.drop (k+2)).take 25:=by rw[Zak,Zak,Zal (show k<p.L.length by omega),Zal (show k+1<p.L.length by omega)];rw[List.drop_eq_getElem_cons (show k<p.L.length by omega),ZaX,List.drop_eq_getElem_cons (show k+1<p.L.length by omega),ZaX];rfl
 rw[e];rfl
theorem L_lt(h:POk p)(k:Nat):p.L.getD k 0<256:=by rw[Zak];cases e:p.L[k]? with|none=>decide|some x=>exact h.L8 x (Zae e)
theorem X_lt(h:POk p)(k:Nat):p.X.getD k 0<256:=by rw[Zak];cases e:p.X[k]? with|none=>decide|some x=>exact h.X8 x (Zae e)
theorem pF_lt(h:POk p)(i:Nat):-128<=pF p i/\pF p i<128:=by
 unfold pF;split;·exact h.f0
 split;·exact h.f1
 exact h.f2
theorem QiT(h:POk p):(plnC p).all AV.one=true:=by show(u8s p.L++_).all AV.one=true;rw[ZbU,Qny];rfl
theorem Qfh:noRefs (plnC p)=true:=by show noRefs (u8s p.L++_)=true;rw[Qag,QaI];simp only[noRefs,noRef,QaI];rfl
theorem Qr6(F:List Nat):AV.fsl (evP F 5) 5 5=evsV (fun i=>evOf (F.getD i 0)):=by congr 1
theorem QpZ(e:Nat->Evt):noRef (evsV e)=true:=rfl
theorem Qbk{ch:UInt8}(l:List (Nat×Aut)):noRefs (l.flatMap (itC ch))=true:=Qa0 (fun x=>by simp only[itC,noRefs,noRef,Qab,Qaf];rfl) l
theorem QaB{ch:UInt8}(l:List (Nat×Aut)):noRef (its ch l)=true:=by simp only[noRef];exact Qbk l
theorem Qr7{p:Pln}{i:Nat}:fltN (ST.bitsL (pAll p (pN p))) (SD.part 5 (p.L.getD (91+i) 0))=pW p i:=by unfold fltN pW;apply Zbw;intro x a;have:=partLt x a;show decide (x∈(List.range 5).filter _)=_;simp[this]
theorem Qbg(l:List (Nat×Nat)):noRefs (l.flatMap loC)=true:=Qa0 (fun _=>rfl) l
theorem Qb1(l:List (Nat×Nat)):noRef (los l)=true:=by simp only[noRef];exact Qbg l
theorem Qgc(l:List (Nat×Nat)):(l.flatMap loC).length=l.length*2:=Qbb (k:=2) (fun _=>rfl) l
theorem Qba(l:List (Nat×List (Nat×Nat))):noRefs (l.flatMap exC)=true:=Qa0 (fun x=>by simp only[exC,noRefs,noRef,Qbg];rfl) l
theorem Qbr(l:List (Nat×List (Nat×Nat))):noRef (exs l)=true:=by simp only[noRef];exact Qba l
theorem Qef(l:List (Nat×List (Nat×Nat))):(l.flatMap exC).length=l.length*2:=Qbb (k:=2) (fun _=>rfl) l
theorem Qcj(l:List (Nat×Int)):noRef (tes l)=true:=by simp only[noRef];exact QaN l
theorem QcJ(l:List (List (Nat×Int)×Int)):noRefs (l.flatMap coC)=true:=Qa0 (fun x=>by simp only[coC,noRefs,noRef,QaN];rfl) l
theorem Qkb(l:List (List (Nat×Int)×Int)):noRef (cos l)=true:=by simp only[noRef];exact QcJ l
theorem Qdj{ch:UInt8}{l:List (Nat×Aut)}{i:Nat}{x:Nat×Aut}(h:l[i]?=some x):(l.flatMap (itC ch)).drop (i*5)=.str [ch,UInt8.ofNat (48+x.1)]::sliN x.2.al::.int .i64 (x.2.n:Int)::sliN x.2.ms::egsN x.2.es::(l.drop (i+1)).flatMap (itC ch):=Qbf (f:=itC ch) (k:=5) (fun _=>rfl) h
theorem Qr8{X:List Nat}{i:Nat}(h:i*4+4<=X.length):((u8s X).drop (i*4)).take 4=[.int .u8 ((X.getD (i*4) 0:Nat):Int),.int .u8 ((X.getD (i*4+1) 0:Nat):Int),.int .u8 ((X.getD (i*4+2) 0:Nat):Int),.int .u8 ((X.getD (i*4+3) 0:Nat):Int)]:=by
 have g:∀k,k<4->X.getD (i*4+k) 0=X[i*4+k]!:=fun k hk=>by rw[Zak,List.getElem!_eq_getElem?_getD];rfl
 apply Zbo;intro j;by_cases a:j<4
 ·rw[List.getElem?_take_of_lt a,ZbQ,QpY (by omega)];have:j=0\/j=1\/j=2\/j=3:=by omega
  rcases this with rfl|rfl|rfl|rfl<;>rfl
 rw[ZaA (by rw[Zas];omega),ZaA (by simp;omega)]
theorem Qbl(c:Cel):noRef (celV c)=true:=by rw[celV,noRef,noRefs,noRefs,noRefs,noRefs,noRefs,QpZ,QaB,QaB,Qbr,Qkb];rfl
theorem QdF{s:List UInt8}{a:Aut}:noRefs [.str s,sliN a.al,.int .i64 (a.n:Int),sliN a.ms,egsN a.es]=true:=by simp only[noRefs,noRef,Qab,Qaf];rfl
theorem Qaw{x y:List AV}(a:noRefs x=true)(b:noRefs y=true):noRefs (x++y)=true:=by rw[Qag,a,b];rfl
theorem Qp0{ch:UInt8}{i:Nat}{a:Aut}:List.flatMap (itC ch) [(i,a)]=[.str [ch,UInt8.ofNat (48+i)],sliN a.al,.int .i64 (a.n:Int),sliN a.ms,egsN a.es]:=rfl
theorem Qdz{ch:UInt8}(l:List (Nat×Aut)):(l.flatMap (itC ch)).length=l.length*5:=Qbb (k:=5) (fun _=>rfl) l
theorem Qq6{i:Nat}:pCs p (i+1)=pCs p i++[(i,pA p i)]:=by unfold pCs;rw[ZaI,ZaN];rfl
theorem Qq7{i:Nat}:pRs p (i+1)=pRs p i++[(i,pR p i)]:=by unfold pRs;rw[ZaI,ZaN];rfl
theorem QiU{i:Nat}:(pCs p i).length=i:=by simp[pCs]
theorem Qnz{i:Nat}:(pRs p i).length=i:=by simp[pRs]
theorem QnA:∀{i:Nat},pAll p i<32|0=>by show 0<32;decide|i+1=>Nat.or_lt_two_pow (n:=5) QnA (Nat.mod_lt _ (by decide))
end
theorem Qol(a:Nat):(ST.allV a).cells=[ST.allV a]:=by unfold ST.allV;split<;>rfl
theorem Qq8(a:Nat):(ST.allV a).one=true:=by unfold ST.allV;split<;>rfl
theorem QmD(a:Nat):noRefs [ST.allV a]=true:=by
 unfold ST.allV;split;·rfl
 simp only[noRefs,noRef,Qab];rfl
theorem Make26(p:Pln)(h:POk p):PSpec Tryz.prog 26 [plnV p] (celV (mkC p)):=by
 refine Zcb 40 ok26 rfl (by simp only[noRefs,noRef,Qfh];rfl) (Qbl _) ?_;have hlen:=QiS h;have J:=QiT h;have b:=@Qfh p;have h5:(plnC p).take 5=u8s (p.L.take 5):=by simpa using QlV h (k:=0) (m:=5) (by omega)
 have B:=events88 (p.L.take 5) (by rw[Zas,h.L];rfl) (fun i=>by rw[Zak];cases e:(p.L.take 5)[i]? with|none=>decide|some x=>exact h.L8 x (ZaU (Zae e)));rw[Qr6]at B;have n:∀{k},k<147->(plnC p)[k]?=some (.int .u8 ((p.L.getD k 0:Nat):Int)):=fun hk=>Qts h hk;have a5:=n (k:=5) (by omega);have Z:=n (k:=90) (by omega);have R:(plnC p)[147]?=some (.fsl (u8s p.X) p.xn 4):=QeL h (k:=0);have aF:∀i,i<3->(plnC p)[148+i]?=some (.int .i8 (pF p i)):=by
  intro i hi;have:i=0\/i=1\/i=2:=by omega
  rcases this with rfl|rfl|rfl;·exact QeL h (k:=1)
  ·exact QeL h (k:=2)
  exact QeL h (k:=3)
 have Q:(plnC p)[151]?=some (.int .i8 p.bd):=QeL h (k:=4);have G:∀{k},k+27<=147->((plnC p).drop k).take 27=_:=fun hk=>Qtt h hk;show wS _ _ _ _ _ (argT 0 [.agg (plnC p)]) _ _;generalize plnC p=C at*;have htm:((p.L.getD 5 0:Nat):Int).tmod 3=((p.L.getD 5 0%3:Nat):Int):=by rw[Zbg (Zbc _)];norm_cast
 have hn:(1:Int)+((p.L.getD 5 0%3:Nat):Int)=(pN p:Int):=by unfold pN;omega
 have hn3:=@pN_le p;unfold s26;refine ZcD (ZcJ hlen J h5) ?_;refine cp B ?_;refine ZcD (ZcJ a5 htm hn) ?_;refine Qat 100 (fun i:Nat=>[(1,.ptr 50 0 0),(2,.ptr 51 0 0),(3,.ptr 52 0 0),(4,.ptr 75 0 0),(5,.int .i64 (pN p:Int)),(26,.int .i64 (pN p:Int)),(27,.int .i64 i)]) (fun i=>[(50,.cells 0 C),(51,.cells 0 [.nilsl,.nilsl,.nilsl,.nilsl,.nilsl]),(52,.cells 0 [evsV (fun i=>evOf ((p.L.take 5).getD i 0)),.sl 76 0 0 (pCs p i).length 5,.nilsl,.nilsl,.nilsl]),(75,.cells 0 [ST.allV (pAll p i)]),(76,.cells 0 ((pCs p i).flatMap (itC 99)))]) (fun i=>i<=pN p) (fun i=>pN p-i) 0 0 200 (fun _:Unit=>[(1,.ptr 50 0 0),(2,.ptr 51 0 0),(3,.ptr 52 0 0),(4,.ptr 75 0 0),(5,.int .i64 (pN p:Int))]) (fun _=>[(50,.cells 0 C),(51,.cells 0 [.nilsl,.nilsl,.nilsl,.nilsl,.nilsl]),(52,.cells 0 [evsV (fun i=>evOf ((p.L.take 5).getD i 0)),its 99 (pCs p (pN p)),.nilsl,.nilsl,.nilsl]),(75,.cells 0 [sliN (ST.bitsL (pAll p (pN p)))])]) (fun _=>True) ?_ (Zaj _) ?_ ?_;·refine⟨[(50,.blk 40 0),(51,.blk 41 0),(52,.blk 46 0),(75,.blk 48 0),(76,.nil)],rfl,au0,?_,au17⟩;exact Zcj rfl rfl gg (Zca b) (Zcj rfl rfl gg (Zca rfl) (Zcj rfl rfl gg (Zcp (Zb9 rfl) (Zcp (Rn.x4 rfl rfl) (Zca rfl))) (Zcj rfl rfl gg (Zca rfl) (Zck rfl rfl Zci))))
 ·rintro i hi;by_cases c:i<pN p
  ·have f:(i:Int)<3:=by omega
   have V:=n (k:=6+i) (by omega);have hE:=events16 (p.L.getD (6+i) 0) (L_lt h _);have hU:=ST.union90 (a:=pAll p i) (b:=p.L.getD (6+i) 0) QnA;have hg:=G (k:=9+i*27) (by omega);have K:=graph91 (SD.part 5 (p.L.getD (6+i) 0)) (p.L.getD (9+i*27) 0) (p.L.getD (9+i*27+1) 0) ((p.L.drop (9+i*27+2)).take 25) (Qdn _ _) partLt (L_lt h _) (L_lt h _) (by rw[Zas,Za4,h.L];omega) (fun x hx=>h.L8 x (List.mem_of_mem_drop (ZaU hx)));have hA:mkA (SD.part 5 (p.L.getD (6+i) 0)) (p.L.getD (9+i*27) 0%3) (p.L.getD (9+i*27+1) 0) ((p.L.drop (9+i*27+2)).take 25)=pA p i:=rfl;rw[hA]at K;have hB:pAll p i|||p.L.getD (6+i) 0%32=pAll p (i+1):=rfl;rw[hB]at hU;have a:=@Qq6 p i;have l:=@Qdz 99 (pCs p i);have d:=@QiU p i;refine ZcD (ZcK c f V hlen) ?_;refine cp hE ?_;refine ZcC ?_;refine cp hU ?_;have w:=Qfg (i:=i) (by omega);have m:9+i*27+27<=152:=by omega
   refine ZcD (ZcP c f hlen w @Qd2 @Qol @Qq8 m hg) ?_;refine cp K ?_;refine ZcD (ZcI l d) ?_;refine⟨i+1,by omega,by omega,?_⟩;rw[a,Zaq,Zaf,d,Qp0];refine⟨[(50,.blk 50 0),(51,.blk 51 0),(52,.blk 52 0),(75,.blk 75 0),(76,.blk 76 1)],rfl,au0,?_,au17⟩;exact Zcj rfl rfl gg (Zca b) (Zcj rfl rfl gg (Zca rfl) (Zcj rfl rfl gg (Zcp (Zb9 rfl) (Zcp (Rn.x1 rfl rfl) (Zca rfl))) (Zcj rfl rfl gg (Zca (QmD _)) (Zcj rfl rfl gg (Zca (Qaw (Qbk _) QdF)) Zci))))
  have e:i=pN p:=by omega
  subst e;have l:=@Qdz 99 (pCs p (pN p));have d:=@QiU p (pN p);refine ZcD c ?_;refine⟨(),?_⟩;refine⟨[(50,.blk 50 0),(51,.blk 51 0),(52,.blk 52 0),(75,.blk 75 0)],rfl,au0,?_,au17⟩;refine Zcj rfl rfl gg (Zca b) (Zcj rfl rfl gg (Zca rfl) (Zcj rfl rfl gg (Zcp (Zb9 rfl) (Zcp (Zcq rfl rfl rfl rfl (Qdz _) (Zca (Qbk _))) (Zca rfl))) (Zcj rfl rfl gg (Zcp ?_ Zco) Zci)));unfold ST.allV;split;·rename_i g;rw[g];exact Rn.nilK
  exact Zb9 (Qaa _)
 rintro _ _;have u:((p.L.getD 90 0:Nat):Int).tmod 3=(pM p:Int):=by rw[Zbg (Zbc _)];unfold pM;norm_cast
 have hm2:=@pM_le p;refine ZcD (ZcI Z u) ?_;refine Qat 100 (fun i:Nat=>[(1,.ptr 50 0 0),(2,.ptr 51 0 0),(3,.ptr 52 0 0),(4,.ptr 75 0 0),(5,.int .i64 (pN p:Int)),(59,.int .i64 (pM p:Int)),(60,.int .i64 i)]) (fun i=>[(50,.cells 0 C),(51,.cells 0 [.nilsl,.nilsl,.nilsl,.nilsl,.nilsl]),(52,.cells 0 [evsV (fun i=>evOf ((p.L.take 5).getD i 0)),its 99 (pCs p (pN p)),.sl 77 0 0 (pRs p i).length 5,.nilsl,.nilsl]),(75,.cells 0 [sliN (ST.bitsL (pAll p (pN p)))]),(77,.cells 0 ((pRs p i).flatMap (itC 114)))]) (fun i=>i<=pM p) (fun i=>pM p-i) 0 2 200 (fun _:Unit=>[(1,.ptr 50 0 0),(2,.ptr 51 0 0),(3,.ptr 52 0 0),(5,.int .i64 (pN p:Int))]) (fun _=>[(50,.cells 0 C),(51,.cells 0 [.nilsl,.nilsl,.nilsl,.nilsl,.nilsl]),(52,.cells 0 [evsV (fun i=>evOf ((p.L.take 5).getD i 0)),its 99 (pCs p (pN p)),its 114 (pRs p (pM p)),.nilsl,.nilsl])]) (fun _=>True) ?_ (Zaj _) ?_ ?_;·refine⟨[(50,.blk 50 0),(51,.blk 51 0),(52,.blk 52 0),(75,.blk 75 0),(77,.nil)],rfl,au0,?_,au17⟩;exact Zcj rfl rfl gg (Zca b) (Zcj rfl rfl gg (Zca rfl) (Zcj rfl rfl gg (Zcp (Zb9 rfl) (Zcp (Zb9 (QaB _)) (Zcp (Rn.x4 rfl rfl) (Zca rfl)))) (Zcj rfl rfl gg (Zcp (Zb9 (Qaa _)) Zco) (Zck rfl rfl Zci))))
 ·rintro i hi;by_cases c:i<pM p
  ·have f:(i:Int)<2:=by omega
   have V:=n (k:=91+i) (by omega);have hE:=events89 (p.L.getD (91+i) 0) (L_lt h _);have hg:=G (k:=93+i*27) (by omega);have K:=graph91 (pW p i) (p.L.getD (93+i*27) 0) (p.L.getD (93+i*27+1) 0) ((p.L.drop (93+i*27+2)).take 25) (Qj9 _) (pW_lt _) (L_lt h _) (L_lt h _) (by rw[Zas,Za4,h.L];omega) (fun x hx=>h.L8 x (List.mem_of_mem_drop (ZaU hx)));have hA:mkA (pW p i) (p.L.getD (93+i*27) 0%3) (p.L.getD (93+i*27+1) 0) ((p.L.drop (93+i*27+2)).take 25)=pR p i:=rfl;rw[hA]at K;have a:=@Qq7 p i;have l:=@Qdz 114 (pRs p i);have d:=@Qnz p i;have w:=Qfg (i:=i) (by omega);have m:93+i*27+27<=152:=by omega
   have hW:fltN (ST.bitsL (pAll p (pN p))) (SD.part 5 (p.L.getD (91+i) 0))=pW p i:=Qr7;have U:(ST.bitsL (pAll p (pN p))).length<=1000000:=Zay (Qdf (i:=5)) (by decide);have M:(SD.part 5 (p.L.getD (91+i) 0)).length<=1000000:=Zay (Qdf (i:=5)) (by decide);generalize ST.bitsL (pAll p (pN p))=A at*;refine ZcD (ZcK c f V hlen) ?_;refine ch (HSpec.of_O (b:=98) (by(try simp only[noRefs,Qab,QaI,noRef,noRefs,Qaa,QaN,Zad,Zac])<;>rfl) hE (by repeat(first|exact Fresh.e|exact Fresh.le (by assumption) (by omega)|refine Fresh.set ?_ (by omega) (by omega))) rfl) ?_;refine ZcC ?_;refine chc (del40F U M gg gg) ?_;rw[hW];refine ZcD (ZcM c f hlen w m hg) ?_;refine cp K ?_;refine ZcD (ZcI l d) ?_;refine⟨i+1,by omega,by omega,?_⟩;rw[a,Zaq,Zaf,d,Qp0];refine⟨[(50,.blk 50 0),(51,.blk 51 0),(52,.blk 52 0),(75,.blk 75 0),(77,.blk 77 1)],rfl,au0,?_,au17⟩;exact Zcj rfl rfl gg (Zca b) (Zcj rfl rfl gg (Zca rfl) (Zcj rfl rfl gg (Zcp (Zb9 rfl) (Zcp (Zb9 (QaB _)) (Zcp (Rn.x1 rfl rfl) (Zca rfl)))) (Zcj rfl rfl gg (Zcp (Zb9 (Qaa _)) Zco) (Zcj rfl rfl gg (Zca (Qaw (Qbk _) QdF)) Zci))))
  have e:i=pM p:=by omega
  subst e;have l:=@Qdz 114 (pRs p (pM p));have d:=@Qnz p (pM p);refine ZcD c ?_;refine⟨(),?_⟩;refine⟨[(50,.blk 50 0),(51,.blk 51 0),(52,.blk 52 0)],rfl,au0,?_,au17⟩;exact Zcj rfl rfl gg (Zca b) (Zcj rfl rfl gg (Zca rfl) (Zcj rfl rfl gg (Zcp (Zb9 rfl) (Zcp (Zb9 (QaB _)) (Zcp (Zcq rfl rfl rfl rfl (Qdz _) (Zca (Qbk _))) (Zca rfl)))) Zci))
 rintro _ _;refine ZcD R ?_;refine Qat 100 (fun i:Nat=>[(1,.ptr 50 0 0),(2,.ptr 51 0 0),(3,.ptr 52 0 0),(5,.int .i64 (pN p:Int)),(89,.fsl (u8s p.X) p.xn 4),(90,.int .i64 (p.xn:Int)),(91,.int .i64 i)]) (fun i=>[(50,.cells 0 C),(51,.cells 0 [.nilsl,.nilsl,.nilsl,.nilsl,.nilsl]),(52,.cells 0 [evsV (fun i=>evOf ((p.L.take 5).getD i 0)),its 99 (pCs p (pN p)),its 114 (pRs p (pM p)),.sl 78 0 0 (pXs p i).length 2,.nilsl]),(78,.cells 0 ((pXs p i).flatMap exC))]) (fun i=>i<=p.xn/\i<=2) (fun i=>p.xn-i) 0 4 200 (fun _:Unit=>[(1,.ptr 50 0 0),(2,.ptr 51 0 0),(3,.ptr 52 0 0),(5,.int .i64 (pN p:Int))]) (fun _=>[(50,.cells 0 C),(51,.cells 0 [.nilsl,.nilsl,.nilsl,.nilsl,.nilsl]),(52,.cells 0 [evsV (fun i=>evOf ((p.L.take 5).getD i 0)),its 99 (pCs p (pN p)),its 114 (pRs p (pM p)),exs (pXs p (min p.xn 2)),.nilsl])]) (fun _=>True) ?_ ⟨Zaj _,Zaj _⟩ ?_ ?_;·refine⟨[(50,.blk 50 0),(51,.blk 51 0),(52,.blk 52 0),(78,.nil)],rfl,au0,?_,au17⟩;exact Zcj rfl rfl gg (Zca b) (Zcj rfl rfl gg (Zca rfl) (Zcj rfl rfl gg (Zcp (Zb9 rfl) (Zcp (Zb9 (QaB _)) (Zcp (Zb9 (QaB _)) (Zcp (Rn.x4 rfl rfl) (Zca rfl))))) (Zck rfl rfl Zci)))
 ·rintro i⟨hi,hi2⟩;have z:=@Qef (pXs p i);have hxx:=@QiP p i;by_cases c:i<p.xn
  ·have hX:=h.X;have h4:=Qr8 (X:=p.X) (i:=i) (by omega);have hul:i*4+4<=(u8s p.X).length:=by rw[QcI,hX];omega
   have O:4<=((u8s p.X).drop (i*4)).length:=by rw[Za4];omega
   by_cases h2:i=2
   ·subst h2;have F:(2:Int)<(p.xn:Int):=by omega
    refine ZcD (ZcK c h4 O F) ?_;refine⟨(),?_⟩;rw[show min p.xn 2=2 by omega];refine⟨[(50,.blk 50 0),(51,.blk 51 0),(52,.blk 52 0)],rfl,au0,?_,au17⟩;exact Zcj rfl rfl gg (Zca b) (Zcj rfl rfl gg (Zca rfl) (Zcj rfl rfl gg (Zcp (Zb9 rfl) (Zcp (Zb9 (QaB _)) (Zcp (Zb9 (QaB _)) (Zcp (Zcq rfl rfl rfl rfl (Qef _) (Zca (Qba _))) (Zca rfl))))) Zci))
   have T:¬(i:Int)=2:=by omega
   have w:=Qfg (i:=i) (by omega);refine ZcD (ZcL c h4 O T w) ?_;obtain⟨Y,v⟩:∃Y,Y=[AV.int .u8 ((p.X.getD (i*4) 0:Nat):Int),.int .u8 ((p.X.getD (i*4+1) 0:Nat):Int),.int .u8 ((p.X.getD (i*4+2) 0:Nat):Int),.int .u8 ((p.X.getD (i*4+3) 0:Nat):Int)]:=⟨_,rfl⟩;have t:noRefs Y=true:=by rw[v];rfl
   have hYk:∀k,k<3->Y[k]?=some (.int .u8 ((p.X.getD (i*4+k) 0:Nat):Int)):=by
    intro k hk;have:k=0\/k=1\/k=2:=by omega
    rcases this with rfl|rfl|rfl<;>rw[v]<;>rfl
   have d:=@QiU p (pN p);have hilC:=@Qdz 99 (pCs p (pN p));rw[<-v,d];refine Qat 220 (fun k:Nat=>[(1,.ptr 50 0 0),(2,.ptr 51 0 0),(3,.ptr 52 0 0),(5,.int .i64 (pN p:Int)),(11,.ptr 60 0 0),(12,.ptr 61 0 0),(89,.fsl (u8s p.X) p.xn 4),(90,.int .i64 (p.xn:Int)),(91,.int .i64 i),(106,.int .i64 (pN p:Int)),(107,.int .i64 k)]) (fun k=>[(50,.cells 0 C),(51,.cells 0 [.nilsl,.nilsl,.nilsl,.nilsl,.nilsl]),(52,.cells 0 [evsV (fun i=>evOf ((p.L.take 5).getD i 0)),its 99 (pCs p (pN p)),its 114 (pRs p (pM p)),.sl 78 0 0 (pXs p i).length 2,.nilsl]),(60,.cells 0 Y),(61,.cells 0 [.str [101,UInt8.ofNat (48+i)],.sl 79 0 0 (pLo p i k).length 2]),(78,.cells 0 ((pXs p i).flatMap exC)),(79,.cells 0 ((pLo p i k).flatMap loC))]) (fun k=>k<=pN p) (fun k=>pN p-k) 0 6 300 (fun _:Unit=>[(1,.ptr 50 0 0),(2,.ptr 51 0 0),(3,.ptr 52 0 0),(5,.int .i64 (pN p:Int)),(12,.ptr 61 0 0),(89,.fsl (u8s p.X) p.xn 4),(90,.int .i64 (p.xn:Int)),(91,.int .i64 i)]) (fun _=>[(50,.cells 0 C),(51,.cells 0 [.nilsl,.nilsl,.nilsl,.nilsl,.nilsl]),(52,.cells 0 [evsV (fun i=>evOf ((p.L.take 5).getD i 0)),its 99 (pCs p (pN p)),its 114 (pRs p (pM p)),.sl 78 0 0 (pXs p i).length 2,.nilsl]),(61,.cells 0 [.str [101,UInt8.ofNat (48+i)],los (pLo p i (pN p))]),(78,.cells 0 ((pXs p i).flatMap exC))]) (fun _=>True) ?_ (Zaj _) ?_ ?_;·refine⟨[(50,.blk 50 0),(51,.blk 51 0),(52,.blk 52 0),(60,.blk 104 0),(61,.blk 115 0),(78,.blk 78 0),(79,.nil)],rfl,au0,?_,au17⟩;exact Zcj rfl rfl gg (Zca b) (Zcj rfl rfl gg (Zca rfl) (Zcj rfl rfl gg (Zcp (Zb9 rfl) (Zcp (Zb9 (QaB _)) (Zcp (Zb9 (QaB _)) (Zcp (Rn.x1 rfl rfl) (Zca rfl))))) (Zcj rfl rfl gg (Zca t) (Zcj rfl rfl gg (Zcp (Zb9 rfl) (Zcp (Rn.x4 rfl rfl) Zco)) (Zcj rfl rfl gg (Zca (Qba _)) (Zck rfl rfl Zci))))))
   ·rintro k hk;have E:=@Qgc (pLo p i k);have X:=@QiQ p i k;by_cases o:k<pN p
    ·have P:(k:Int)<4:=by omega
     have hck:=QpR (p:=p) o;have r:=Qdj (ch:=99) hck;have q:5<=(((pCs p (pN p)).flatMap (itC 99)).drop (k*5)).length:=by rw[r];simp
     have hy:=hYk k (by omega);have hx8:=X_lt h (i*4+k);have hn5:(pA p k).n<=3:=(pA_wf k).n3;have L:((p.X.getD (i*4+k) 0:Nat):Int).tmod (((pA p k).n:Int)+2)=((p.X.getD (i*4+k) 0%((pA p k).n+2):Nat):Int):=by rw[Zbg (Zbc _)];norm_cast
     have H:¬((pA p k).n:Int)+2=0:=by omega
     have hxm:p.X.getD (i*4+k) 0%((pA p k).n+2)<=10:=by have:=Nat.mod_lt (p.X.getD (i*4+k) 0) (show 0<(pA p k).n+2 by omega);omega
     have a:pLo p i (k+1)=if p.X.getD (i*4+k) 0%((pA p k).n+2)<(pA p k).n then pLo p i k++[(k,p.X.getD (i*4+k) 0%((pA p k).n+2))]else pLo p i k:=rfl;by_cases S:p.X.getD (i*4+k) 0%((pA p k).n+2)<(pA p k).n;·rw[if_pos S]at a;have y:List.flatMap loC [(k,p.X.getD (i*4+k) 0%((pA p k).n+2))]=[.int .i64 (k:Int),.int .i64 ((p.X.getD (i*4+k) 0%((pA p k).n+2):Nat):Int)]:=rfl;refine ZcD (ZcP o P r q hy L H S E) ?_;refine⟨k+1,by omega,by omega,?_⟩;rw[a,Zaq,Zaf,y];refine⟨[(50,.blk 50 0),(51,.blk 51 0),(52,.blk 52 0),(60,.blk 60 0),(61,.blk 61 0),(78,.blk 78 0),(79,.blk 79 1)],rfl,au0,?_,au17⟩;exact Zcj rfl rfl gg (Zca b) (Zcj rfl rfl gg (Zca rfl) (Zcj rfl rfl gg (Zcp (Zb9 rfl) (Zcp (Zb9 (QaB _)) (Zcp (Zb9 (QaB _)) (Zcp (Rn.x1 rfl rfl) (Zca rfl))))) (Zcj rfl rfl gg (Zca t) (Zcj rfl rfl gg (Zcp (Zb9 rfl) (Zcp (Rn.x1 rfl rfl) Zco)) (Zcj rfl rfl gg (Zca (Qba _)) (Zcj rfl rfl gg (Zca (Qaw (Qbg _) rfl)) Zci))))))
     rw[if_neg S]at a;refine ZcD (ZcP o P r q hy L H S E) ?_;refine⟨k+1,by omega,by omega,?_⟩;rw[a];refine⟨[(50,.blk 50 0),(51,.blk 51 0),(52,.blk 52 0),(60,.blk 60 0),(61,.blk 61 0),(78,.blk 78 0),(79,.blk 79 0)],rfl,au0,?_,au17⟩;exact Zcj rfl rfl gg (Zca b) (Zcj rfl rfl gg (Zca rfl) (Zcj rfl rfl gg (Zcp (Zb9 rfl) (Zcp (Zb9 (QaB _)) (Zcp (Zb9 (QaB _)) (Zcp (Rn.x1 rfl rfl) (Zca rfl))))) (Zcj rfl rfl gg (Zca t) (Zcj rfl rfl gg (Zcp (Zb9 rfl) (Zcp (Rn.x1 rfl rfl) Zco)) (Zcj rfl rfl gg (Zca (Qba _)) (Zcj rfl rfl gg (Zca (Qbg _)) Zci))))))
    have e:k=pN p:=by omega
    subst e;refine ZcD o ?_;refine⟨(),?_⟩;refine⟨[(50,.blk 50 0),(51,.blk 51 0),(52,.blk 52 0),(61,.blk 61 0),(78,.blk 78 0)],rfl,au0,?_,au17⟩;exact Zcj rfl rfl gg (Zca b) (Zcj rfl rfl gg (Zca rfl) (Zcj rfl rfl gg (Zcp (Zb9 rfl) (Zcp (Zb9 (QaB _)) (Zcp (Zb9 (QaB _)) (Zcp (Rn.x1 rfl rfl) (Zca rfl))))) (Zcj rfl rfl gg (Zcp (Zb9 rfl) (Zcp (Zcq rfl rfl rfl rfl (Qgc _) (Zca (Qbg _))) Zco)) (Zcj rfl rfl gg (Zca (Qba _)) Zci))))
   rintro _ _;have a:pXs p (i+1)=if 0<(pLo p i (pN p)).length then pXs p i++[(i,pLo p i (pN p))]else pXs p i:=rfl;have X:=@QiQ p i (pN p);by_cases g:0<(pLo p i (pN p)).length;·rw[if_pos g]at a;have I:List.flatMap exC [(i,pLo p i (pN p))]=[.str [101,UInt8.ofNat (48+i)],los (pLo p i (pN p))]:=rfl;refine ZcD (ZcI g z) ?_;refine⟨i+1,by omega,⟨by omega,by omega⟩,?_⟩;rw[a,Zaq,Zaf,I];refine⟨[(50,.blk 50 0),(51,.blk 51 0),(52,.blk 52 0),(78,.blk 78 1)],rfl,au0,?_,au17⟩;exact Zcj rfl rfl gg (Zca b) (Zcj rfl rfl gg (Zca rfl) (Zcj rfl rfl gg (Zcp (Zb9 rfl) (Zcp (Zb9 (QaB _)) (Zcp (Zb9 (QaB _)) (Zcp (Rn.x1 rfl rfl) (Zca rfl))))) (Zcj rfl rfl gg (Zca (Qaw (Qba _) (by simp only[noRefs,noRef,Qbg];rfl))) Zci)))
   rw[if_neg g]at a;refine ZcD (ZcI g z) ?_;refine⟨i+1,by omega,⟨by omega,by omega⟩,?_⟩;rw[a];refine⟨[(50,.blk 50 0),(51,.blk 51 0),(52,.blk 52 0),(78,.blk 78 0)],rfl,au0,?_,au17⟩;exact Zcj rfl rfl gg (Zca b) (Zcj rfl rfl gg (Zca rfl) (Zcj rfl rfl gg (Zcp (Zb9 rfl) (Zcp (Zb9 (QaB _)) (Zcp (Zb9 (QaB _)) (Zcp (Rn.x1 rfl rfl) (Zca rfl))))) (Zcj rfl rfl gg (Zca (Qba _)) Zci)))
  have e:i=p.xn:=by omega
  subst e;refine ZcD c ?_;refine⟨(),?_⟩;rw[show min p.xn 2=p.xn by omega];refine⟨[(50,.blk 50 0),(51,.blk 51 0),(52,.blk 52 0)],rfl,au0,?_,au17⟩;exact Zcj rfl rfl gg (Zca b) (Zcj rfl rfl gg (Zca rfl) (Zcj rfl rfl gg (Zcp (Zb9 rfl) (Zcp (Zb9 (QaB _)) (Zcp (Zb9 (QaB _)) (Zcp (Zcq rfl rfl rfl rfl (Qef _) (Zca (Qba _))) (Zca rfl))))) Zci))
 rintro _ _;have hb1:=Int.lt_tmod_of_pos p.bd (show(0:Int)<8 by decide);have hb2:=Int.tmod_lt_of_pos p.bd (show(0:Int)<8 by decide);have hbd:=h.bd;have hf0:=h.f0;have hf1:=h.f1;have hf2:=h.f2;refine ZcD Q ?_;refine Qat 240 (fun i:Nat=>[(1,.ptr 50 0 0),(2,.ptr 51 0 0),(3,.ptr 52 0 0),(15,.ptr 62 0 0),(157,.int .i64 (pN p:Int)),(158,.int .i64 i)]) (fun i=>[(50,.cells 0 C),(51,.cells 0 [.nilsl,.nilsl,.nilsl,.nilsl,.nilsl]),(52,.cells 0 [evsV (fun i=>evOf ((p.L.take 5).getD i 0)),its 99 (pCs p (pN p)),its 114 (pRs p (pM p)),exs (pXs p (min p.xn 2)),.nilsl]),(62,.cells 0 [.str [107],.sl 97 0 0 (pT p i).length 2,.int .i64 (p.bd.tmod 8)]),(97,.cells 0 ((pT p i).flatMap teC))]) (fun i=>i<=pN p) (fun i=>pN p-i) 0 8 300 (fun _:Unit=>[(2,.ptr 51 0 0),(3,.ptr 52 0 0),(15,.ptr 62 0 0)]) (fun _=>[(51,.cells 0 [.nilsl,.nilsl,.nilsl,.nilsl,.nilsl]),(52,.cells 0 [evsV (fun i=>evOf ((p.L.take 5).getD i 0)),its 99 (pCs p (pN p)),its 114 (pRs p (pM p)),exs (pXs p (min p.xn 2)),.nilsl]),(62,.cells 0 [.str [107],.sl 97 0 0 (pT p (pN p)).length 2,.int .i64 (p.bd.tmod 8)]),(97,.cells 0 ((pT p (pN p)).flatMap teC))]) (fun _=>True) ?_ (Zaj _) ?_ ?_;·refine⟨[(50,.blk 50 0),(51,.blk 51 0),(52,.blk 52 0),(62,.blk 205 0),(97,.nil)],rfl,au0,?_,au17⟩;exact Zcj rfl rfl gg (Zca b) (Zcj rfl rfl gg (Zca rfl) (Zcj rfl rfl gg (Zcp (Zb9 rfl) (Zcp (Zb9 (QaB _)) (Zcp (Zb9 (QaB _)) (Zcp (Zb9 (Qbr _)) (Zca rfl))))) (Zcj rfl rfl gg (Zcp (Zb9 rfl) (Zcp (Rn.x4 rfl rfl) (Zca rfl))) (Zck rfl rfl Zci))))
 ·rintro i hi;have htl:=@QcT (pT p i);have htx:=@QlT p i;by_cases c:i<pN p
  ·have f:(i:Int)<3:=by omega
   have ha:=aF i (by omega);have hFb:-128<=pF p i/\pF p i<128:=pF_lt h i;have a:pT p (i+1)=if pF p i=0 then pT p i else pT p i++[(i,(pF p i).tmod 4)]:=rfl;by_cases g:pF p i=0;·rw[if_pos g]at a;refine ZcD (ZcL c f hlen ha g) ?_;refine⟨i+1,by omega,by omega,?_⟩;rw[a];refine⟨[(50,.blk 50 0),(51,.blk 51 0),(52,.blk 52 0),(62,.blk 62 0),(97,.blk 97 0)],rfl,au0,?_,au17⟩;exact Zcj rfl rfl gg (Zca b) (Zcj rfl rfl gg (Zca rfl) (Zcj rfl rfl gg (Zcp (Zb9 rfl) (Zcp (Zb9 (QaB _)) (Zcp (Zb9 (QaB _)) (Zcp (Zb9 (Qbr _)) (Zca rfl))))) (Zcj rfl rfl gg (Zcp (Zb9 rfl) (Zcp (Rn.x1 rfl rfl) (Zca rfl))) (Zcj rfl rfl gg (Zca (QaN _)) Zci))))
   rw[if_neg g]at a;have N:List.flatMap teC [(i,(pF p i).tmod 4)]=[.int .i64 (i:Int),.int .i64 ((pF p i).tmod 4)]:=rfl;refine ZcD (ZcM c f hlen ha g htl) ?_;refine⟨i+1,by omega,by omega,?_⟩;rw[a,Zaq,Zaf,N];refine⟨[(50,.blk 50 0),(51,.blk 51 0),(52,.blk 52 0),(62,.blk 62 0),(97,.blk 97 1)],rfl,au0,?_,au17⟩;exact Zcj rfl rfl gg (Zca b) (Zcj rfl rfl gg (Zca rfl) (Zcj rfl rfl gg (Zcp (Zb9 rfl) (Zcp (Zb9 (QaB _)) (Zcp (Zb9 (QaB _)) (Zcp (Zb9 (Qbr _)) (Zca rfl))))) (Zcj rfl rfl gg (Zcp (Zb9 rfl) (Zcp (Rn.x1 rfl rfl) (Zca rfl))) (Zcj rfl rfl gg (Zca (Qaw (QaN _) rfl)) Zci))))
  have e:i=pN p:=by omega
  subst e;refine ZcD c ?_;refine⟨(),?_⟩;refine⟨[(51,.blk 51 0),(52,.blk 52 0),(62,.blk 62 0),(97,.blk 97 0)],rfl,au0,?_,au17⟩;exact Zcj rfl rfl gg (Zca rfl) (Zcj rfl rfl gg (Zcp (Zb9 rfl) (Zcp (Zb9 (QaB _)) (Zcp (Zb9 (QaB _)) (Zcp (Zb9 (Qbr _)) (Zca rfl))))) (Zcj rfl rfl gg (Zcp (Zb9 rfl) (Zcp (Rn.x1 rfl rfl) (Zca rfl))) (Zcj rfl rfl gg (Zca (QaN _)) Zci)))
 rintro _ _;have hT0:flt0 (pT p (pN p))=pT0 p:=rfl;have hpt:=@QlT p (pN p);refine ZcC ?_;refine chc (del93F (l:=pT p (pN p)) (by omega) gg) ?_;rw[hT0];have htl0:(pT0 p).length<=3:=Zay (Za3 _ _) (by omega);by_cases g:0<(pT0 p).length;·have s:pKs p=[(pT0 p,p.bd.tmod 8)]:=if_pos g;refine ZcD g ?_;refine⟨.inr trivial,_,rfl,?_⟩;refine Rn.agg (Zcp (Zb9 rfl) (Zcp (Zb9 (QaB _)) (Zcp (Zb9 (QaB _)) (Zcp (Zb9 (Qbr _)) (Zcp ?_ Zco)))));show Rn 0 π0 _ (cos (pKs p)) _;rw[s];exact Rn.fz0 (b:=310) rfl rfl (Zcp (Zb9 rfl) (Zcp (Zb9 (Qcj _)) (Zcp (Zb9 rfl) Zco)))
 have s:pKs p=[]:=if_neg g;refine ZcD g ?_;refine⟨.inr trivial,_,rfl,?_⟩;refine Rn.agg (Zcp (Zb9 rfl) (Zcp (Zb9 (QaB _)) (Zcp (Zb9 (QaB _)) (Zcp (Zb9 (Qbr _)) (Zcp ?_ Zco)))));show Rn 0 π0 _ (cos (pKs p)) _;rw[s];exact Rn.nilK
end Go.AM.SU
namespace Go.AM.SN
open Go.Proofs Go.AM.SD Go.AM.SE Go.AM.SO
noncomputable section
def is0:AV->Bool|.int .i64 n=>decide (n=0)|_=>false
theorem Qtu:∀u,is0 u=true->u=.int .i64 0:=by intro u h;unfold is0 at h;grind
def nameR(s:List UInt8)(f:Nat)(X K:AV)(i:Int):Bool:=callR ansB noOrc SK.ft.get (exR ansB noOrc SK.ft.get 1000) (.c .pure) 102 [.str s,.fn f [] [.fptr [.any,X,K],.fptr [.int .i64 i]]] .e 64 (fun u _ _=>is0 u)
theorem Qq9{s:List UInt8}{f:Nat}{X K:AV}{i:Int}(h:nameR s f X K i=true):PSpec Tryz.prog 102 [.str s,.fn f [] [.fptr [.any,X,K],.fptr [.int .i64 i]]] (.int .i64 0):=QbJ (t:=SK.ft) SK.ft_ok Qc7 (d:=1000) is0 Qtu h
theorem e0_1:nameR [101,48] 101 (.fsl [.str [101,48],.any] 1 2) .any 0=true:=by kernel_rfl
theorem e1_1:nameR [101,49] 101 (.fsl [.str [101,49],.any] 1 2) .any 0=true:=by kernel_rfl
theorem e0_2:nameR [101,48] 101 (.fsl [.str [101,48],.any,.str [101,49],.any] 2 2) .any 0=true:=by kernel_rfl
theorem e1_2a:nameR [101,49] 101 (.fsl [.str [101,48],.fsl [.any,.any] 1 2,.str [101,49],.any] 2 2) .any 1=true:=by kernel_rfl
theorem e1_2b:nameR [101,49] 101 (.fsl [.str [101,48],.fsl [.any,.any,.any,.any] 2 2,.str [101,49],.any] 2 2) .any 1=true:=by kernel_rfl
theorem e1_2c:nameR [101,49] 101 (.fsl [.str [101,48],.fsl [.any,.any,.any,.any,.any,.any] 3 2,.str [101,49],.any] 2 2) .any 1=true:=by kernel_rfl
theorem k_1:nameR [107] 104 .any (.fsl [.str [107],.any,.any] 1 3) 0=true:=by kernel_rfl
def Wk(x y:AV):Prop:=∀(ok:Okc)(c:Ctx ok)(w:World)(v:Value),VRel c w x v->VRel c w y v
def WkL:List AV->List AV->Prop|[],[]=>True|x::xs,y::a=>Wk x y/\WkL xs a|_,_=>False
theorem Wk.refl(x:AV):Wk x x:=fun _ _ _ _ h=>h
theorem Wk.any{x:AV}:Wk x .any:=fun _ _ _ _ _=>by simp[VRel]
theorem WkL.rels{ok:Okc}{c:Ctx ok}{w:World}:∀{xs ys:List AV}{vs:List Value},WkL xs ys->VRels c w xs vs->VRels c w ys vs|[],[],_,_,a=>a|[],_::_,_,h,_=>h.elim|_::_,[],_,h,_=>h.elim|x::xs,y::ys,vs,h,a=>by simp only[VRels]at a⊢;obtain⟨v,b,rfl,h1,d⟩:=a;exact⟨v,b,rfl,h.1 _ c w v h1,WkL.rels h.2 d⟩
theorem WkL.pre{ok:Okc}{c:Ctx ok}{w:World}:∀{xs ys:List AV}{vs:List Value},WkL xs ys->VPre c w xs vs->VPre c w ys vs|[],[],_,_,a=>a|[],_::_,_,h,_=>h.elim|_::_,[],_,h,_=>h.elim|x::xs,y::ys,vs,h,a=>by simp only[VPre]at a⊢;obtain⟨v,b,rfl,h1,d⟩:=a;exact⟨v,b,rfl,h.1 _ c w v h1,WkL.pre h.2 d⟩
theorem WkL.length:∀{xs ys:List AV},WkL xs ys->xs.length=ys.length|[],[],_=>rfl|[],_::_,h=>h.elim|_::_,[],h=>h.elim|x::xs,y::ys,h=>by simp[WkL.length h.2]
theorem Wk.fsl{cs ds:List AV}{len sz:Nat}(h:WkL cs ds):Wk (.fsl cs len sz) (.fsl ds len sz):=fun _ c w v b=>by
 simp only[VRel]at b⊢;have m:=h.length;rcases b with⟨h1,rfl,a⟩|⟨k,off,cap,C,e,g,h1,a,l,f,d,i⟩;·grind
 exact .inr ⟨k,off,cap,C,e,g,h1,a,by omega,f,d,h.pre i⟩
theorem Wk.fptr{cs ds:List AV}(h:WkL cs ds):Wk (.fptr cs) (.fptr ds):=fun _ c w v a=>by simp only[VRel]at a⊢;obtain⟨d,off,C,e,b,h1,i,f,g⟩:=a;exact⟨d,off,C,e,b,h1,i,f,h.pre g⟩
theorem Wk.fn{f:Nat}{xs ys us vs:List AV}(h1:WkL xs ys)(g:WkL us vs):Wk (.fn f xs us) (.fn f ys vs):=fun _ c w v a=>by simp only[VRel]at a⊢;obtain⟨d,b,rfl,g1,g2⟩:=a;exact⟨d,b,rfl,h1.rels g1,g.rels g2⟩
theorem PSpec.wk{f:Nat}{args bs:List AV}{v:AV}(a:WkL args bs)(b:noRefs args=true)(hp:PSpec Tryz.prog f bs v):PSpec Tryz.prog f args v:=SE.PSpec.weak (fun _ c w d _ h=>a.rels h) b hp
theorem nameW{s:List UInt8}{f:Nat}{S X K X' K':AV}{i:Int}(h:nameR s f X' K' i=true)(b:Wk X X')(a:Wk K K')(c:noRefs [S,X,K]=true):PSpec Tryz.prog 102 [.str s,.fn f [] [.fptr [S,X,K],.fptr [.int .i64 i]]] (.int .i64 0):=by refine PSpec.wk (bs:=[.str s,.fn f [] [.fptr [.any,X',K'],.fptr [.int .i64 i]]]) ⟨Wk.refl _,Wk.fn trivial ⟨Wk.fptr ⟨Wk.any,b,a,trivial⟩,Wk.refl _,trivial⟩,trivial⟩ ?_ (Qq9 h);simp_all[noRefs,noRef]
theorem nameX{S K:AV}{xs:List (Nat×List (Nat×Nat))}{i:Nat}{x:Nat×List (Nat×Nat)}(c:xs[i]?=some x)(m:xs.length<=2)(s:(xs.map (·.1)).Pairwise (·<·))(k:∀x∈xs,x.1<2)(g:∀x∈xs,x.2≠[]/\x.2.length<=3)(d:noRefs [S,exs xs,K]=true):PSpec Tryz.prog 102 [.str [101,UInt8.ofNat (48+x.1)],.fn 101 [] [.fptr [S,exs xs,K],.fptr [.int .i64 (i:Int)]]] (.int .i64 0):=by match xs,m with
 |[],_=>simp at c|[(a,f)],_=>
  have hi:i=0:=by grind
  subst hi;simp at c;subst c;have l:=k (a,f) (by simp);have:a=0\/a=1:=by omega
  rcases this with rfl|rfl;·exact nameW e0_1 (Wk.fsl ⟨Wk.refl _,Wk.any,trivial⟩) Wk.any d
  ·exact nameW e1_1 (Wk.fsl ⟨Wk.refl _,Wk.any,trivial⟩) Wk.any d|[(a,f),(b,o)],_=>
  have l:=k (a,f) (by simp);have u:=k (b,o) (by simp);have n:a<b:=by simpa using s
  dsimp only at l u;obtain rfl:a=0:=by omega
  obtain rfl:b=1:=by omega
  have hi:i=0\/i=1:=by grind
  rcases hi with rfl|rfl;·simp at c;subst c;exact nameW e0_2 (Wk.fsl ⟨Wk.refl _,Wk.any,Wk.refl _,Wk.any,trivial⟩) Wk.any d
  ·simp at c;subst c;obtain⟨v,t⟩:=g (0,f) (by simp);match f,v,t with|[],h,_=>exact absurd rfl h|[p],_,_=>exact nameW e1_2a (Wk.fsl ⟨Wk.refl _,Wk.fsl ⟨Wk.any,Wk.any,trivial⟩,Wk.refl _,Wk.any,trivial⟩) Wk.any d|[p,q],_,_=>exact nameW e1_2b (Wk.fsl ⟨Wk.refl _,Wk.fsl ⟨Wk.any,Wk.any,Wk.any,Wk.any,trivial⟩,Wk.refl _,Wk.any,trivial⟩) Wk.any d|[p,q,r],_,_=>exact nameW e1_2c (Wk.fsl ⟨Wk.refl _,Wk.fsl ⟨Wk.any,Wk.any,Wk.any,Wk.any,Wk.any,Wk.any,trivial⟩,Wk.refl _,Wk.any,trivial⟩) Wk.any d
theorem nameK{S X:AV}{ks:List (List (Nat×Int)×Int)}{x:List (Nat×Int)×Int}(b:ks=[x])(a:noRefs [S,X,cos ks]=true):PSpec Tryz.prog 102 [.str [107],.fn 104 [] [.fptr [S,X,cos ks],.fptr [.int .i64 0]]] (.int .i64 0):=by subst b;exact nameW k_1 Wk.any (Wk.fsl ⟨Wk.refl _,Wk.any,Wk.any,trivial⟩) a
end
end Go.AM.SN
namespace Go.AM.SO
open Go.Proofs Go.AM.SD Go.AM.SE
theorem great190(n:Int)(h1:-65536<=n)(a:n<=65536):PSpec Tryz.prog 190 [.int .i64 n] (.bool false):=by
 refine Zcc 64 ok190 rfl rfl rfl ?_;have g1:¬n< -65536:=by omega
 have g2:¬65536<n:=by omega
 unfold s190;refine Zcz (ZcI g1 g2) ?_;exact⟨.inr trivial,_,rfl,rfl⟩
abbrev cdC(S:List Nat)(xs:List (Nat×List (Nat×Nat)))(ks:List (List (Nat×Int)×Int)):List AV:=[sliN S,exs xs,cos ks]
abbrev cdV(S:List Nat)(xs:List (Nat×List (Nat×Nat)))(ks:List (List (Nat×Int)×Int)):AV:=.agg (cdC S xs ks)
theorem QbP{S:List Nat}{xs:List (Nat×List (Nat×Nat))}{ks:List (List (Nat×Int)×Int)}:noRefs (cdC S xs ks)=true:=by rw[cdC,noRefs,noRefs,noRefs,Qaa,SU.Qbr,SU.Qkb];rfl
theorem QiV{l:List (Nat×Nat)}{i:Nat}{x:Nat×Nat}(h:l[i]?=some x):(l.flatMap loC).drop (i*2)=.int .i64 (x.1:Int)::.int .i64 (x.2:Int)::(l.drop (i+1)).flatMap loC:=Qbf (f:=loC) (k:=2) (fun _=>rfl) h
theorem pw_at{l:List Nat}(h:l.Pairwise (·<·)){i:Nat}{x y:Nat}(b:l[i]?=some x)(a:l[i+1]?=some y):x<y:=by
 have hi:i+1<l.length:=by
  rcases Zbu (i+1) l.length with h|h;·exact h
  rw[ZaA h]at a;cases a
 rw[Zal (by omega)]at b;rw[Zal hi]at a;cases b;cases a;exact Za7.1 h i (i+1) (by omega) hi (Nat.lt_succ_self _)
theorem _root_.Go.AM.au18{p:Prop}(h:p:=by repeat(first|exact Zcg|(refine Zch ?_ ?_;·(first|exact Rn.any|exact Rn.x1 rfl rfl|exact Rn.x2 rfl rfl|exact Rn.x3 rfl rfl|exact Rn.x4 rfl rfl|exact Rn.x5 rfl|exact Rn.x6 rfl|exact Rn.x7 rfl|(refine Rn.slot ?_ ?_;(first|rfl|(rw[ZaO];rfl));(first|rfl|(simp only[noRef,noRefs,Qag,Zad,Zac,Zah,Qab,Qan,Qaa,SU.Qbg,SU.QaN,SU.Qbk,SU.Qba,SU.QcJ];done)))|(refine Rn.fn ?_ ?_<;>(repeat'(first|exact Zco|refine Zcp ?_ ?_|exact Zb9 rfl|exact Rn.x6 rfl|exact Rn.x2 rfl rfl|exact Rn.x5 rfl|exact Rn.x1 rfl rfl))))))):p:=h
theorem excl103(S:List Nat)(xs:List (Nat×List (Nat×Nat)))(ks:List (List (Nat×Int)×Int))(x:Nat×List (Nat×Nat))(hS:S.length<=8)(A:∀s∈S,s<=4096)(Q:x.2.length<=1000)(r:x.2≠[])(hp:(x.2.map (·.1)).Pairwise (·<·))(H:∀l∈x.2,∃n,S[l.1]?=some n/\l.2<n):PSpec Tryz.prog 103 [cdV S xs ks,.agg (exC x)] (.int .i64 0):=by
 obtain⟨t,l⟩:=x;dsimp only at Q r hp H;have hex:exC (t,l)=[.str [101,UInt8.ofNat (48+t)],los l]:=rfl;rw[hex];have a:=@QbP S xs ks;have b:noRefs [.str [101,UInt8.ofNat (48+t)],los l]=true:=by rw[noRefs,noRefs,SU.Qb1];rfl
 refine Zcc 64 ok103 rfl (by rw[noRefs,noRefs,noRef,noRef,a,b];rfl) rfl ?_;have u:¬(l.length:Int)=0:=by have:=List.length_pos_iff.2 r;omega
 have K:=SU.Qgc l;unfold s103;refine Zcz u ?_;refine QaO 100 (fun i:Nat=>[(2,.ptr 50 0 0),(3,.ptr 51 0 0),(12,los l),(13,.int .i64 l.length),(14,.int .i64 i)]) (fun _=>[(50,.cells 0 (cdC S xs ks)),(51,.cells 0 [.str [101,UInt8.ofNat (48+t)],los l])]) (fun i=>i<=l.length) (fun i=>l.length-i) 0 ⟨[(50,.blk 64 0),(51,.blk 65 0)],rfl,au0,?_,au18⟩ (Zaj _) ?_;·exact Zcj rfl rfl gg (Zca a) (Zcj rfl rfl gg (Zca b) Zci)
 rintro i hi;by_cases d:i<l.length
 ·obtain⟨⟨c,s⟩,g⟩:=Qaq d;obtain⟨n,m,B⟩:=H _ (Zae g);dsimp only at m B;have o:c<S.length:=by
   rcases Zbu c S.length with h|h;·exact h
   rw[ZaA h]at m;cases m
  have M:=A n (Zae m);have k:=QiV g;have p:2<=((l.flatMap loC).drop (i*2)).length:=by rw[k];simp
  have h1:¬(c:Int)<0:=by omega
  have F:¬(S.length:Int)<=(c:Int):=by omega
  have G:¬(s:Int)<0:=by omega
  have E:¬(n:Int)<=(s:Int):=by omega
  cases i with|zero=>
   have w:¬(0:Int)<((0:Nat):Int):=by omega
   refine Zcz (ZcQ d k p w h1 F G E (QaF m) o) ?_;refine⟨1,by omega,by omega,?_⟩;refine⟨[(50,.blk 50 0),(51,.blk 51 0)],rfl,au0,?_,au18⟩;exact Zcj rfl rfl gg (Zca a) (Zcj rfl rfl gg (Zca b) Zci)|succ j=>
   obtain⟨⟨C,R⟩,f⟩:=Qaq (l:=l) (i:=j) (by omega);have q:=QiV f;have P:C<c:=pw_at hp (i:=j) (by rw[ZaG,f];rfl) (by rw[ZaG,g];rfl);have w:(0:Int)<((j+1:Nat):Int):=by omega
   have N:¬(c:Int)<=(C:Int):=by omega
   have I:((j+1:Nat):Int)-1=(j:Int):=by omega
   have O:j<l.length:=by omega
   have hle:((j+1:Nat):Int)<(l.length:Int):=by omega
   have v:((j+1:Nat):Int).toNat=j+1:=by omega
   have y:0<=((j+1:Nat):Int):=by omega
   generalize L:((j+1:Nat):Int)=J at*;simp(disch:=first|omega|(simp only[lenW]<;>omega))only[d,hle,v,y,k,q,p,w,h1,F,G,E,N,I,O,QaF m,o,wV,simprocAttr];refine⟨j+2,by omega,by omega,?_⟩;have z:J+1=((j+2:Nat):Int):=by omega
   rw[z];refine⟨[(50,.blk 50 0),(51,.blk 51 0)],rfl,au0,?_,au18⟩;exact Zcj rfl rfl gg (Zca a) (Zcj rfl rfl gg (Zca b) Zci)
 refine Zcz d ?_;exact⟨.inr trivial,_,rfl,rfl⟩
theorem cons105(S:List Nat)(xs:List (Nat×List (Nat×Nat)))(ks:List (List (Nat×Int)×Int))(x:List (Nat×Int)×Int)(hS:S.length<=8)(O:x.1.length<=1000)(m:x.1≠[])(hp:(x.1.map (·.1)).Pairwise (·<·))(E:∀l∈x.1,l.1<S.length/\l.2≠0/\-65536<=l.2/\l.2<=65536)(C:-65536<=x.2/\x.2<=65536):PSpec Tryz.prog 105 [cdV S xs ks,.agg (coC x)] (.int .i64 0):=by
 obtain⟨l,o⟩:=x;dsimp only at O m hp E C;have hex:coC (l,o)=[.str [107],tes l,.int .i64 o]:=rfl;rw[hex];have a:=@QbP S xs ks;have b:noRefs [.str [107],tes l,.int .i64 o]=true:=by rw[noRefs,noRefs,SU.Qcj];rfl
 refine Zcc 64 ok105 rfl (by rw[noRefs,noRefs,noRef,noRef,a,b];rfl) rfl ?_;have z:¬(l.length:Int)=0:=by have:=List.length_pos_iff.2 m;omega
 have K:=SU.QcT l;have u:=great190 o C.1 C.2;unfold s105;refine Zcz z ?_;refine QaO 100 (fun i:Nat=>[(2,.ptr 50 0 0),(3,.ptr 51 0 0),(12,tes l),(13,.int .i64 l.length),(14,.int .i64 i)]) (fun _=>[(50,.cells 0 (cdC S xs ks)),(51,.cells 0 [.str [107],tes l,.int .i64 o])]) (fun i=>i<=l.length) (fun i=>l.length-i) 0 ⟨[(50,.blk 64 0),(51,.blk 65 0)],rfl,au0,?_,au18⟩ (Zaj _) ?_;·exact Zcj rfl rfl gg (Zca a) (Zcj rfl rfl gg (Zca b) Zci)
 rintro i hi;by_cases d:i<l.length
 ·obtain⟨⟨c,s⟩,h⟩:=Qaq d;obtain⟨A,g,r,p⟩:=E _ (Zae h);dsimp only at A g r p;have k:=SU.Qdi h;have q:2<=((l.flatMap teC).drop (i*2)).length:=by rw[k];simp
  have h1:¬(c:Int)<0:=by omega
  have G:¬(S.length:Int)<=(c:Int):=by omega
  have t:=great190 s r p;cases i with|zero=>
   have v:¬(0:Int)<((0:Nat):Int):=by omega
   refine Zcz (ZcN d k q v h1 G g) ?_;refine cp t ?_;refine Zcy ?_;refine⟨1,by omega,by omega,?_⟩;refine⟨[(50,.blk 50 0),(51,.blk 51 0)],rfl,au0,?_,au18⟩;exact Zcj rfl rfl gg (Zca a) (Zcj rfl rfl gg (Zca b) Zci)|succ j=>
   obtain⟨⟨F,P⟩,f⟩:=Qaq (l:=l) (i:=j) (by omega);have n:=SU.Qdi f;have I:F<c:=pw_at hp (i:=j) (by rw[ZaG,f];rfl) (by rw[ZaG,h];rfl);have v:(0:Int)<((j+1:Nat):Int):=by omega
   have H:¬(c:Int)<=(F:Int):=by omega
   have L:((j+1:Nat):Int)-1=(j:Int):=by omega
   have M:j<l.length:=by omega
   have hle:((j+1:Nat):Int)<(l.length:Int):=by omega
   have B:((j+1:Nat):Int).toNat=j+1:=by omega
   have w:0<=((j+1:Nat):Int):=by omega
   generalize N:((j+1:Nat):Int)=J at*;refine Zcz (ZcU d hle B w k n q v h1 G g H L M) ?_;refine cp t ?_;refine Zcy ?_;refine⟨j+2,by omega,by omega,?_⟩;have y:J+1=((j+2:Nat):Int):=by omega
   rw[y];refine⟨[(50,.blk 50 0),(51,.blk 51 0)],rfl,au0,?_,au18⟩;exact Zcj rfl rfl gg (Zca a) (Zcj rfl rfl gg (Zca b) Zci)
 refine Zcz d ?_;refine cp u ?_;refine Zcy ?_;exact⟨.inr trivial,_,rfl,rfl⟩
end Go.AM.SO
namespace Go.AM.SQ
open Go.Proofs
set_option maxHeartbeats 4000000
noncomputable section
def cf:YA.Cf:={most:=.pure,always:=[102].map fun k=>(k,.heap)}
def s32:SFn:=by
 refine(?f:YA.Yt Tryz.prog cf 32 [[0,2],[15,16,17],[1,18],[2,18,19],[],[23,24,25],[4,26,27,28],[1,20,21,22,30,29,41,40,39,38,31],[2,31,32],[20,21,22,30,29,41,40,39,38,33,34,35,36,37],[1,42],[2,42,43],[],[47,48,49,50],[5,51],[7,52,53,54,55],[56],[1,44,45,46,6,8,57,58],[2,6,8,57,59,60,61],[62],[1,44,45,46,9,63,64],[2,9,63,65],[44,45,46,66],[],[70,71,72,73],[10,74],[12,75,76,77,78],[79],[1,67,68,69,11,13,80,81],[2,11,13,80,82,83,84],[85],[1,67,68,69,14,86,87],[2,14,86,88],[1,67,68,69]]) ?s ?h;case h=>exact YA.rr
 exact fun s _=>s
theorem ok32:okFn Tryz.prog 32 s32=true:=by kernel_rfl
end
end Go.AM.SQ
namespace Go.AM.SO
open Go.Proofs Go.AM.SD Go.AM.SE
def szs(c:Cel):List Nat:=c.cs.map (·.2.n)
theorem WfCel.comp{c:Cel}(h:WfCel c){x:Nat×List (Nat×Nat)}(b:x∈c.xs):∀l∈x.2,∃n,(szs c)[l.1]?=some n/\l.2<n:=fun l a=>by obtain⟨y,h1,d⟩:=(h.xl x b).2.2 l a;exact⟨y.2.n,by unfold szs;rw[ZaG,h1];rfl,d⟩
theorem WfCel.xlen{c:Cel}(h:WfCel c){x:Nat×List (Nat×Nat)}(a:x∈c.xs):x.2.length<=3:=by
 have h1:=QaT c.cs.length (x.2.map (·.1)) (by rw[ZaL];exact(h.xl x a).2.1.imp fun h=>by omega) (fun y d=>by
  obtain⟨l,b,rfl⟩:=Zao.1 d;obtain⟨z,h1,_⟩:=(h.xl x a).2.2 l b;rcases Zbu l.1 c.cs.length with h|h;·exact h
  rw[ZaA h]at h1;cases h1);rw[Zaz]at h1;exact Zay h1 h.c3
theorem WfCel.klen{c:Cel}(h:WfCel c){x:List (Nat×Int)×Int}(a:x∈c.ks):x.1.length<=3:=by have h1:=QaT c.cs.length (x.1.map (·.1)) (by rw[ZaL];exact(h.kl x a).2.1.imp fun h=>by omega) (fun y d=>by obtain⟨l,b,rfl⟩:=Zao.1 d;exact((h.kl x a).2.2.1 l b).1);rw[Zaz]at h1;exact Zay h1 h.c3
theorem WfCel.slen{c:Cel}(h:WfCel c):(szs c).length=c.cs.length:=by simp[szs]
theorem WfCel.sz{c:Cel}(h:WfCel c):∀s∈szs c,1<=s/\s<=3:=fun s b=>by obtain⟨x,a,rfl⟩:=Zao.1 b;exact⟨(h.ca x a).pos,(h.ca x a).n3⟩
theorem QiW{l:List (Nat×List (Nat×Nat))}{i:Nat}{x:Nat×List (Nat×Nat)}(h:l[i]?=some x):(l.flatMap exC).drop (i*2)=.str [101,UInt8.ofNat (48+x.1)]::los x.2::(l.drop (i+1)).flatMap exC:=Qbf (f:=exC) (k:=2) (fun _=>rfl) h
theorem QiX{l:List (List (Nat×Int)×Int)}{i:Nat}{x:List (Nat×Int)×Int}(h:l[i]?=some x):(l.flatMap coC).drop (i*3)=.str [107]::tes x.1::.int .i64 x.2::(l.drop (i+1)).flatMap coC:=Qbf (f:=coC) (k:=3) (fun _=>rfl) h
theorem Qgd(l:List (List (Nat×Int)×Int)):(l.flatMap coC).length=l.length*3:=Qbb (k:=3) (fun _=>rfl) l
theorem conds32(c:Cel)(h:WfCel c):PSpec Tryz.prog 32 [cdV (szs c) c.xs c.ks] (.int .i64 0):=by
 have a:=@QbP (szs c) c.xs c.ks;refine Zcc 64 SQ.ok32 rfl (by rw[noRefs,noRef,a];rfl) rfl ?_;have B:=h.slen;have E:=h.c3;have r:=h.x2;have v:=h.k1;have g1:¬(8:Int)<((szs c).length:Int):=by omega
 have g2:¬(32:Int)<(c.xs.length:Int):=by omega
 have g3:¬(32:Int)<(c.ks.length:Int):=by omega
 have w:∀x∈c.xs,x.2≠[]/\x.2.length<=3:=fun x g=>⟨(h.xl x g).1,h.xlen g⟩;unfold SQ.s32;refine ZcF g1 ?_;refine Qat 100 (fun i:Nat=>[(1,.ptr 50 0 0),(20,sliN (szs c)),(21,.int .i64 (szs c).length),(22,.int .i64 i)]) (fun _=>[(50,.cells 0 (cdC (szs c) c.xs c.ks))]) (fun i=>i<=(szs c).length) (fun i=>(szs c).length-i) 0 0 140 (fun _:Unit=>[(1,.ptr 50 0 0)]) (fun _=>[(50,.cells 0 (cdC (szs c) c.xs c.ks))]) (fun _=>True) ⟨[(50,.blk 64 0)],rfl,au0,?_,au18⟩ (Zaj _) ?_ ?_;·exact Zcj rfl rfl gg (Zca a) Zci
 ·rintro i hi;by_cases b:i<(szs c).length
  ·obtain⟨s,o⟩:=Qaq b;obtain⟨H,z⟩:=h.sz s (Zae o);have q1:¬(s:Int)<1:=by omega
   have q2:¬(4096:Int)<(s:Int):=by omega
   refine ZcF (ZcK b (QaF o) @q1 @q2) ?_;refine⟨i+1,by omega,by omega,?_⟩;refine⟨[(50,.blk 50 0)],rfl,au0,?_,au18⟩;exact Zcj rfl rfl gg (Zca a) Zci
  refine ZcF b ?_;refine⟨(),?_⟩;refine⟨[(50,.blk 50 0)],rfl,au0,?_,au18⟩;exact Zcj rfl rfl gg (Zca a) Zci
 rintro _ _;refine ZcF (ZcI g2 g3) ?_;refine Qat 200 (fun i:Nat=>[(1,.ptr 50 0 0),(44,exs c.xs),(45,.int .i64 c.xs.length),(46,.int .i64 i)]) (fun _=>[(50,.cells 0 (cdC (szs c) c.xs c.ks))]) (fun i=>i<=c.xs.length) (fun i=>c.xs.length-i) 0 2 240 (fun _:Unit=>[(1,.ptr 50 0 0)]) (fun _=>[(50,.cells 0 (cdC (szs c) c.xs c.ks))]) (fun _=>True) ⟨[(50,.blk 50 0)],rfl,au0,?_,au18⟩ (Zaj _) ?_ ?_;·exact Zcj rfl rfl gg (Zca a) Zci
 ·rintro i hi;by_cases b:i<c.xs.length
  ·obtain⟨x,g⟩:=Qaq b;have d:=Zae g;have f:=QiW g;have k:2<=((c.xs.flatMap exC).drop (i*2)).length:=by rw[f];simp
   have p:=SN.nameX g r h.xn.1 h.xn.2 w a;have n:=excl103 (szs c) c.xs c.ks x (by omega) (fun s o=>by have:=h.sz s o;omega) (by have:=h.xlen d;omega) (h.xl x d).1 (h.xl x d).2.1 (h.comp d);have hex:exC x=[.str [101,UInt8.ofNat (48+x.1)],los x.2]:=rfl;rw[hex]at n;refine ZcF (ZcJ b f k) ?_;refine SU.chc (Zcs (Zcv (Zcd _) (Zcv (FrzTo.fn Zcu (Zcv (FrzTo.ptr (g:=0) (cs:=cdC (szs c) c.xs c.ks) gg (Zce _)) (Zcv (FrzTo.ptr (g:=0) (cs:=[.int .i64 (i:Int)]) gg (Zce _)) Zcu))) Zcu)) p rfl) ?_;refine ZcE ?_;refine cp n ?_;refine ZcE ?_;refine⟨i+1,by omega,by omega,?_⟩;refine⟨[(50,.blk 50 0)],rfl,au0,?_,au18⟩;exact Zcj rfl rfl gg (Zca a) Zci
  refine ZcF b ?_;refine⟨(),?_⟩;refine⟨[(50,.blk 50 0)],rfl,au0,?_,au18⟩;exact Zcj rfl rfl gg (Zca a) Zci
 rintro _ _;refine ZcE ?_;refine QaO 300 (fun i:Nat=>[(1,.ptr 50 0 0),(67,cos c.ks),(68,.int .i64 c.ks.length),(69,.int .i64 i)]) (fun _=>[(50,.cells 0 (cdC (szs c) c.xs c.ks))]) (fun i=>i<=c.ks.length) (fun i=>c.ks.length-i) 0 ⟨[(50,.blk 50 0)],rfl,au0,?_,au18⟩ (Zaj _) ?_;·exact Zcj rfl rfl gg (Zca a) Zci
 rintro i hi;by_cases b:i<c.ks.length
 ·obtain⟨x,g⟩:=Qaq b;have q:i=0:=by omega
  subst q;have d:=Zae g;have f:=QiX g;rw[Nat.zero_mul]at f;have k:3<=(c.ks.flatMap coC).length:=by rw[Qgd];omega
  have u:c.ks=[x]:=by match hk:c.ks,g,v with|[y],g,_=>simp at g;rw[g]
  have p:=SN.nameK (S:=sliN (szs c)) (X:=exs c.xs) u a;obtain⟨F,G,A,K,I⟩:=h.kl x d;have n:=cons105 (szs c) c.xs c.ks x (by omega) (by have:=h.klen d;omega) F G (fun l C=>by obtain⟨q1,q2,L,J⟩:=A l C;exact⟨by omega,q2,by omega,by omega⟩) ⟨by omega,by omega⟩;have hex:coC x=[.str [107],tes x.1,.int .i64 x.2]:=rfl;rw[hex]at n;have m:(0:Int)<(c.ks.length:Int):=by omega
  rw[Za9]at f;have t:List.take 3 (c.ks.flatMap coC)=[.str [107],tes x.1,.int .i64 x.2]:=by rw[f];rfl
  refine ZcF (ZcK b m t k) ?_;refine SU.chc (Zcs (Zcv (Zcd _) (Zcv (FrzTo.fn Zcu (Zcv (FrzTo.ptr (g:=0) (cs:=cdC (szs c) c.xs c.ks) gg (Zce _)) (Zcv (FrzTo.ptr (g:=0) (cs:=[.int .i64 0]) gg (Zce _)) Zcu))) Zcu)) p rfl) ?_;refine ZcE ?_;refine cp n ?_;refine ZcE ?_;refine⟨1,by omega,by omega,?_⟩;refine⟨[(50,.blk 50 0)],rfl,au0,?_,au18⟩;exact Zcj rfl rfl gg (Zca a) Zci
 refine ZcF b ?_;exact⟨.inr trivial,_,rfl,rfl⟩
end Go.AM.SO
namespace Go.AM.SO
open Go.Proofs Go.AM.SD Go.AM.SE
theorem Qfi{α:Type}{f:α->List AV}(hf:∀x,(f x).all AV.one=true):∀l:List α,(l.flatMap f).all AV.one=true|[]=>rfl|x::l=>by rw[Zax,ZbU,hf,Qfi hf l];rfl
theorem clone148(l:List (Nat×Nat))(f:l.length<=1000)(c:l≠[]):PSpec Tryz.prog 148 [los l] (los l):=by
 refine Zcb 100 ok148 rfl (by rw[noRefs,SU.Qb1];rfl) (SU.Qb1 _) ?_;have d:aEqN false (los l)=.ret (.bool false):=by match l,c with|x::l,_=>rfl
 have a:(l.flatMap loC).all AV.one=true:=Qfi (fun _=>rfl) l;have b:=SU.Qgc l;unfold s148;refine ZcF (ZcJ d a b) ?_;exact⟨.inr trivial,_,rfl,Rn.fz0 rfl b (Zca (SU.Qbg _))⟩
theorem clone149(l:List (Nat×Int))(f:l.length<=1000)(c:l≠[]):PSpec Tryz.prog 149 [tes l] (tes l):=by
 refine Zcb 100 ok149 rfl (by rw[noRefs,SU.Qcj];rfl) (SU.Qcj _) ?_;have d:aEqN false (tes l)=.ret (.bool false):=by match l,c with|x::l,_=>rfl
 have a:(l.flatMap teC).all AV.one=true:=Qfi (fun _=>rfl) l;have b:=SU.QcT l;unfold s149;refine ZcF (ZcJ d a b) ?_;exact⟨.inr trivial,_,rfl,Rn.fz0 rfl b (Zca (SU.QaN _))⟩
theorem take_succ'{α:Type}{l:List α}{i:Nat}{x:α}(h:l[i]?=some x):l.take (i+1)=l.take i++[x]:=by rw[ZaT,h];rfl
theorem Qtv{x:Nat×List (Nat×Nat)}:List.flatMap exC [x]=[.str [101,UInt8.ofNat (48+x.1)],los x.2]:=rfl
theorem Qtw{x:List (Nat×Int)×Int}:List.flatMap coC [x]=[.str [107],tes x.1,.int .i64 x.2]:=rfl
theorem conds85(c:Cel)(h:WfCel c):PSpec Tryz.prog 85 [celV c] (cdV (szs c) c.xs c.ks):=by
 have g:noRefs [evsV c.ev,its 99 c.cs,its 114 c.rs,exs c.xs,cos c.ks]=true:=by have:=SU.Qbl c;rwa[celV,noRef]at this
 refine Zcb 64 ok85 rfl (by rw[noRefs,SU.Qbl];rfl) (by rw[noRef];exact QbP) ?_;have v:=h.c3;have w:=h.x2;have u:=h.k1;have t:=@SU.Qdz 99 c.cs;have s:=SU.Qef c.xs;have y:=Qgd c.ks;unfold s85;refine ZcE ?_;refine Qat 100 (fun i:Nat=>[(1,.ptr 50 0 0),(2,.ptr 51 0 0),(3,.ptr 52 0 0),(12,its 99 c.cs),(13,.int .i64 c.cs.length),(14,.int .i64 i)]) (fun i=>[(50,.cells 0 [evsV c.ev,its 99 c.cs,its 114 c.rs,exs c.xs,cos c.ks]),(51,.cells 0 [.nilsl,.nilsl,.nilsl]),(52,.cells 0 [.sl 76 0 0 (szs c|>.take i).length 1,.nilsl,.nilsl]),(76,.cells 0 (ints (nz ((szs c).take i))))]) (fun i=>i<=c.cs.length) (fun i=>c.cs.length-i) 0 0 160 (fun _:Unit=>[(1,.ptr 50 0 0),(2,.ptr 51 0 0),(3,.ptr 52 0 0)]) (fun _=>[(50,.cells 0 [evsV c.ev,its 99 c.cs,its 114 c.rs,exs c.xs,cos c.ks]),(51,.cells 0 [.nilsl,.nilsl,.nilsl]),(52,.cells 0 [sliN (szs c),.nilsl,.nilsl])]) (fun _=>True) ⟨[(50,.blk 64 0),(51,.blk 65 0),(52,.blk 67 0),(76,.nil)],rfl,au0,?_,au18⟩ (Zaj _) ?_ ?_;·exact Zcj rfl rfl gg (Zca g) (Zcj rfl rfl gg (Zca rfl) (Zcj rfl rfl gg (Zcp (Rn.x4 rfl rfl) (Zca rfl)) (Zck rfl rfl Zci)))
 ·rintro i hi;by_cases a:i<c.cs.length
  ·obtain⟨x,n⟩:=Qaq a;have d:=SU.Qdj (ch:=99) n;have m:5<=((c.cs.flatMap (itC 99)).drop (i*5)).length:=by rw[d];simp
   have q:(szs c)[i]?=some x.2.n:=by unfold szs;rw[ZaG,n];rfl
   have f:=take_succ' q;have b:((szs c).take i).length=i:=by rw[Zas,h.slen];omega
   have r:=@SU.QdF [99,UInt8.ofNat (48+x.1)] x.2;refine ZcF (ZcK a d m b) ?_;refine⟨i+1,by omega,by omega,?_⟩;rw[f,Zaf,QaH,QaA,b];refine⟨[(50,.blk 50 0),(51,.blk 51 0),(52,.blk 52 0),(76,.blk 76 1)],rfl,au0,?_,au18⟩;exact Zcj rfl rfl gg (Zca g) (Zcj rfl rfl gg (Zca rfl) (Zcj rfl rfl gg (Zcp (Rn.x1 rfl rfl) (Zca rfl)) (Zcj rfl rfl gg (Zca (SU.Qaw (Qab _) rfl)) Zci)))
  have e:i=c.cs.length:=by omega
  subst e;have p:(szs c).take c.cs.length=szs c:=by rw[<-h.slen,Zau]
  refine ZcF (ZcI a p) ?_;refine⟨(),?_⟩;refine⟨[(50,.blk 50 0),(51,.blk 51 0),(52,.blk 52 0)],rfl,au0,?_,au18⟩;exact Zcj rfl rfl gg (Zca g) (Zcj rfl rfl gg (Zca rfl) (Zcj rfl rfl gg (Zcp (Zcq rfl rfl rfl rfl (by simp[ints]) (Zca (Qab _))) (Zca rfl)) Zci))
 rintro _ _;refine ZcE ?_;refine Qat 200 (fun i:Nat=>[(1,.ptr 50 0 0),(2,.ptr 51 0 0),(3,.ptr 52 0 0),(28,exs c.xs),(29,.int .i64 c.xs.length),(30,.int .i64 i)]) (fun i=>[(50,.cells 0 [evsV c.ev,its 99 c.cs,its 114 c.rs,exs c.xs,cos c.ks]),(51,.cells 0 [.nilsl,.nilsl,.nilsl]),(52,.cells 0 [sliN (szs c),.sl 77 0 0 (c.xs.take i).length 2,.nilsl]),(77,.cells 0 ((c.xs.take i).flatMap exC))]) (fun i=>i<=c.xs.length) (fun i=>c.xs.length-i) 0 2 260 (fun _:Unit=>[(1,.ptr 50 0 0),(2,.ptr 51 0 0),(3,.ptr 52 0 0)]) (fun _=>[(50,.cells 0 [evsV c.ev,its 99 c.cs,its 114 c.rs,exs c.xs,cos c.ks]),(51,.cells 0 [.nilsl,.nilsl,.nilsl]),(52,.cells 0 [sliN (szs c),exs c.xs,.nilsl])]) (fun _=>True) ⟨[(50,.blk 50 0),(51,.blk 51 0),(52,.blk 52 0),(77,.nil)],rfl,au0,?_,au18⟩ (Zaj _) ?_ ?_;·exact Zcj rfl rfl gg (Zca g) (Zcj rfl rfl gg (Zca rfl) (Zcj rfl rfl gg (Zcp (Zb9 (Qaa _)) (Zcp (Rn.x4 rfl rfl) (Zca rfl))) (Zck rfl rfl Zci)))
 ·rintro i hi;by_cases a:i<c.xs.length
  ·obtain⟨x,n⟩:=Qaq a;have l:=Zae n;have d:=QiW n;have m:2<=((c.xs.flatMap exC).drop (i*2)).length:=by rw[d];simp
   have f:=take_succ' n;have b:(c.xs.take i).length=i:=by rw[Zas];omega
   have o:=clone148 x.2 (by have:=h.xlen l;omega) (h.xl x l).1;have k:=SU.Qef (c.xs.take i);rw[b]at k;refine ZcF (ZcK a d m b) ?_;refine cp o ?_;refine ZcF k ?_;refine⟨i+1,by omega,by omega,?_⟩;rw[f,Zaf,Zaq,b,Qtv];refine⟨[(50,.blk 50 0),(51,.blk 51 0),(52,.blk 52 0),(77,.blk 77 1)],rfl,au0,?_,au18⟩;exact Zcj rfl rfl gg (Zca g) (Zcj rfl rfl gg (Zca rfl) (Zcj rfl rfl gg (Zcp (Zb9 (Qaa _)) (Zcp (Rn.x1 rfl rfl) (Zca rfl))) (Zcj rfl rfl gg (Zca (SU.Qaw (SU.Qba _) (by rw[noRefs,noRefs,SU.Qb1];rfl))) Zci)))
  have e:i=c.xs.length:=by omega
  subst e;refine ZcF (ZcI a @Zau) ?_;refine⟨(),?_⟩;refine⟨[(50,.blk 50 0),(51,.blk 51 0),(52,.blk 52 0)],rfl,au0,?_,au18⟩;exact Zcj rfl rfl gg (Zca g) (Zcj rfl rfl gg (Zca rfl) (Zcj rfl rfl gg (Zcp (Zb9 (Qaa _)) (Zcp (Zcq rfl rfl rfl rfl (SU.Qef _) (Zca (SU.Qba _))) (Zca rfl))) Zci))
 rintro _ _;refine ZcE ?_;refine Qat 300 (fun i:Nat=>[(2,.ptr 51 0 0),(3,.ptr 52 0 0),(47,cos c.ks),(48,.int .i64 c.ks.length),(49,.int .i64 i)]) (fun i=>[(51,.cells 0 [.nilsl,.nilsl,.nilsl]),(52,.cells 0 [sliN (szs c),exs c.xs,.sl 78 0 0 (c.ks.take i).length 3]),(78,.cells 0 ((c.ks.take i).flatMap coC))]) (fun i=>i<=c.ks.length) (fun i=>c.ks.length-i) 0 4 360 (fun _:Unit=>[(2,.ptr 51 0 0),(3,.ptr 52 0 0)]) (fun _=>[(51,.cells 0 [.nilsl,.nilsl,.nilsl]),(52,.cells 0 [sliN (szs c),exs c.xs,cos c.ks])]) (fun _=>True) ⟨[(51,.blk 51 0),(52,.blk 52 0),(78,.nil)],rfl,au0,?_,au18⟩ (Zaj _) ?_ ?_;·exact Zcj rfl rfl gg (Zca rfl) (Zcj rfl rfl gg (Zcp (Zb9 (Qaa _)) (Zcp (Zb9 (SU.Qbr _)) (Zcp (Rn.x4 rfl rfl) Zco))) (Zck rfl rfl Zci))
 ·rintro i hi;by_cases a:i<c.ks.length
  ·obtain⟨x,n⟩:=Qaq a;have l:=Zae n;have d:=QiX n;have m:3<=((c.ks.flatMap coC).drop (i*3)).length:=by rw[d];simp
   have f:=take_succ' n;have b:(c.ks.take i).length=i:=by rw[Zas];omega
   have o:=clone149 x.1 (by have:=h.klen l;omega) (h.kl x l).1;have k:=Qgd (c.ks.take i);rw[b]at k;refine ZcF (ZcK a d m b) ?_;refine cp o ?_;refine ZcF k ?_;refine⟨i+1,by omega,by omega,?_⟩;rw[f,Zaf,Zaq,b,Qtw];refine⟨[(51,.blk 51 0),(52,.blk 52 0),(78,.blk 78 1)],rfl,au0,?_,au18⟩;exact Zcj rfl rfl gg (Zca rfl) (Zcj rfl rfl gg (Zcp (Zb9 (Qaa _)) (Zcp (Zb9 (SU.Qbr _)) (Zcp (Rn.x1 rfl rfl) Zco))) (Zcj rfl rfl gg (Zca (SU.Qaw (SU.QcJ _) (by rw[noRefs,noRefs,SU.Qcj];rfl))) Zci))
  have e:i=c.ks.length:=by omega
  subst e;refine ZcF (ZcI a @Zau) ?_;refine⟨(),?_⟩;refine⟨[(51,.blk 51 0),(52,.blk 52 0)],rfl,au0,?_,au18⟩;exact Zcj rfl rfl gg (Zca rfl) (Zcj rfl rfl gg (Zcp (Zb9 (Qaa _)) (Zcp (Zb9 (SU.Qbr _)) (Zcp (Zcq rfl rfl rfl rfl (Qgd _) (Zca (SU.QcJ _))) Zco))) Zci)
 rintro _ _;refine ZcE ?_;refine⟨.inr trivial,_,rfl,?_⟩;exact Zb9 (by rw[noRef];exact QbP)
end Go.AM.SO
namespace Go.AM.SO
open Go.Proofs Go.AM.SD Go.AM.SE
def idxQ{α:Type}(q:α->Bool)(l:List α):Int:=if l.any q then(l.findIdx q:Int)else-1
theorem QdA{α:Type}{q:α->Bool}{l:List α}(h:∀x∈l,q x=false):idxQ q l=-1:=by unfold idxQ;rw[if_neg];rw[List.any_eq_true];rintro⟨x,b,a⟩;rw[h x b]at a;cases a
theorem QeM{α:Type}{q:α->Bool}{l:List α}{i:Nat}{x:α}(a:l[i]?=some x)(c:q x=true)(d:∀(j:Nat)y,j<i->l[j]?=some y->q y=false):idxQ q l=i:=by
 have b:i<l.length:=by
  rcases Zbu i l.length with h|h;·exact h
  rw[ZaA h]at a;cases a
 have h1:l.any q=true:=List.any_eq_true.2 ⟨x,Zae a,c⟩;have g:l.findIdx q=i:=by rw[List.findIdx_eq b];refine⟨by rw[Zal b]at a;cases a;exact c,fun j f=>d j l[j] f (Zal (by omega))⟩
 unfold idxQ;rw[if_pos h1,g]
theorem QnB{α:Type}{q:α->Bool}{l:List α}:decide (0<=idxQ q l)=l.any q:=by
 unfold idxQ;cases h:l.any q;·simp
 simp
theorem Qbs{K:Nat}{cap:List AV}(h:noRefs cap=true):noRef (.fn K [] cap)=true:=by simp only[noRef,noRefs,h];rfl
theorem index110{K:Nat}{cap:List AV}(q:Nat->Bool)(l:List Nat)(r:l.length<=1000000)(hc:noRefs cap=true)(hk:∀x∈l,PSpec Tryz.prog K (.int .i64 (x:Int)::cap) (.bool (q x))):PSpec Tryz.prog 110 [sliN l,.fn K [] cap] (.int .i64 (idxQ q l)):=by
 refine Zcc 64 ok110 rfl (by rw[noRefs,noRefs,Qbs hc,(Qaa _)];rfl) rfl ?_;have c:=Qbs (K:=K) hc;have n:=(show(ints (nz l)).length=l.length*1 by simp[ints]);unfold s110;refine ZcF @Zap ?_;refine QaO 100 (fun i:Nat=>[(0,sliN l),(1,.fn K [] cap),(7,.int .i64 l.length),(8,.int .i64 i)]) (fun _=>[]) (fun i=>i<=l.length/\∀(j:Nat)y,j<i->l[j]?=some y->q y=false) (fun i=>l.length-i) 0 ?_ ⟨Zaj _,fun j y k=>absurd k (ZaF _)⟩ ?_;·exact⟨[],rfl,Zcf,Zci,Zch (Zb9 (Qaa _)) (Zch (Zb9 c) (Zch (Zb9 rfl) (Zch (Zb9 rfl) Zcg)))⟩
 rintro i⟨hi,m⟩;by_cases a:i<l.length
 ·obtain⟨x,b⟩:=Qaq a;have h:=hk x (Zae b);have d:=QaF b;have f:1<=(List.drop (i*1) (ints (nz l))).length:=by rw[Za4,n];omega
  cases g:q x
  ·rw[g]at h;refine ZcF (ZcL a d f @Zbj @Zap) ?_;refine⟨_,by simpa using h,?_⟩;refine ZcF @Zap ?_;refine⟨i+1,by omega,⟨by omega,fun j y k o=>?_⟩,?_⟩
   ·by_cases e:j=i;·subst e;rw[b]at o;cases o;exact g
    exact m j y (by omega) o
   exact⟨[],rfl,Zcf,Zci,Zch (Zb9 (Qaa _)) (Zch (Zb9 c) (Zch (Zb9 rfl) (Zch (Zb9 rfl) Zcg)))⟩
  rw[g]at h;refine ZcF (ZcL a d f @Zbj @Zap) ?_;refine⟨_,by simpa using h,?_⟩;refine ZcF @Zap ?_;refine⟨.inr trivial,_,rfl,?_⟩;rw[QeM b g m];rfl
 refine ZcF (ZcI a @Zap) ?_;refine⟨.inr trivial,_,rfl,?_⟩;rw[QdA fun x b=>by obtain⟨j,k,p⟩:=Zbf b;exact m j x (by omega) (by rw[Zal k,p])];rfl
theorem contains36{K:Nat}{cap:List AV}(q:Nat->Bool)(l:List Nat)(a:l.length<=1000000)(hc:noRefs cap=true)(hk:∀x∈l,PSpec Tryz.prog K (.int .i64 (x:Int)::cap) (.bool (q x))):PSpec Tryz.prog 36 [sliN l,.fn K [] cap] (.bool (l.any q)):=by
 refine Zcc 64 ok36 rfl (by rw[noRefs,noRefs,Qbs hc,Qaa];rfl) rfl ?_;unfold s36;refine ZcF @Zap ?_;refine cp (index110 q l a hc hk) ?_;have e:=@QnB Nat q l;cases h:l.any q;·rw[h,decide_eq_false_iff_not]at e;refine ZcF (ZcI e @Zap) ?_;exact⟨.inr trivial,_,rfl,rfl⟩
 rw[h,decide_eq_true_eq]at e;refine ZcF (ZcI e @Zap) ?_;exact⟨.inr trivial,_,rfl,rfl⟩
theorem ge166(x:Nat):PSpec Tryz.prog 166 [.int .i64 (x:Int),.fptr [.int .i64 5]] (.bool (decide (5<=x))):=by refine Zcc 64 ok166 rfl rfl rfl ?_;have e:decide ((5:Int)<=(x:Int))=decide (5<=x):=decide_eq_decide.2 (by omega);unfold s166;refine ZcF (ZcI e @Zap) ?_;exact⟨.inr trivial,_,rfl,rfl⟩
end Go.AM.SO
namespace Go.AM.SR
open Go.Proofs
set_option maxHeartbeats 4000000
noncomputable section
def cf:YA.Cf:={most:=.pure,always:=[36].map fun k=>(k,.heap)}
def s83:SFn:=by
 refine(?f:YA.Yt Tryz.prog cf 83 [[0,1,8],[11,12,13,14],[2,3,4,5,10],[10,16,17,18,19],[2,3,4,5,15],[8,3,15,20,21,22],[23,24,25],[26],[2,4,5,9,27,28],[8,9,27,30,31,32,33],[2,4,5,29],[29,35,36,37,38],[2,4,5,34],[5,34,40,41,42,43,44],[2,4,39],[2,4,39,46,47,48,49,50,51],[45],[45]]) ?s ?h;case h=>exact YA.rr
 exact fun s _=>s
theorem ok83:okFn Tryz.prog 83 s83=true:=by kernel_rfl
end
end Go.AM.SR
namespace Go.AM.SO
open Go.Proofs Go.AM.SD Go.AM.SE
theorem Qp1{A B:List Nat}(hA:A.Pairwise (·<·))(c:B.Pairwise (·<·))(h:∀x∈A,x∈B):mrg (fun a b=>a&&!b) A B=[]:=by rw[List.eq_nil_iff_forall_not_mem];intro x d;obtain⟨h1,f⟩:=(QbL hA c).1 d;simp at h1;exact h1.2 (h x h1.1)
theorem Qge{a:Aut}(h:WfA a):a.al.length<=32:=QaT 32 a.al (by rw[ZaL];exact h.al.imp fun h=>by omega) h.al5
abbrev nmsB(l:List (List UInt8)):Blk:=.map 0 (mapS yes l)
theorem item83(i:List UInt8)(a:Aut)(B:List Nat)(names:List (List UInt8))(h:WfI a)(s:PSpec Tryz.prog 135 [.str i] (.bool true))(m:i∉names)(t:names.length<=100)(n:B.Pairwise (·<·))(k:B.length<=1000000)(p:∀x∈a.al,x∈B):HSpec Tryz.prog 83 [.agg [.str i,sliN a.al,.int .i64 (a.n:Int),sliN a.ms,egsN a.es],.int .i64 5,sliN B,.map 68 0] (hp [(68,nmsB names)]) (.int .i64 0) (hp [(68,nmsB (names++[i]))]):=by
 have q:=Qge h.wf;have f:a.es.length<=1000000:=Zay h.el (by decide);have u:=check112 a h.wf f;have r:=isCanon60 a h.wf f h.can;have o:=h.pos;have l:¬(a.n:Int)=0:=by omega
 have d:=contains36 (K:=166) (cap:=[.fptr [.int .i64 5]]) (fun x=>decide (5<=x)) a.al (by omega) rfl (fun x _=>ge166 x);have g:a.al.any (fun x=>decide (5<=x))=false:=by rw[List.any_eq_false];intro x v;have:=h.a5 x v;simp;omega
 rw[g]at d;have b:=subset167 a.al B (by omega) k;rw[Qp1 h.wf.al n p]at b;have c:PSpec Tryz.prog 167 [sliN a.al,sliN B] (.bool true):=b;refine HSpec.QsO (m:=69) 100 SR.ok83 rfl rfl rfl ?_;unfold SR.s83;refine ZcE ?_;refine cp s ?_;refine ZcE ?_;refine Qf9 gg m ?_;refine ZcE ?_;refine Qee gg m (by omega) ?_;refine ZcF @QhF ?_;refine cp u ?_;refine ZcE ?_;refine cp r ?_;refine ZcF l ?_;refine SU.chc (Zcs (Zcv (Zcd _) (Zcv (FrzTo.fn Zcu (Zcv (FrzTo.ptr (g:=0) (cs:=[.int .i64 5]) gg (Zce _)) Zcu)) Zcu)) d rfl) ?_;refine ZcE ?_;refine cp c ?_;refine ZcE ?_;refine⟨.inr trivial,_,rfl,rfl,?_⟩;refine⟨[(68,.nil)],rfl,au0,?_,au18⟩;exact Zcn rfl gg (RnM.mapS fun _ _=>Zb9 rfl) Zci
theorem item83F{h:Heap}(b:List UInt8)(a:Aut)(B:List Nat)(names:List (List UInt8))(hw:WfI a)(m:PSpec Tryz.prog 135 [.str b] (.bool true))(g:b∉names)(f:names.length<=100)(k:B.Pairwise (·<·))(d:B.length<=1000000)(i:∀x∈a.al,x∈B)(c:h.get 68=some (nmsB names)):HSpec Tryz.prog 83 [.agg [.str b,sliN a.al,.int .i64 (a.n:Int),sliN a.ms,egsN a.es],.int .i64 5,sliN B,.map 68 0] h (.int .i64 0) (h.set 68 (nmsB (names++[b]))):=by
 have hm:∀(l:List (List UInt8)),∀e∈mapS yes l,noRef e.1=true/\noRef e.2=true:=fun l e he=>by unfold mapS at he;obtain⟨x,_,rfl⟩:=Zao.1 he;exact⟨rfl,rfl⟩
 exact HSpec.frameM (item83 b a B names hw m g f k d i) (OnlyD.cons (OnlyD.same (by rw[noRef];exact SU.QdF)) (OnlyD.cons (OnlyD.same rfl) (OnlyD.cons (OnlyD.same (Qaa _)) (OnlyD.cons (OnlyD.map rfl) OnlyD.nil)))) (OnlyD.same rfl) (hm _) (hm _) c rfl
end Go.AM.SO
namespace Go.AM.SO
open Go.Proofs Go.AM.SD Go.AM.SE
def uUp(l:List (Nat×Aut)):List Nat:=l.foldl (fun out x=>mrg (fun a b=>a||b) out x.2.al) []
theorem Qgt:∀{l:List (Nat×Aut)}{out:List Nat},out.Pairwise (·<·)->(∀x∈l,x.2.al.Pairwise (·<·))->(l.foldl (fun out x=>mrg (fun a b=>a||b) out x.2.al) out).Pairwise (·<·)/\∀e,e∈l.foldl (fun out x=>mrg (fun a b=>a||b) out x.2.al) out↔e∈out\/∃y∈l,e∈y.2.al
 |[],out,h,_=>⟨h,fun e=>by simp⟩|x::l,out,h,f=>by
  have d:=f x (by simp);obtain⟨h1,g⟩:=Qgt (l:=l) (Qcs (k:=fun a b=>a||b) h d) fun y i=>f y (by simp[i]);refine⟨h1,fun e=>?_⟩;rw[ZaH,g e,QbL h d];simp only[Zaw,exists_eq_or_imp,Zbd,decide_eq_true_eq];constructor
  ·rintro(⟨c,_⟩|c)
   ·rcases c with c|c;·exact .inl c
    exact .inr (.inl c)
   exact .inr (.inr c)
  rintro(c|c|c);·exact .inl ⟨.inl c,.inl c⟩
  ·exact .inl ⟨.inr c,.inr c⟩
  exact .inr c
theorem Qfj{l:List (Nat×Aut)}(h:∀x∈l,WfI x.2):(uUp l).Pairwise (·<·):=(Qgt (by simp) fun x a=>(h x a).wf.al).1
theorem Qgu{l:List (Nat×Aut)}(h:∀x∈l,WfI x.2){e:Nat}:e∈uUp l↔∃y∈l,e∈y.2.al:=by have:=(Qgt (l:=l) (out:=[]) (by simp) fun x a=>(h x a).wf.al).2 e;simpa[uUp]using this
theorem QiY{l:List (Nat×Aut)}(h:∀x∈l,WfI x.2):(uUp l).length<=5:=by refine QaT 5 _ (by rw[ZaL];exact(Qfj h).imp fun h=>by omega) fun x a=>?_;obtain⟨y,b,he⟩:=(Qgu h).1 a;exact(h y b).a5 x he
theorem Qra{l:List (Nat×Aut)}{i:Nat}{x:Nat×Aut}(h:l[i]?=some x):uUp (l.take (i+1))=mrg (fun a b=>a||b) (uUp (l.take i)) x.2.al:=by unfold uUp;rw[take_succ' h,Za5];rfl
def nmsI(ch:UInt8)(l:List (Nat×Aut)):List (List UInt8):=l.map fun x=>[ch,UInt8.ofNat (48+x.1)]
theorem QlW{ch:UInt8}{l:List (Nat×Aut)}{i:Nat}{x:Nat×Aut}(h:l[i]?=some x):nmsI ch (l.take (i+1))=nmsI ch (l.take i)++[[ch,UInt8.ofNat (48+x.1)]]:=by unfold nmsI;rw[take_succ' h,ZaN];rfl
theorem Qr9{a b:Nat}(c:a<10)(d:b<10)(h:UInt8.ofNat (48+a)=UInt8.ofNat (48+b)):a=b:=by have:=congrArg UInt8.toNat h;simp at this;omega
theorem Qiq{l:List (Nat×Aut)}(h:l.map (·.1)=List.range l.length){i:Nat}{x:Nat×Aut}(a:l[i]?=some x):x.1=i/\i<l.length:=by
 have hi:i<l.length:=by
  rcases Zbu i l.length with h|h;·exact h
  rw[ZaA h]at a;cases a
 have h1:(l.map (·.1))[i]?=some x.1:=by rw[ZaG,a];rfl
 rw[h,Zbq hi]at h1;cases h1;exact⟨rfl,hi⟩
theorem QnC{ch:UInt8}{l:List (Nat×Aut)}(h:l.map (·.1)=List.range l.length)(k:l.length<=9){i:Nat}{x:Nat×Aut}(b:l[i]?=some x):[ch,UInt8.ofNat (48+x.1)]∉nmsI ch (l.take i):=by intro hm;obtain⟨y,d,he⟩:=Zao.1 hm;obtain⟨j,c,a⟩:=Zbf d;rw[Zas]at c;rw[List.getElem_take]at a;obtain⟨n,m⟩:=Qiq h b;obtain⟨f,g⟩:=Qiq h (i:=j) (x:=y) (by rw[<-a];exact Zal (by omega));have:=Qr9 (a:=y.1) (b:=x.1) (by omega) (by omega) (by simpa using he);omega
theorem Qp2{a b:UInt8}(c:a≠b){s:UInt8}{l:List (Nat×Aut)}:[a,s]∉nmsI b l:=by intro hm;obtain⟨y,d,he⟩:=Zao.1 hm;simp at he;exact c he.1.symm
theorem QlP{i:Nat}(h:i<3):PSpec Tryz.prog 135 [.str [99,UInt8.ofNat (48+i)]] (.bool true):=by
 have:i=0\/i=1\/i=2:=by omega
 rcases this with rfl|rfl|rfl;·exact SP.QrV
 ·exact SP.QrW
 exact SP.QrX
theorem Qtx{i:Nat}(h:i<2):PSpec Tryz.prog 135 [.str [114,UInt8.ofNat (48+i)]] (.bool true):=by
 have:i=0\/i=1:=by omega
 rcases this with rfl|rfl;·exact SP.QrY
 exact SP.QrZ
theorem Qgv{m:Nat}{π:Nat->Option Src}{h:Heap}:RnM m π h (mapS yes []) []:=trivial
theorem Qcc(c:Cel):noRefs [evsV c.ev,its 99 c.cs,its 114 c.rs,exs c.xs,cos c.ks]=true:=by have:=SU.Qbl c;rwa[celV,noRef]at this
theorem check21(c:Cel)(h:WfCel c):PSpec Tryz.prog 21 [celV c] (.int .i64 0):=by
 have a:=Qcc c;refine Zcc 64 ok21 rfl (by rw[noRefs,SU.Qbl];rfl) rfl ?_;have z:=check82 c.ev h.ev;have B:=h.c0;have E:=h.c3;have C:=h.r2;have g1:¬(c.cs.length:Int)=0:=by omega
 have g2:¬(8:Int)<(c.cs.length:Int):=by omega
 have g3:¬(12:Int)<(c.cs.length:Int)+(c.rs.length:Int):=by omega
 have v:=conds85 c h;have s:=conds32 c h;unfold s21;refine ZcE ?_;refine cp z ?_;refine ZcF (ZcJ g1 g2 g3) ?_;refine Qat 140 (fun i:Nat=>[(1,.ptr 50 0 0),(5,.map 68 0),(6,.sl 76 0 0 i 1),(7,.nilsl),(41,.int .i64 5),(42,.int .i64 i)]) (fun i=>[(50,.cells 0 [evsV c.ev,its 99 c.cs,its 114 c.rs,exs c.xs,cos c.ks]),(68,nmsB []),(76,.cells 0 (ints (nz (List.range i))))]) (fun i=>i<=5) (fun i=>5-i) 0 1 180 (fun _:Unit=>[(1,.ptr 50 0 0),(5,.map 68 0),(6,sliN (List.range 5)),(7,sliN [])]) (fun _=>[(50,.cells 0 [evsV c.ev,its 99 c.cs,its 114 c.rs,exs c.xs,cos c.ks]),(68,nmsB [])]) (fun _=>True) ?_ (Zaj _) ?_ ?_;·refine⟨[(50,.blk 64 0),(68,.blk 90 0),(76,.nil)],rfl,au0,?_,au18⟩;exact Zcj rfl rfl gg (Zca a) (Zcl rfl rfl gg Qgv (Zck rfl rfl Zci))
 ·rintro i hi;by_cases b:i<5
  ·have q:(i:Int)<5:=by omega
   have r:(ints (nz (List.range i))).length=i:=by simp[ints]
   refine ZcF (ZcJ q @Zby r) ?_;refine⟨i+1,by omega,by omega,?_⟩;rw[ZaI,QaH,QaA];refine⟨[(50,.blk 50 0),(68,.blk 68 0),(76,.blk 76 1)],rfl,au0,?_,au18⟩;exact Zcj rfl rfl gg (Zca a) (Zcl rfl rfl gg Qgv (Zcj rfl rfl gg (Zca (SU.Qaw (Qab _) rfl)) Zci))
  have e:i=5:=by omega
  subst e;refine ZcE ?_;refine⟨(),[(50,.blk 50 0),(68,.blk 68 0)],rfl,Zcf,?_,?_⟩;·exact Zcj rfl rfl gg (Zca a) (Zcl rfl rfl gg Qgv Zci)
  exact Zch (Rn.x2 rfl rfl) (Zch (Rn.x3 rfl rfl) (Zch (Rn.fz (b:=76) (g:=0) gg rfl rfl rfl (Zca rfl)) (Zch Rn.nilK Zcg)))
 rintro _ _;refine ZcE ?_;refine Qat 240 (fun i:Nat=>[(1,.ptr 50 0 0),(5,.map 68 0),(6,sliN (List.range 5)),(7,sliN (uUp (c.cs.take i))),(51,its 99 c.cs),(52,.int .i64 c.cs.length),(53,.int .i64 i)]) (fun i=>[(50,.cells 0 [evsV c.ev,its 99 c.cs,its 114 c.rs,exs c.xs,cos c.ks]),(68,nmsB (nmsI 99 (c.cs.take i)))]) (fun i=>i<=c.cs.length) (fun i=>c.cs.length-i) 0 3 280 (fun _:Unit=>[(1,.ptr 50 0 0),(5,.map 68 0),(7,sliN (uUp c.cs))]) (fun _=>[(50,.cells 0 [evsV c.ev,its 99 c.cs,its 114 c.rs,exs c.xs,cos c.ks]),(68,nmsB (nmsI 99 c.cs))]) (fun _=>True) ?_ (Zaj _) ?_ ?_;·refine⟨[(50,.blk 50 0),(68,.blk 68 0)],rfl,au0,?_,au18⟩;exact Zcj rfl rfl gg (Zca a) (Zcl rfl rfl gg Qgv Zci)
 ·rintro i hi;by_cases b:i<c.cs.length
  ·obtain⟨x,f⟩:=Qaq b;have m:=Zae f;have l:=SU.Qdj (ch:=99) f;have o:5<=((c.cs.flatMap (itC 99)).drop (i*5)).length:=by rw[l];simp
   have g:=h.ca x m;have u:=Qiq h.cn f;have n:(nmsI 99 (c.cs.take i)).length<=100:=by simp[nmsI];omega
   have t:=QlP (i:=x.1) (by omega);have k:=QnC (ch:=99) h.cn (by omega) f;have d:(uUp (c.cs.take i)).length<=1000000:=by have:=QiY (l:=c.cs.take i) fun y A=>h.ca y (ZaU A);omega
   have w:=union84 (uUp (c.cs.take i)) x.2.al d (by have:=Qge g.wf;omega);rw[<-Qra f]at w;have p:=QlW (ch:=99) f;refine ZcF (ZcJ b l o) ?_;refine SU.chc (item83F _ _ _ _ g t k n ZbP (by decide) (fun e he=>Zat.2 (g.a5 e he)) gg) ?_;refine ZcE ?_;refine cp w ?_;refine ZcE ?_;refine⟨i+1,by omega,by omega,?_⟩;rw[p];refine⟨[(50,.blk 50 0),(68,.blk 68 0)],rfl,au0,?_,au18⟩;exact Zcj rfl rfl gg (Zca a) (Zcl rfl rfl gg (RnM.mapS fun _ _=>Zb9 rfl) Zci)
  have e:i=c.cs.length:=by omega
  subst e;refine ZcF (ZcI b @Zau) ?_;refine⟨(),?_⟩;refine⟨[(50,.blk 50 0),(68,.blk 68 0)],rfl,au0,?_,au18⟩;exact Zcj rfl rfl gg (Zca a) (Zcl rfl rfl gg (RnM.mapS fun _ _=>Zb9 rfl) Zci)
 rintro _ _;refine ZcE ?_;refine Qat 340 (fun i:Nat=>[(1,.ptr 50 0 0),(5,.map 68 0),(7,sliN (uUp c.cs)),(74,its 114 c.rs),(75,.int .i64 c.rs.length),(76,.int .i64 i)]) (fun i=>[(50,.cells 0 [evsV c.ev,its 99 c.cs,its 114 c.rs,exs c.xs,cos c.ks]),(68,nmsB (nmsI 99 c.cs++nmsI 114 (c.rs.take i)))]) (fun i=>i<=c.rs.length) (fun i=>c.rs.length-i) 0 5 380 (fun _:Unit=>[(1,.ptr 50 0 0)]) (fun _=>[(50,.cells 0 [evsV c.ev,its 99 c.cs,its 114 c.rs,exs c.xs,cos c.ks])]) (fun _=>True) ?_ (Zaj _) ?_ ?_;·rw[show nmsI 99 c.cs++nmsI 114 (c.rs.take 0)=nmsI 99 c.cs by simp[nmsI]];refine⟨[(50,.blk 50 0),(68,.blk 68 0)],rfl,au0,?_,au18⟩;exact Zcj rfl rfl gg (Zca a) (Zcl rfl rfl gg (RnM.mapS fun _ _=>Zb9 rfl) Zci)
 ·rintro i hi;by_cases b:i<c.rs.length
  ·obtain⟨x,f⟩:=Qaq b;have m:=Zae f;have l:=SU.Qdj (ch:=114) f;have o:5<=((c.rs.flatMap (itC 114)).drop (i*5)).length:=by rw[l];simp
   have g:=h.ra x m;have u:=Qiq h.rn f;have n:(nmsI 99 c.cs++nmsI 114 (c.rs.take i)).length<=100:=by simp[nmsI];omega
   have t:=Qtx (i:=x.1) (by omega);have k:[114,UInt8.ofNat (48+x.1)]∉nmsI 99 c.cs++nmsI 114 (c.rs.take i):=by
    intro hm;rcases ZaE.1 hm with hm|hm;·exact Qp2 (by decide) hm
    exact QnC (ch:=114) h.rn (by omega) f hm
   have d:(uUp c.cs).length<=1000000:=by have:=QiY (l:=c.cs) h.ca;omega
   have p:=QlW (ch:=114) f;refine ZcF (ZcJ b l o) ?_;refine SU.chc (item83F _ _ _ _ g t k n (Qfj h.ca) d (fun e he=>(Qgu h.ca).2 (h.rsub x m e he)) gg) ?_;refine ZcE ?_;refine⟨i+1,by omega,by omega,?_⟩;rw[p,<-ZaP];refine⟨[(50,.blk 50 0),(68,.blk 68 0)],rfl,au0,?_,au18⟩;exact Zcj rfl rfl gg (Zca a) (Zcl rfl rfl gg (RnM.mapS fun _ _=>Zb9 rfl) Zci)
  refine ZcF b ?_;refine⟨(),?_⟩;refine⟨[(50,.blk 50 0)],rfl,au0,?_,au18⟩;exact Zcj rfl rfl gg (Zca a) Zci
 rintro _ _;refine ZcE ?_;refine cp v ?_;refine ZcE ?_;refine cp s ?_;refine ZcE ?_;exact⟨.inr trivial,_,rfl,rfl⟩
end Go.AM.SO
namespace Go.AM.SO
open Go.Proofs Go.AM.SD Go.AM.SE
theorem u8_wf{n:Int}(h:(Lit.int .u8 n).wf=true):0<=n/\n<256:=by grind[Lit.wf,IntKind.min,IntKind.max,IntKind.signed,IntKind.bits]
theorem i8_wf{n:Int}(h:(Lit.int .i8 n).wf=true):-128<=n/\n<128:=by grind[Lit.wf,IntKind.min,IntKind.max,IntKind.signed,IntKind.bits]
def u8O:Ty->Bool|.int k=>k==.u8|.arr _ t=>u8O t|.st t=>u8O t|.unit=>true|.pair a b=>u8O a&&u8O b|_=>false
theorem Qfk{a b:List Nat}:u8s (a++b)=u8s a++u8s b:=by simp[u8s]
theorem QbV:∀(t:Ty),u8O t=true->∀(d:t.D),t.wf d->∃l:List Nat,l.length=t.sz/\(∀x∈l,x<256)/\t.cells d=u8s l
 |.int k,h,d,hw=>by
  have:k=.u8:=by grind[u8O]
  subst this;have:=u8_wf hw;refine⟨[Int.toNat d],rfl,by simp;omega,?_⟩;show[AV.int .u8 d]=[AV.int .u8 ((Int.toNat d:Nat):Int)];grind|.bool,h,_,_=>by cases h|.str,h,_,_=>by cases h|.sl _,h,_,_=>by cases h|.st t,h,d,hw=>QbV t h d hw|.unit,_,_,_=>⟨[],rfl,by simp,rfl⟩|.pair a b,h,d,hw=>by simp only[u8O,Zab]at h;obtain⟨l,h1,g,i⟩:=QbV a h.1 d.1 hw.1;obtain⟨m,g1,g2,g3⟩:=QbV b h.2 d.2 hw.2;refine⟨l++m,by rw[Zaf,h1,g1];rfl,fun x c=>(ZaE.1 c).elim (g x) (g2 x),?_⟩;show a.cells d.1++b.cells d.2=_;rw[i,g3,Qfk]|.arr n t,h,d,hw=>by
  obtain⟨f,c⟩:=hw;have key:∀l:List t.D,(∀x∈l,t.wf x)->∃r:List Nat,r.length=l.length*t.sz/\(∀x∈r,x<256)/\l.flatMap t.cells=u8s r:=by intro l;induction l with|nil=>intro _;exact⟨[],by simp,by simp,rfl⟩|cons a l o=>intro f;obtain⟨r,g1,g2,g3⟩:=o fun y p=>f y (by simp[p]);obtain⟨m,h1,g,i⟩:=QbV t h a (f a (by simp));refine⟨m++r,by grind,fun x c=>(ZaE.1 c).elim (g x) (g2 x),?_⟩;rw[Zax,g3,i,Qfk]
  obtain⟨r,g1,g2,g3⟩:=key d c;refine⟨r,by rw[g1];show List.length d*t.sz=n*t.sz;rw[f],g2,g3⟩
abbrev tyTo:Ty:=.arr 5 (.arr 5 (.int .u8))
abbrev tyGr:Ty:=.st (.pair (.int .u8) (.pair (.int .u8) (.pair tyTo .unit)))
abbrev tyPln:Ty:=.st (.pair (.arr 5 (.int .u8)) (.pair (.int .u8) (.pair (.arr 3 (.int .u8)) (.pair (.arr 3 tyGr) (.pair (.int .u8) (.pair (.arr 2 (.int .u8)) (.pair (.arr 2 tyGr) (.pair (.sl (.arr 4 (.int .u8))) (.pair (.arr 3 (.int .i8)) (.pair (.int .i8) .unit))))))))))
theorem Qty{d:tyPln.D}(h:tyPln.wf d):∃p:Pln,POk p/\p.xn<=9223372036854775807/\tyPln.val d=plnV p:=by
 obtain⟨a,b,c,g,e,f,k,x,y,z,u⟩:=d;obtain⟨h1,C,w,v,s,B,t,q,A,o,_⟩:=h;dsimp only at h1 C w v s B t q A o;obtain⟨X,a1,b1,c1⟩:=QbV (.arr 5 (.int .u8)) rfl _ h1;obtain⟨E,a2,b2,c2⟩:=QbV (.int .u8) rfl _ C;obtain⟨R,a3,b3,T⟩:=QbV (.arr 3 (.int .u8)) rfl _ w;obtain⟨H,a4,b4,N⟩:=QbV (.arr 3 tyGr) rfl _ v;obtain⟨P,a5,b5,K⟩:=QbV (.int .u8) rfl _ s;obtain⟨F,I,b6,G⟩:=QbV (.arr 2 (.int .u8)) rfl _ B;obtain⟨Y,Z,b7,O⟩:=QbV (.arr 2 tyGr) rfl _ t;obtain⟨r,q⟩:=q;obtain⟨L,V,b8,M⟩:=QbV (.arr (List.length x) (.arr 4 (.int .u8))) rfl x ⟨rfl,q⟩;obtain⟨Q,n⟩:=A;obtain⟨i,l,m,rfl⟩:∃i l m,y=[i,l,m]:=by match y,Q with|[i,l,m],_=>exact⟨i,l,m,rfl⟩
 have J:=i8_wf (n i (by simp));have S:=i8_wf (n l (by simp));have w2:=i8_wf (n m (by simp));have U:=i8_wf o;refine⟨⟨X++E++R++H++P++F++Y,L,List.length x,i,l,m,z⟩,⟨?_,?_,V,b8,J,S,w2,U⟩,r,?_⟩;·simp only[Zaf,a1,a2,a3,a4,a5,I,Z];rfl
 ·grind
 show AV.agg (tyPln.cells _)=_;congr 1;show(Ty.arr 5 (.int .u8)).cells a++((Ty.int .u8).cells b++((Ty.arr 3 (.int .u8)).cells c++((Ty.arr 3 tyGr).cells g++((Ty.int .u8).cells e++((Ty.arr 2 (.int .u8)).cells f++((Ty.arr 2 tyGr).cells k++([.fsl ((Ty.arr (List.length x) (.arr 4 (.int .u8))).cells x) (List.length x) 4]++((Ty.arr 3 (.int .i8)).cells [i,l,m]++((Ty.int .i8).cells z++[])))))))))=_;rw[c1,c2,T,N,K,G,O,M];simp only[plnC,Qfk,ZaP];rfl
end Go.AM.SO
namespace Go.AM.SO
open Go.Proofs Go.AM.SD Go.AM.SE
def itN(x:List UInt8×Aut):List AV:=[.str x.1,sliN x.2.al,.int .i64 (x.2.n:Int),sliN x.2.ms,egsN x.2.es]
theorem Qgf(l:List (List UInt8×Aut)):noRefs (l.flatMap itN)=true:=Qa0 (fun x=>by simp only[itN,noRefs,noRef,Qab,Qaf];rfl) l
def evl(e:Nat->Evt):List (List UInt8×Evt):=(List.range 5).map fun i=>([UInt8.ofNat (97+i)],e i)
def evN(x:List UInt8×Evt):List AV:=[.str x.1,.bool x.2.c,.bool x.2.o,.bool x.2.f,.int .i64 (x.2.flt:Int)]
abbrev evNV(x:List UInt8×Evt):AV:=.agg [.str x.1,.bool x.2.c,.bool x.2.o,.bool x.2.f,.int .i64 (x.2.flt:Int)]
abbrev evsN(l:List (List UInt8×Evt)):AV:=.fsl (l.flatMap evN) l.length 5
theorem QiZ(e:Nat->Evt):evsV e=evsN (evl e):=rfl
theorem Qfl(l:List (List UInt8×Evt)):noRefs (l.flatMap evN)=true:=Qa0 (fun x=>rfl) l
theorem QlX{l:List (List UInt8×Evt)}{i:Nat}{x:List UInt8×Evt}(h:l[i]?=some x):(l.flatMap evN).drop (i*5)=.str x.1::.bool x.2.c::.bool x.2.o::.bool x.2.f::.int .i64 (x.2.flt:Int)::(l.drop (i+1)).flatMap evN:=Qbf (f:=evN) (k:=5) (fun _=>rfl) h
end Go.AM.SO
namespace Go.AM.SO
open Go.Proofs Go.AM.SD Go.AM.SE
def uncL(e:Nat->Evt)(n:Nat):List Nat:=(List.range n).filter fun i=>!(e i).c
theorem Qrb(e:Nat->Evt)(n:Nat):uncL e (n+1)=uncL e n++if(e n).c then[]else[n]:=by unfold uncL;rw[ZaI,Zbm];cases h:(e n).c<;>simp[h]
theorem Qsa(e:Nat->Evt)(n:Nat):(uncL e n).length<=n:=by have:=Za3 (fun i=>!(e i).c) (List.range n);rwa[Zby]at this
theorem Qp3(e:Nat->Evt){i:Nat}(h:i<5):(evl e)[i]?=some ([UInt8.ofNat (97+i)],e i):=by unfold evl;rw[ZaG,Zbq h];rfl
theorem unc171(x:List UInt8×Evt):PSpec Tryz.prog 171 [evNV x] (.bool (!x.2.c)):=by refine Zcc 64 OE.ok171 rfl rfl rfl ?_;cases h:x.2.c;all_goals unfold OE.s171;refine ZcF h ?_;exact⟨.inr trivial,_,rfl,rfl⟩
theorem _root_.Go.AM.au19{p:Prop}(h:p:=by repeat(first|exact Zcg|(refine Zch ?_ ?_;·(first|exact Rn.any|exact Rn.x1 rfl rfl|exact Rn.x2 rfl rfl|exact Rn.x3 rfl rfl|exact Rn.x4 rfl rfl|exact Rn.x5 rfl|exact Rn.x6 rfl|exact Rn.x7 rfl|(refine Rn.slot ?_ ?_;(first|rfl|(rw[ZaO];rfl));(first|rfl|(simp only[noRef,noRefs,Qag,Zad,Zac,Zah,Qab,Qan,Qaa,Qgf,Qfl];done)))|(refine Rn.fn ?_ ?_<;>(repeat'(first|exact Zco|refine Zcp ?_ ?_|exact Zb9 rfl|exact Rn.x6 rfl|exact Rn.x2 rfl rfl|exact Rn.x5 rfl|exact Rn.x1 rfl rfl))))))):p:=h
theorem chosen176(e:Nat->Evt):PSpec Tryz.prog 176 [evsV e,.fn 171 [] []] (sliN (uncL e 5)):=by
 have k:=Qfl (evl e);rw[QiZ];refine Zcb 64 OE.ok176 rfl (by simp only[noRefs,noRef,k];rfl) (Qaa _) ?_;unfold OE.s176;refine ZcE ?_;refine Qat 100 (fun i:Nat=>[(1,.fn 171 [] []),(5,.sl 76 0 0 (uncL e i).length 1),(8,evsN (evl e)),(9,.int .i64 5),(10,.int .i64 i)]) (fun i=>[(76,.cells 0 (ints (nz (uncL e i))))]) (fun i=>i<=5) (fun i=>5-i) 0 0 160 (fun _:Unit=>[(5,sliN (uncL e 5))]) (fun _=>[]) (fun _=>True) ?_ (Zaj _) ?_ ?_;·refine⟨[(76,.nil)],rfl,au0,?_,au19⟩;exact Zck rfl rfl Zci
 ·rintro i hi;have l:=Qsa e i;by_cases g:i<5
  ·have c:=QlX (Qp3 e g);have d:5<=(((evl e).flatMap evN).drop (i*5)).length:=by rw[c];simp
   have a:=Qrb e i;have b:(i:Int)<5:=by omega
   have f:i<(evl e).length:=by simpa[evl]using g
   have hc:=unc171 ([UInt8.ofNat (97+i)],e i);cases h:(e i).c;·rw[h]at a;refine ZcF (ZcK b f c d) ?_;refine cp hc ?_;refine ZcF h ?_;refine⟨i+1,by omega,by omega,?_⟩;rw[a,if_neg (by simp),Zaf,QaH,QaA];refine⟨[(76,.blk 76 1)],rfl,au0,?_,au19⟩;exact Zcj rfl rfl gg (Zca (SU.Qaw (Qab _) rfl)) Zci
   rw[h]at a;refine ZcF (ZcK b f c d) ?_;refine cp hc ?_;refine ZcF h ?_;refine⟨i+1,by omega,by omega,?_⟩;rw[a,if_pos rfl,Zap];refine⟨[(76,.blk 76 0)],rfl,au0,?_,au19⟩;exact Zcj rfl rfl gg (Zca (Qab _)) Zci
  have m:i=5:=by omega
  subst m;refine ZcE ?_;refine⟨(),?_⟩;exact⟨[],rfl,Zcf,Zci,Zch (Zcq (b:=76) (g:=0) gg rfl rfl (by simp) (by simp[ints]) (Zca (Qab _))) Zcg⟩
 rintro _ _;refine ZcE ?_;exact⟨.inr trivial,_,rfl,Zb9 (Qaa _)⟩
theorem select86(e:Nat->Evt)(he:∀i,i<5->(e i).Ok):PSpec Tryz.prog 86 [evsV e,.int .i64 2] (.tup [sliN (uncL e 5),.int .i64 0]):=by
 have a:noRef (evsV e)=true:=by rw[QiZ];exact Qfl (evl e)
 refine Zcb 64 OE.ok86 rfl (by simp only[noRefs,a];rfl) (by simp only[noRef,noRefs,Qab];rfl) ?_;have b:=check82 e he;have hH:=chosen176 e;unfold OE.s86;refine ZcE ?_;refine cp b ?_;refine ZcE ?_;refine QbC ?_;refine ZcE ?_;refine Qcr (f:=fun _=>.any) (l:=[]) (x:=1) (by simp) (by decide) ?_;refine ZcE ?_;refine QbC ?_;refine ZcE ?_;refine Qcr (x:=2) (by simp) (by decide) ?_;refine ZcE ?_;refine QbC ?_;refine ZcE ?_;refine Qcr (x:=3) (by simp) (by decide) ?_;refine ZcE ?_;refine QbC ?_;refine ZcE ?_;refine Qcr (x:=4) (by simp) (by decide) ?_;refine ZcE ?_;refine QbC ?_;refine ZcE ?_;refine Qcr (x:=5) (by simp) (by decide) ?_;refine ZcE ?_;refine QbC ?_;refine ZcE ?_;refine Qcr (x:=6) (by simp) (by decide) ?_;refine ZcE ?_;refine Qdo ?_;refine ZcE ?_;refine wK_in (x:=2) (by simp) ?_;have hu:updF (updF (updF (updF (updF (updF (fun _=>.any) 1 (.fn 170 [] [])) 2 (.fn 171 [] [])) 3 (.fn 172 [] [])) 4 (.fn 173 [] [])) 5 (.fn 174 [] [])) 6 (.fn 175 [] []) 2=.fn 171 [] []:=rfl;refine ZcF hu ?_;refine cp hH ?_;refine ZcE ?_;exact⟨.inr trivial,_,rfl,Zb9 (by simp only[noRef,noRefs,Qab];rfl)⟩
end Go.AM.SO
namespace Go.AM.TQ
open Go.Proofs
set_option maxHeartbeats 4000000
noncomputable section
def cf:YA.Cf:={most:=.pure,always:=[48,115,203].map fun k=>(k,.heap),value:=.pure}
def s18:SFn:=by
 refine(?f:YA.Yt Tryz.prog cf 18 [[0],[19,20,18,21,22],[23],[1,4,5,24,25,26],[5,24,27,28,29,30,31],[32,33,34],[],[38,39,40,41],[8,43,44,45,42,46,47],[48,49,50,51,52,53,54],[55,56,57,58,59,60,61,62,63,64,65,66,67,68,69,70,71,72,73,74],[9,76,77,78,79,80,81,75,82,83,84,85,15],[14],[7,10,11,12,13,86,87,88,89,90,91,92,93,94,95],[10,11,12,13,86,96,97,98],[99,100],[101],[102,103,104,105,106,107],[7,16,17,108,109,110,111,112,113,114,115,116,117],[7,99,118],[1,4,6,35,36,37,119]] [(10,[(4,7),(5,7),(4,13),(5,13),(10,13),(11,13),(3,15),(5,15),(9,15),(11,15)])]) ?s ?h;case h=>exact YA.rr
 exact fun s _=>s
def s48:SFn:=by
 refine(?f:YA.Yt Tryz.prog cf 48 [[4],[6],[],[9,10],[11,12,13,14,15],[0,1,7,8,5,16,17],[4,5,16,18],[0,1,7,8]]) ?s ?h;case h=>exact YA.rr
 exact fun s _=>s
def s71:SFn:=by
 refine(?f:YA.Yt Tryz.prog cf 71 [[4,5],[0,7,8,9,10,11,12],[1,6,13,14,15,16,17,18,19]]) ?s ?h;case h=>exact YA.rr
 exact fun s _=>s
def s73:SFn:=by
 refine(?f:YA.Yt Tryz.prog cf 73 [[0,4,5,6,7],[10,11,12],[13],[1,2,8,14,15],[4,5,6,7,1,8,14,16,17,18,19],[26,27],[2,9,25],[25,29,30,31,32,33],[2,9,28,34],[2,9,28,20,21,22,23,24]]) ?s ?h;case h=>exact YA.rr
 exact fun s _=>s
def s74:SFn:=by
 refine(?f:YA.Yt Tryz.prog cf 74 [[0,1,2,6],[3,4,5,7]]) ?s ?h;case h=>exact YA.rr
 exact fun s _=>s
def s115:SFn:=by
 refine(?f:YA.Yt Tryz.prog cf 115 [[4],[0,1,5,6,7,8]]) ?s ?h;case h=>exact YA.rr
 exact fun s _=>s
def s157:SFn:=by
 refine(?f:YA.Yt Tryz.prog cf 157 [[0,4],[6,7],[8],[1,2,5,9,10],[1,2,5,9,11,12,13]]) ?s ?h;case h=>exact YA.rr
 exact fun s _=>s
def s158:SFn:=by
 refine(?f:YA.Yt Tryz.prog cf 158 [[1,4],[0,3,5,6,7]]) ?s ?h;case h=>exact YA.rr
 exact fun s _=>s
def s159:SFn:=by
 refine(?f:YA.Yt Tryz.prog cf 159 [[0,2],[],[8],[],[12,13,14],[5,15,16,17,18,19],[20],[1,9,10,11,21],[],[25,26,27],[7,28,29,30,31,32],[33],[3,22,23,24,34]]) ?s ?h;case h=>exact YA.rr
 exact fun s _=>s
def s161:SFn:=by
 refine(?f:YA.Yt Tryz.prog cf 161 [[0,4,5],[10,11,12],[13],[1,2,6,14,15],[4,5,6,14],[1,2,16,17],[],[21,22,23],[9,24,25,26,27,28],[29],[7,18,19,20,30]]) ?s ?h;case h=>exact YA.rr
 exact fun s _=>s
def s162:SFn:=by
 refine(?f:YA.Yt Tryz.prog cf 162 [[6],[0,12,13,14,15],[],[19,20,21,22],[23,24,25,26,27],[8,28,30,31,32,33,34,35,36,37,29,38,39,40,9,11],[10,41],[1,2,16,17,18,7,42,43],[6,7,42,44],[1,2,16,17,18]]) ?s ?h;case h=>exact YA.rr
 exact fun s _=>s
def s195:SFn:=by
 refine(?f:YA.Yt Tryz.prog cf 195 [[4],[6],[],[9,10],[11,12,13,14,15],[0,1,7,8,5,16,17],[4,5,16,18],[0,1,7,8]]) ?s ?h;case h=>exact YA.rr
 exact fun s _=>s
def s202:SFn:=by
 refine(?f:YA.Yt Tryz.prog cf 202 [[0,4],[7,8,9,10,11],[1,2,12],[4,1,12],[],[16,17,18,19],[5,6,20,21,22],[2,13,14,15,29,23,28,27,25,26,24,30],[4,30,31],[2,13,14,15,29,23,28,27,25,26,24]]) ?s ?h;case h=>exact YA.rr
 exact fun s _=>s
def s203:SFn:=by
 refine(?f:YA.Yt Tryz.prog cf 203 [[4],[6],[],[9,10],[11,12,13,14,15],[0,1,7,8,5,16,17],[4,5,16,18],[0,1,7,8]]) ?s ?h;case h=>exact YA.rr
 exact fun s _=>s
def s204:SFn:=by
 refine(?f:YA.Yt Tryz.prog cf 204 [[3],[0,1,4,5,6]]) ?s ?h;case h=>exact YA.rr
 exact fun s _=>s
def s205:SFn:=by
 refine(?f:YA.Yt Tryz.prog cf 205 [[0,2],[1,3]]) ?s ?h;case h=>exact YA.rr
 exact fun s _=>s
def s206:SFn:=by
 refine(?f:YA.Yt Tryz.prog cf 206 [[0,2],[1,3]]) ?s ?h;case h=>exact YA.rr
 exact fun s _=>s
def s207:SFn:=by
 refine(?f:YA.Yt Tryz.prog cf 207 [[0,4],[6,7],[8],[1,2,5,9,10],[4,1,2,5,9,11,12,13,14,15,16,17],[18],[18]]) ?s ?h;case h=>exact YA.rr
 exact fun s _=>s
def s208:SFn:=by
 refine(?f:YA.Yt Tryz.prog cf 208 [[0,6,7,8],[10,11,12],[13],[1,2,3,14,15],[8,6,7,14,16,17,18,19],[1,2,3,20],[6,7,8,1,2,3,20,21,22,23,24],[25],[9,26,27],[9,26]]) ?s ?h;case h=>exact YA.rr
 exact fun s _=>s
def s226:SFn:=by
 refine(?f:YA.Yt Tryz.prog cf 226 [[0,2,6],[1,3,9,10,11],[5,12,13,14],[15],[7,8,16],[7,8,16,17,18,19,20,21]]) ?s ?h;case h=>exact YA.rr
 exact fun s _=>s
def s233:SFn:=by
 refine(?f:YA.Yt Tryz.prog cf 233 [[0,3],[1,2,4,5,6,7,8]]) ?s ?h;case h=>exact YA.rr
 exact fun s _=>s
def s234:SFn:=by
 refine(?f:YA.Yt Tryz.prog cf 234 [[0,3],[1,2,4,5,6,7,8,9,10,11]]) ?s ?h;case h=>exact YA.rr
 exact fun s _=>s
def s235:SFn:=by
 refine(?f:YA.Yt Tryz.prog cf 235 [[3],[0,1,4,5,6,7,8,9]]) ?s ?h;case h=>exact YA.rr
 exact fun s _=>s
def s236:SFn:=by
 refine(?f:YA.Yt Tryz.prog cf 236 [[0,4],[],[2,8],[],[12,13,14],[7,15,16,17,18,19,20,21,22,23,24],[25],[1,5,9,10,11,26]]) ?s ?h;case h=>exact YA.rr
 exact fun s _=>s
def s262:SFn:=by
 refine(?f:YA.Yt Tryz.prog cf 262 [[0,3],[1,2,4,5,6,7]]) ?s ?h;case h=>exact YA.rr
 exact fun s _=>s
theorem ok18:okFn Tryz.prog 18 s18=true:=by kernel_rfl
theorem ok48:okFn Tryz.prog 48 s48=true:=by kernel_rfl
theorem ok71:okFn Tryz.prog 71 s71=true:=by kernel_rfl
theorem ok73:okFn Tryz.prog 73 s73=true:=by kernel_rfl
theorem ok74:okFn Tryz.prog 74 s74=true:=by kernel_rfl
theorem ok115:okFn Tryz.prog 115 s115=true:=by kernel_rfl
theorem ok157:okFn Tryz.prog 157 s157=true:=by kernel_rfl
theorem ok158:okFn Tryz.prog 158 s158=true:=by kernel_rfl
theorem ok159:okFn Tryz.prog 159 s159=true:=by kernel_rfl
theorem ok161:okFn Tryz.prog 161 s161=true:=by kernel_rfl
theorem ok162:okFn Tryz.prog 162 s162=true:=by kernel_rfl
theorem ok195:okFn Tryz.prog 195 s195=true:=by kernel_rfl
theorem ok202:okFn Tryz.prog 202 s202=true:=by kernel_rfl
theorem ok203:okFn Tryz.prog 203 s203=true:=by kernel_rfl
theorem ok204:okFn Tryz.prog 204 s204=true:=by kernel_rfl
theorem ok205:okFn Tryz.prog 205 s205=true:=by kernel_rfl
theorem ok206:okFn Tryz.prog 206 s206=true:=by kernel_rfl
theorem ok207:okFn Tryz.prog 207 s207=true:=by kernel_rfl
theorem ok208:okFn Tryz.prog 208 s208=true:=by kernel_rfl
theorem ok226:okFn Tryz.prog 226 s226=true:=by kernel_rfl
theorem ok233:okFn Tryz.prog 233 s233=true:=by kernel_rfl
theorem ok234:okFn Tryz.prog 234 s234=true:=by kernel_rfl
theorem ok235:okFn Tryz.prog 235 s235=true:=by kernel_rfl
theorem ok236:okFn Tryz.prog 236 s236=true:=by kernel_rfl
theorem ok262:okFn Tryz.prog 262 s262=true:=by kernel_rfl
end
end Go.AM.TQ
namespace Go.AM.TP
open Go.Proofs
set_option maxHeartbeats 4000000
noncomputable section
def cf:YA.Cf:={most:=.pure,always:=[41].map fun k=>(k,.heap)}
def s17:SFn:=by
 refine(?f:YA.Yt Tryz.prog cf 17 [[0,3,4],[6,7],[8],[1,5,9,10,11],[1,5,9,12,13,14,15,16,17,18]]) ?s ?h;case h=>exact YA.rr
 exact fun s _=>s
def s28:SFn:=by
 refine(?f:YA.Yt Tryz.prog cf 28 [[3,4],[17,18],[19],[0,5,20,21,22],[3,4,0,5,20,23,24],[25,26,27],[29,30,28,31,32],[8,33],[6,7,34,35],[4,34,36,37],[7,38,39,40,41],[],[42,43,44],[45,48,49,50,51,52],[53,54,55,56,57,58,59],[53,60],[],[64,65,66],[68,69,70,71,72,73,74,67,75,76],[14,77],[78,80,81,82,83,79,84,85],[16,86],[15,87,88,89],[6,9,10,61,62,63,12,13,90,91],[4,90,92,93],[94,95,96,97],[13,98,99,100,101],[12,15,13,87,102,103,104,105,106,107,108,109,110],[111],[61,62,63,46,47],[6,9,10,112,113,114],[115,116]]) ?s ?h;case h=>exact YA.rr
 exact fun s _=>s
def s69:SFn:=by
 refine(?f:YA.Yt Tryz.prog cf 69 [[2],[],[0],[],[9,10,11],[5,12,13,14,15,16],[17],[3,6,7,8,18]]) ?s ?h;case h=>exact YA.rr
 exact fun s _=>s
def s95:SFn:=by
 refine(?f:YA.Yt Tryz.prog cf 95 [[2],[6,7],[0,8],[2,0,8],[],[12,13,14],[4,15,16],[17],[9,10,11,5,18,19],[2,5,18,20],[9,10,11]]) ?s ?h;case h=>exact YA.rr
 exact fun s _=>s
def s96:SFn:=by
 refine(?f:YA.Yt Tryz.prog cf 96 [[],[9,10,11,12],[0],[],[16,17,18],[19],[5,20],[],[24,25,26],[8,27,28,29,30,31,32,33,34],[35],[6,21,22,23,36,37,38,39,40,41],[42],[3,13,14,15,43]]) ?s ?h;case h=>exact YA.rr
 exact fun s _=>s
def s97:SFn:=by
 refine(?f:YA.Yt Tryz.prog cf 97 [[0,2,3],[6],[],[10,11,12],[5,13,14],[1,7,8,9,15],[2,3,15,16],[1,7,8,9,17,18,19,20]]) ?s ?h;case h=>exact YA.rr
 exact fun s _=>s
def s99:SFn:=by
 refine(?f:YA.Yt Tryz.prog cf 99 [[0,4],[2,7],[],[11,12,13,14],[6,5,15,16,17,18,19,20,21],[1,8,9,10,22],[4,22,23],[1,8,9,10]]) ?s ?h;case h=>exact YA.rr
 exact fun s _=>s
def s100:SFn:=by
 refine(?f:YA.Yt Tryz.prog cf 100 [[0,6,7],[13,14],[15],[],[19,20,21,22],[10,23,24,25,26],[27,29,30,31,32,33,34,35,36,37,38,39,40,28,41,42],[12,43],[1,2,3,8,16,17,18,9,11,44],[6,7,9,11,44,45,46,47,48],[49],[1,2,3,8,16,17,18,50]]) ?s ?h;case h=>exact YA.rr
 exact fun s _=>s
def s187:SFn:=by
 refine(?f:YA.Yt Tryz.prog cf 187 [[2],[],[0],[],[9,10,11],[5,12,13,14,15],[16],[3,6,7,8,17]]) ?s ?h;case h=>exact YA.rr
 exact fun s _=>s
def s189:SFn:=by
 refine(?f:YA.Yt Tryz.prog cf 189 [[4],[0,1,8,9,10,7,11,12,5],[6,13]]) ?s ?h;case h=>exact YA.rr
 exact fun s _=>s
theorem ok17:okFn Tryz.prog 17 s17=true:=by kernel_rfl
theorem ok28:okFn Tryz.prog 28 s28=true:=by kernel_rfl
theorem ok69:okFn Tryz.prog 69 s69=true:=by kernel_rfl
theorem ok95:okFn Tryz.prog 95 s95=true:=by kernel_rfl
theorem ok96:okFn Tryz.prog 96 s96=true:=by kernel_rfl
theorem ok97:okFn Tryz.prog 97 s97=true:=by kernel_rfl
theorem ok99:okFn Tryz.prog 99 s99=true:=by kernel_rfl
theorem ok100:okFn Tryz.prog 100 s100=true:=by kernel_rfl
theorem ok187:okFn Tryz.prog 187 s187=true:=by kernel_rfl
theorem ok189:okFn Tryz.prog 189 s189=true:=by kernel_rfl
end
end Go.AM.TP
namespace Go.AM
section
variable{m:Nat}{π:Nat->Option Src}{h:Heap}
theorem Rn.frzM{b g:Nat}{es:List (AV×AV)}{ks vs:List AV}(l:h.get b=some (.map g es))(hm:m<=b)(n:∀i r,m<=i->π i≠some (.blk b r))(hk:RnL m π h ks (es.map (·.1)))(p:RnL m π h vs (es.map (·.2))):Rn m π h (.fmap ks vs) (.map b g):=fun _ c w v H M d=>by simp only[VRel]at d;obtain⟨q,hp,rfl⟩:=d;obtain⟨ms,clock,hO,s,f,o⟩:=H.atMap l hp;have a:=M.out H ⟨_,l,rfl,fun k=>by simp⟩ hp hm n;obtain⟨g1,g2,g3⟩:=Qiy f;have t:=QbB f;simp only[VRel];exact⟨q,ms,clock,rfl,.inr ⟨hO,a⟩,s,by simp_all,g1,hk.rels H M g2,p.rels H M g3⟩
end
end Go.AM
set_option linter.unusedSectionVars false
namespace Go.AM
variable{P:Program}{α:Type}[DecidableEq α]
def mapG(c:α->AV)(f:α->AV)(l:List α):List (AV×AV):=l.map fun x=>(c x,f x)
def updG(f:α->AV)(x:α)(v:AV):α->AV:=fun y=>if y=x then v else f y
def KeyG(row:Bool)(ks:List LK)(c:α->AV)(x:α)(l:List α):Prop:=keyOK row ks (c x)=true/\∀y∈l,keyEq row ks (c x) (c y)=some (decide (x=y))
theorem Qgg{row:Bool}{ks:List LK}{c f:α->AV}{x:α}:∀(l:List α)(i:Nat),KeyG row ks c x l->x∈l->aFind row ks (c x) (mapG c f l) i=some (some (i+l.findIdx (·==x),f x))
 |y::l,i,hk,d=>by
  show(match keyEq row ks (c x) (c y)with|some true=>_|some false=>_|none=>_)=_;rw[hk.2 y (by simp),List.findIdx_cons];by_cases e:x=y;·subst e;simp
  have a:(y==x)=false:=by grind
  rw[decide_eq_false e,a];show aFind row ks (c x) (mapG c f l) (i+1)=_;rw[Qgg l (i+1) ⟨hk.1,fun y b=>hk.2 y (by simp[b])⟩ ((Zaw.1 d).resolve_left e)];grind
theorem QdG{row:Bool}{ks:List LK}{c f:α->AV}{x:α}:∀(l:List α)(i:Nat),KeyG row ks c x l->x∉l->aFind row ks (c x) (mapG c f l) i=some none|[],_,_,_=>rfl|y::l,i,hk,a=>by simp only[Zaw,not_or]at a;show(match keyEq row ks (c x) (c y)with|some true=>_|some false=>_|none=>_)=_;rw[hk.2 y (by simp),decide_eq_false a.1];exact QdG l (i+1) ⟨hk.1,fun y b=>hk.2 y (by simp[b])⟩ a.2
theorem Qrc{c f:α->AV}{x:α}{v:AV}{l:List α}(a:x∉l):mapG c f l++[(c x,v)]=mapG c (updG f x v) (l++[x]):=by grind[mapG,updG,ZaY]
theorem Qir{c f g:α->AV}{l:List α}(h:∀x∈l,f x=g x):mapG c f l=mapG c g l:=ZaY fun x a=>by rw[h x a]
abbrev fmapG(c f:α->AV)(l:List α):AV:=.fmap (l.map c) (l.map f)
theorem QlY{c f:α->AV}(l:List α):(l.map c).zip (l.map f)=mapG c f l:=by induction l with|nil=>rfl|cons x l a=>simp only[ZaK,List.zip_cons_cons,a];rfl
section
variable{N:NM}{d:Option Nat}{r:List SOper}{dead:List Nat}{fs:List Fr}{n:Nat}{T:Tmps}{h:Heap}{Q:QC}{row:Bool}{ks:List LK}{c f:α->AV}{x:α}{l:List α}{b g:Nat}{z v:AV}{ok:Bool}
theorem Qg9(i:h.get b=some (.map g (mapG c f l)))(a:KeyG row ks c x l)(k:x∈l)(hk:wR P N r dead fs (n+1) (putD T d (if ok then .tup [f x,.bool true]else f x)) h Q):wM P N (aLookup row ks z ok (.map b g) (c x)) d r dead fs n T h Q:=by
 refine⟨_,h,?_,hk⟩;have m:Nat.beq g g=true:=by simp
 unfold aLookup;rw[if_pos a.1];simp_all[HM.entries,HM.run,Qgg]
theorem QcV(i:h.get b=some (.map g (mapG c f l)))(a:KeyG row ks c x l)(k:x∉l)(hk:wR P N r dead fs (n+1) (putD T d (if ok then .tup [z,.bool false]else z)) h Q):wM P N (aLookup row ks z ok (.map b g) (c x)) d r dead fs n T h Q:=by
 refine⟨_,h,?_,hk⟩;have m:Nat.beq g g=true:=by simp
 unfold aLookup;rw[if_pos a.1];simp_all[HM.entries,HM.run,QdG]
theorem Qgh(a:KeyG row ks c x l)(b:x∈l)(hk:wR P N r dead fs (n+1) (putD T d (if ok then .tup [f x,.bool true]else f x)) h Q):wM P N (aLookup row ks z ok (fmapG c f l) (c x)) d r dead fs n T h Q:=by refine⟨_,h,?_,hk⟩;unfold aLookup;rw[if_pos a.1];simp only[fmapG];rw[QlY,Qgg l 0 a b];rfl
theorem Qkw(a:KeyG row ks c x l)(b:x∉l)(hk:wR P N r dead fs (n+1) (putD T d (if ok then .tup [z,.bool false]else z)) h Q):wM P N (aLookup row ks z ok (fmapG c f l) (c x)) d r dead fs n T h Q:=by refine⟨_,h,?_,hk⟩;unfold aLookup;rw[if_pos a.1];simp only[fmapG];rw[QlY,QdG l 0 a b];rfl
theorem Qck(m:h.get b=some (.map g (mapG c f l)))(i:KeyG row ks c x l)(k:x∉l)(o:b<1099511627775)(hk:wR P N r dead fs (n+1) (putD T d .any) (h.set b (.map g (mapG c (updG f x v) (l++[x])))) Q):wM P N (aMapUpd row ks (.map b g) (c x) v) d r dead fs n T h Q:=by
 refine⟨_,_,?_,hk⟩;have p:Nat.beq g g=true:=by simp
 have a:Nat.blt b lim=true:=by simp[Nat.blt];exact o
 unfold aMapUpd;rw[if_pos i.1];simp only[HM.entries,HM.run,m,p,cond_true,QdG l 0 i k,a,Qrc k]
end
theorem RnM.mapG{m:Nat}{π:Nat->Option Src}{h:Heap}{c f:α->AV}:∀{l:List α},(∀x∈l,noRef (c x)=true/\noRef (f x)=true)->RnM m π h (mapG c f l) (mapG c f l)|[],_=>trivial|x::l,hf=>⟨⟨Zb9 (hf x (by simp)).1,Zb9 (hf x (by simp)).2⟩,RnM.mapG (l:=l) fun y a=>hf y (by simp[a])⟩
abbrev kP(x:Nat×Nat):AV:=.agg [.int .i64 (x.1:Int),.int .i64 (x.2:Int)]
theorem QlZ{x:Nat×Nat}{l:List (Nat×Nat)}:KeyG true [.i,.i] kP x l:=by
 have key:∀y:Nat×Nat,keyEq true [.i,.i] (kP x) (kP y)=some (decide (x=y)):=by intro y;obtain⟨a,b⟩:=x;obtain⟨c,d⟩:=y;simp only[keyEq,eqCells,eqCell,Zag];by_cases f:a=c<;>by_cases g:b=d<;>simp[f,g]<;>omega
 refine⟨?_,fun y _=>key y⟩;simp_all[keyOK]
end Go.AM
namespace Go.AM
theorem Rn.fzM{α:Type}{m:Nat}{h:Heap}{n:List (Nat×Src)}{b g:Nat}{c f:α->AV}{l:List α}(a:h.get b=some (.map g (mapG c f l)))(o:srcNew (.blk b g) n=true)(hm:Nat.ble m b=true)(hk:∀x∈l,noRef (c x)=true/\noRef (f x)=true):Rn m (ow m n) h (fmapG c f l) (.map b g):=by
 refine Rn.frzM a (by simpa using hm) (fun p q i e=>?_) ?_ ?_;·rw[ow_ge i]at e;exact QiK o p _ e rfl
 ·have e:(mapG c f l).map (·.1)=l.map c:=by simp[mapG]
  rw[e];clear a e;induction l with|nil=>trivial|cons x l k=>exact⟨Zb9 (hk x (by simp)).1,k fun y d=>hk y (by simp[d])⟩
 have e:(mapG c f l).map (·.2)=l.map f:=by simp[mapG]
 rw[e];clear a e;induction l with|nil=>trivial|cons x l k=>exact⟨Zb9 (hk x (by simp)).2,k fun y d=>hk y (by simp[d])⟩
end Go.AM
theorem _root_.Go.AM.Zcx:type_of%@Go.AM.RnM.mapG:=@Go.AM.RnM.mapG
namespace Go.AM.SO
open Go.Proofs Go.AM.SD Go.AM.SE
def stp(l:List Aut)(t:List Nat)(e:Nat):Nat->Option (List Nat)|0=>some t|k+1=>match stp l t e k with|none=>none|some n=>match l[k]? with|none=>some n|some a=>if e∈a.al then(match stepA a.es (t.getD k 0) e with|some to=>some (n.set k to)|none=>none)else some n
def stepT(l:List Aut)(t:List Nat)(e:Nat):Option (List Nat):=stp l t e l.length
def Stp(l:List Aut)(t:List Nat)(e:Nat)(n:List Nat)(k:Nat):Prop:=n.length=t.length/\(∀i,k<=i->n[i]?=t[i]?)/\∀i a,i<k->l[i]?=some a->if e∈a.al then stepA a.es (t.getD i 0) e=n[i]? else n[i]?=t[i]?
theorem Qfm{l:List Aut}{t n:List Nat}{e:Nat}:∀{k:Nat},k<=l.length->l.length<=t.length->(stp l t e k=some n↔Stp l t e n k)
 |0,_,_=>by
  unfold stp Stp;constructor;·simp_all
  rintro⟨_,h,_⟩;have:t=n:=Zbo fun i=>(h i (Zaj _)).symm;rw[this]|k+1,hk,p=>by
  obtain⟨a,s⟩:=Qaq (l:=l) (i:=k) (by omega);have u:k<t.length:=by omega
  unfold stp;rw[s];constructor;·intro h;cases hm:stp l t e k with|none=>rw[hm]at h;cases h|some m=>
   rw[hm]at h;dsimp only at h;obtain⟨h1,r,d⟩:=(Qfm (n:=m) (by omega) p).1 hm;by_cases he:e∈a.al;·rw[if_pos he]at h;cases q:stepA a.es (t.getD k 0) e with|none=>rw[q]at h;cases h|some to=>
    rw[q]at h;cases h;refine⟨by simp_all,fun i hi=>by grind,fun i b hi c=>?_⟩;by_cases g:i=k;·simp_all
    rw[List.getElem?_set_ne (by omega)];exact d i b (by omega) c
   rw[if_neg he]at h;cases h;refine⟨h1,fun i hi=>r i (by omega),fun i b hi c=>?_⟩;by_cases g:i=k;·grind
   exact d i b (by omega) c
  rintro⟨h1,r,d⟩;have f:=d k a (Nat.lt_succ_self _) s;by_cases he:e∈a.al
  ·rw[if_pos he]at f;have o:Stp l t e (n.set k (t.getD k 0)) k:=by
    refine⟨by simp_all,fun i hi=>?_,fun i b hi c=>?_⟩;·grind
    rw[List.getElem?_set_ne (by omega)];exact d i b (by omega) c
   rw[(Qfm (n:=n.set k (t.getD k 0)) (by omega) p).2 o];simp_all
  rw[if_neg he]at f;have o:Stp l t e n k:=⟨h1,fun i hi=>by grind,fun i b hi c=>d i b (by omega) c⟩;rw[(Qfm (n:=n) (by omega) p).2 o];simp_all
theorem Qfn{l:List Aut}{t n:List Nat}{e:Nat}(a:l.length<=t.length):stepT l t e=some n↔Stp l t e n l.length:=Qfm (ZaJ _) a
def pEv(l:List Aut)(i:Nat)(t:List Nat)(s:List (List Nat)×List Ed)(e:Nat):List (List Nat)×List Ed:=match stepT l t e with|none=>s|some n=>(if n∈s.1 then s.1 else s.1++[n],s.2++[(i,e,s.1.findIdx (·==n))])
def pRow(l:List Aut)(ev:List Nat)(i:Nat)(t:List Nat)(s:List (List Nat)×List Ed):List (List Nat)×List Ed:=ev.foldl (pEv l i t) s
def pQ(l:List Aut)(ev:List Nat):Nat->Nat->List (List Nat)×List Ed->List (List Nat)×List Ed|0,_,s=>s|k+1,i,s=>match s.1[i]? with|some t=>pQ l ev k (i+1) (pRow l ev i t s)|none=>s
def orE(a b:Bool):Bool:=a||b
def evA(l:List Aut):List Nat:=l.foldl (fun out a=>mrg orE out a.al) []
def mkdT:List Aut->List Nat->Bool|[],_=>true|a::l,t=>a.ms.contains (t.headD 0)&&mkdT l t.tail
def box:List Aut->Nat|[]=>1|a::l=>a.n*box l
def sync0(l:List Aut):List (List Nat)×List Ed:=pQ l (evA l) (box l+1) 0 ([List.replicate l.length 0],[])
def syncA(l:List Aut):Aut:=⟨evA l,(sync0 l).1.length,(List.range (sync0 l).1.length).filter fun i=>mkdT l ((sync0 l).1.getD i []),(sync0 l).2⟩
def InT(l:List Aut)(t:List Nat):Prop:=t.length=l.length/\∀i a,l[i]?=some a->t.getD i 0<a.n
def allT:List Aut->List (List Nat)|[]=>[[]]|a::l=>(List.range a.n).flatMap fun x=>(allT l).map (x::·)
theorem Ql0:∀{l:List Aut}{t:List Nat},InT l t->t∈allT l|[],t,⟨h,_⟩=>by simp_all[allT]|a::l,[],⟨h,_⟩=>by simp at h|a::l,x::t,⟨h,c⟩=>by unfold allT;refine Zbt.2 ⟨x,Zat.2 (by simpa using c 0 a rfl),Zao.2 ⟨t,Ql0 ⟨by simpa using h,fun i b d=>?_⟩,rfl⟩⟩;simpa using c (i+1) b (by simpa using d)
theorem Ql1:∀(l:List Aut),(allT l).length=box l|[]=>rfl|a::l=>by unfold allT box;rw[List.length_flatMap];simp only[Zaz,Ql1 l];simp_all[List.map_const']
theorem Qkc{α:Type}[DecidableEq α]:∀{l m:List α},l.Nodup->(∀x∈l,x∈m)->l.length<=m.length|[],m,_,_=>Zaj _|x::l,m,h,hm=>by rw[Zb1]at h;have h1:=hm x (by simp);have b:=Qkc (l:=l) (m:=m.erase x) h.2 fun y a=>(List.mem_erase_of_ne (fun(e:y=x)=>h.1 (e▸a))).2 (hm y (by simp[a]));grind
theorem QcW{l:List Aut}{T:List (List Nat)}(b:T.Nodup)(hi:∀t∈T,InT l t):T.length<=box l:=by rw[<-Ql1];exact Qkc b fun t a=>Ql0 (hi t a)
theorem Qp4{l:List Aut}{k:Nat}(h:∀a∈l,a.n<=k)(hk:1<=k):box l<=k^l.length:=by induction l with|nil=>simp[box]|cons a l d=>unfold box;rw[ZaC,Nat.pow_succ,Nat.mul_comm];exact Nat.mul_le_mul (d fun b c=>h b (by simp[c])) (h a (by simp))
theorem Qfo{l:List Aut}(hw:∀a∈l,∀e∈a.es,e.1<a.n/\e.2.2<a.n){t n:List Nat}{e:Nat}(c:InT l t)(h:stepT l t e=some n):InT l n:=by
 obtain⟨h1,k,g⟩:=(Qfn (Nat.le_of_eq c.1.symm)).1 h;refine⟨by rw[h1,c.1],fun i a d=>?_⟩;have hi:i<l.length:=by grind
 have b:=g i a hi d;by_cases he:e∈a.al;·rw[if_pos he]at b;obtain⟨x,f⟩:=Qaq (l:=n) (i:=i) (by rw[h1,c.1];exact hi);rw[f]at b;rw[Zak,f];exact Qeb (hw a (Zae d)) b
 rw[if_neg he]at b;rw[Zak,b,<-Zak];exact c.2 i a d
structure PI(l:List Aut)(s:List (List Nat)×List Ed):Prop where
 nd:s.1.Nodup
 inT:∀t∈s.1,InT l t
theorem Qtz{l:List Aut}(hw:∀a∈l,∀e∈a.es,e.1<a.n/\e.2.2<a.n){i e:Nat}{t:List Nat}{s:List (List Nat)×List Ed}(c:InT l t)(h:PI l s):PI l (pEv l i t s e):=by unfold pEv;cases d:stepT l t e with|none=>exact h|some n=>
 have f:=Qfo hw c d;dsimp only;by_cases hm:n∈s.1;·simp only[if_pos hm];exact⟨h.nd,h.inT⟩
 simp only[if_neg hm];refine⟨List.nodup_append.2 ⟨h.nd,by simp,fun x b y g=>by grind⟩,fun x b=>?_⟩;rcases ZaE.1 b with b|b;·exact h.inT x b
 simp_all
theorem QdP{l:List Aut}(hw:∀a∈l,∀e∈a.es,e.1<a.n/\e.2.2<a.n){i:Nat}{t:List Nat}(b:InT l t):∀{ev:List Nat}{s:List (List Nat)×List Ed},PI l s->PI l (pRow l ev i t s)|[],s,h=>h|e::ev,s,h=>QdP hw b (ev:=ev) (Qtz hw b h)
theorem Qsb{l:List Aut}{i e:Nat}{t:List Nat}{s:List (List Nat)×List Ed}:s.1<+:(pEv l i t s e).1:=by grind[pEv]
theorem Qcl{l:List Aut}{i:Nat}{t:List Nat}:∀{ev:List Nat}{s:List (List Nat)×List Ed},s.1<+:(pRow l ev i t s).1|[],s=>List.prefix_refl _|e::ev,s=>List.IsPrefix.trans Qsb (Qcl (ev:=ev))
theorem pQ_ok{l:List Aut}{ev:List Nat}(hw:∀a∈l,∀e∈a.es,e.1<a.n/\e.2.2<a.n):∀{k i:Nat}{s:List (List Nat)×List Ed},PI l s->PI l (pQ l ev k i s)|0,_,_,h=>h|k+1,i,s,h=>by unfold pQ;cases b:s.1[i]? with|none=>exact h|some t=>exact pQ_ok hw (QdP hw (h.inT t (Zae b)) h)
theorem Qis{l:List Aut}{ev:List Nat}:∀{k i:Nat}{s:List (List Nat)×List Ed},s.1<+:(pQ l ev k i s).1|0,_,_=>List.prefix_refl _|k+1,i,s=>by unfold pQ;cases a:s.1[i]? with|none=>exact List.prefix_refl _|some t=>exact List.IsPrefix.trans Qcl Qis
theorem Qfp{l:List Aut}(d:∀a∈l,0<a.n):PI l ([List.replicate l.length 0],[]):=by refine⟨by simp,fun t b=>?_⟩;simp at b;subst b;refine⟨by simp,fun i a c=>?_⟩;grind
theorem QeN{l:List Aut}(b:∀a∈l,0<a.n)(hw:∀a∈l,∀e∈a.es,e.1<a.n/\e.2.2<a.n):PI l (sync0 l):=pQ_ok hw (Qfp b)
theorem Ql2{l:List Aut}(b:∀a∈l,0<a.n)(hw:∀a∈l,∀e∈a.es,e.1<a.n/\e.2.2<a.n):(sync0 l).1.length<=box l:=QcW (QeN b hw).nd (QeN b hw).inT
end Go.AM.SO
