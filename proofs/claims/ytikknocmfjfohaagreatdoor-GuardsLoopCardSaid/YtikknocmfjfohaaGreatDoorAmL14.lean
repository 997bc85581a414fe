/- A part of the proof of GuardsLoopCardSaid: lemmas on the way (AnCm, AnCu, AnCi, AnCk, AnCl, AnCn, AnCv, AnCw, AnCyc, AnCyd, AnCyb, AnCye, AnCyf, AnCyh, AnCyg, AnCyi, AnCyj, AnCr, AnCzg, AnUb, AnVl, AnVa, AnVb). Conditions: none of ours. -/
import Derived.Test.YtikknocmfjfohaaGreatDoorProg
import Derived.KernelRfl
import Derived.Test.YtikknocmfjfohaaGreatDoorAmL13
theorem Go.AM.bpPRs{p:Prop}(h:p:=by
 refine⟨i+1,by omega,by omega,?_⟩;rw[ev];refine⟨[(50,.blk 50 1),(64,.blk 64 0)],rfl,au0,?_,au16⟩;exact Zcw rfl rfl gg (Zcn (Qds _ _)) (Zcw rfl rfl gg (Zcn (QaP _)) Zcv)):p:=h
theorem Go.AM.bMUS8{p:Prop}(h:p:=by
 refine⟨[(50,.blk 50 0),(51,.blk 51 0),(52,.blk 52 0)],rfl,au0,?_,au16⟩;exact Zcw rfl rfl gg (Zcn b) (Zcw rfl rfl gg (Zcn rfl) (Zcw rfl rfl gg (ZcC (Zcm rfl) (ZcC (Zcm (QaK _)) (ZcC (Zcm (QaK _)) (ZcC (ZcD rfl rfl rfl rfl (QeS _) (Zcn (QaS _))) (Zcn rfl))))) Zcv))):p:=h
theorem Go.AM.buSfF{p:Prop}(h:p:=by
 refine⟨[(50,.blk 50 0),(51,.blk 51 0)],rfl,au0,?_,au20⟩;exact Zcw rfl rfl gg (Zcn a) (Zcw rfl rfl gg (Zcn b) Zcv)):p:=h
theorem Go.AM.b32nU{p:Prop}(h:p:=by
 refine⟨i+1,by omega,by omega,?_⟩;refine⟨[(50,.blk 50 0)],rfl,au0,?_,au20⟩;exact Zcw rfl rfl gg (Zcn a) Zcv):p:=h
theorem Go.AM.bMAQB{p:Prop}(h:p:=by
 refine Zc0 b ?_;refine⟨(),?_⟩;refine⟨[(50,.blk 50 0)],rfl,au0,?_,au20⟩;exact Zcw rfl rfl gg (Zcn a) Zcv):p:=h
theorem Go.AM.bLdMM{p:Prop}(h:p:=by
 refine⟨[(50,.blk 50 0),(68,.blk 68 0)],rfl,au0,?_,au20⟩;exact Zcw rfl rfl gg (Zcn a) (Zcy rfl rfl gg (RnM.mapS fun _ _=>Zcm rfl) Zcv)):p:=h
set_option linter.unusedSectionVars false
set_option maxHeartbeats 32000000
set_option maxRecDepth 100000
set_option linter.unusedVariables false
set_option linter.unusedSimpArgs false
namespace Go.AM.SO
open Go.Proofs Go.AM.SD Go.AM.SE
variable{a:Aut}{es:List Ed}{T al l:List Nat}{i mk n st:Nat}
structure Cel where
 ev:Nat->Evt
 cs:List (Nat×Aut)rs:List (Nat×Aut)xs:List (Nat×List (Nat×Nat))ks:List (List (Nat×Int)×Int)
def itC(ch:UInt8)(x:Nat×Aut):List AV:=[.str [ch,UInt8.ofNat (48+x.1)],sliN x.2.al,.int .i64 (x.2.n:Int),sliN x.2.ms,egsN x.2.es]
def loC(x:Nat×Nat):List AV:=[.int .i64 (x.1:Int),.int .i64 (x.2:Int)]
abbrev los(l:List (Nat×Nat)):AV:=.fsl (l.flatMap loC) l.length 2
def exC(x:Nat×List (Nat×Nat)):List AV:=[.str [101,UInt8.ofNat (48+x.1)],los x.2]
def teC(x:Nat×Int):List AV:=[.int .i64 (x.1:Int),.int .i64 x.2]
abbrev tes(l:List (Nat×Int)):AV:=.fsl (l.flatMap teC) l.length 2
def coC(x:List (Nat×Int)×Int):List AV:=[.str [107],tes x.1,.int .i64 x.2]
abbrev its(ch:UInt8)(l:List (Nat×Aut)):AV:=.fsl (l.flatMap (itC ch)) l.length 5
abbrev exs(l:List (Nat×List (Nat×Nat))):AV:=.fsl (l.flatMap exC) l.length 2
abbrev cos(l:List (List (Nat×Int)×Int)):AV:=.fsl (l.flatMap coC) l.length 3
abbrev celV(c:Cel):AV:=.agg [evsV c.ev,its 99 c.cs,its 114 c.rs,exs c.xs,cos c.ks]
structure WfI(a:Aut):Prop where
 wf:WfA a
 a5:∀x∈a.al,x<5
 pos:0<a.n
 n3:a.n<=3
 can:restr a (fun _=>true)=a
 el:a.es.length<=25
structure WfJ(a:Aut):Prop where
 wf:WfA a
 pos:0<a.n
 n10:a.n<=10
theorem WfI.j(h:WfI a):WfJ a:=⟨h.wf,h.pos,by have:=h.n3;omega⟩
structure WfCel(c:Cel):Prop where
 ev:∀i,i<5->(c.ev i).Ok
 c0:0<c.cs.length
 c3:c.cs.length<=3
 r2:c.rs.length<=2
 x2:c.xs.length<=2
 k1:c.ks.length<=1
 cn:c.cs.map (·.1)=List.range c.cs.length
 rn:c.rs.map (·.1)=List.range c.rs.length
 xn:(c.xs.map (·.1)).Pairwise (·<·)/\∀x∈c.xs,x.1<2
 ca:∀x∈c.cs,WfI x.2
 ra:∀x∈c.rs,WfI x.2
 rsub:∀x∈c.rs,∀e∈x.2.al,∃y∈c.cs,e∈y.2.al
 xl:∀x∈c.xs,x.2≠[]/\(x.2.map (·.1)).Pairwise (·<·)/\∀l∈x.2,∃y,c.cs[l.1]?=some y/\l.2<y.2.n
 kl:∀x∈c.ks,x.1≠[]/\(x.1.map (·.1)).Pairwise (·<·)/\(∀t∈x.1,t.1<c.cs.length/\t.2≠0/\-4<t.2/\t.2<4)/\-8<x.2/\x.2<8
theorem QpR(h:l.Pairwise (·<·)){p q}(a:p<q)(b:q<l.length):l.getD p 0<l.getD q 0:=by grind[Zbd]
theorem partLt{b}:∀x∈SD.part n b,x<n:=fun x a=>(QlW.1 a).1
theorem QtV(f:al.Pairwise (·<·))(k:∀x∈al,x<5):WfA (gRaw al st mk T):=by
 have o:=QfU (st:=st) (mk:=mk) (T:=T) (QbT f k);have a:=o.esn;have b:=o.n5;unfold gRaw at a b⊢;split;·exact⟨f,fun x d=>by have:=k x d;omega,by simp,by simp,by simp,by simp,by simp,by simp⟩
 rename_i l;rw[if_neg l]at a b;have t:∀i,∀e∈gRow al (1+st%5) T i al.length,e.1=i/\∃j,j<al.length/\e.2.1=al.getD j 0:=fun i e he=>by unfold gRow at he;obtain⟨j,v,hm⟩:=ZbC.1 he;unfold gEd at hm;grind
 refine⟨f,fun x d=>by have:=k x d;omega,by dsimp only at b⊢;omega,QdY _ _,partLt,?_,a,fun e he=>?_⟩
 ·show(gPre _ _ _ _).Pairwise _;unfold gPre;refine Qc1 (fun i _=>?_) (List.pairwise_lt_range.imp fun s x d y n=>.inl ?_)
  ·unfold gRow;refine List.Pairwise.filterMap _ (R:=fun j m=>j<m/\m<al.length) ?_ (List.pairwise_lt_range.imp_of_mem fun _ u h=>⟨h,Zat.1 u⟩);rintro x y⟨g,n⟩p hp q c;unfold gEd at hp c;split at hp
   ·split at c;·cases hp;cases c;exact .inr ⟨rfl,QpR f g n⟩
    cases c
   cases hp
  grind
 grind[gPre]
theorem QtW(b:al.Pairwise (·<·))(a:∀x∈al,x<5):restr (mkA al st mk T) (fun _=>true)=mkA al st mk T:=by have h:=QtV (st:=st) (mk:=mk) (T:=T) b a;show restr (canon _) _=canon _;grind[Qn5,QnY]
theorem QmX{es}{s}:∀{L:List Nat}{out:List Nat},out.length<=(L.foldl (fEv es s) out).length|[],out=>ZaC _|e::L,out=>by rw[ZaO];refine Zaw ?_ (QmX (L:=L));grind[fEv]
theorem Qrh:∀(k i:Nat)(out:List Nat),out.length<=(fQ al es k i out).length
 |0,_,_=>ZaC _|k+1,i,out=>by
  unfold fQ;split;·exact Zaw QmX (Qrh k (i+1) _)
  omega
theorem QoW(b:al.Pairwise (·<·))(a:∀x∈al,x<5)(k:st<3):WfI (mkA al st mk T):=by
 have d:=QfU (st:=st) (mk:=mk) (T:=T) (QbT b a);have e:gRaw al st mk T=⟨al,1+st%5,SD.part (1+st%5) mk,gPre al (1+st%5) T (1+st%5)⟩:=if_neg (by omega);have c:(gRaw al st mk T).n<=3:=by grind
 have hf:(found (gRaw al st mk T)).length<=(gRaw al st mk T).n:=QaV _ _ (QfK d.esn).1.nd (QfK d.esn).1.lt;have h1:=Qik (gRaw al st mk T) (found (gRaw al st mk T)) (found (gRaw al st mk T)).length;refine⟨Qu2 b a,fun x f=>a x (by rwa[show(mkA al st mk T).al=al from by show(gRaw al st mk T).al=al;rw[e]]at f),?_,Zaw hf c,QtW b a,?_⟩
 ·show 0<(found (gRaw al st mk T)).length;have g:0<(gRaw al st mk T).n:=by grind
  unfold found;rw[if_pos g];exact Za2 (by simp) (Qrh _ _ _)
 have i:(mkA al st mk T).es.length=(cPre (gRaw al st mk T) (found (gRaw al st mk T)) (found (gRaw al st mk T)).length).length:=rfl;rw[i];have h:(gRaw al st mk T).al.length<=5:=by simp_all[QbT]
 refine Zaw h1 (Zaw (Nat.mul_le_mul (Zaw hf c) h) (by decide))
structure Pln where
 L:List Nat
 X:List Nat
 xn:Nat
 f0:Int
 f1:Int
 f2:Int
 bd:Int
structure POk(p:Pln):Prop where
 L:p.L.length=147
 L8:∀x∈p.L,x<256
 X:p.X.length=p.xn*4
 X8:∀x∈p.X,x<256
 f0:-128<=p.f0/\p.f0<128
 f1:-128<=p.f1/\p.f1<128
 f2:-128<=p.f2/\p.f2<128
 bd:-128<=p.bd/\p.bd<128
abbrev plnC(p:Pln):List AV:=u8s p.L++[.fsl (u8s p.X) p.xn 4,.int .i8 p.f0,.int .i8 p.f1,.int .i8 p.f2,.int .i8 p.bd]
abbrev plnV(p:Pln):AV:=.agg (plnC p)
variable(p:Pln)
def pN:Nat:=1+p.L.getD 5 0%3
def pM:Nat:=p.L.getD 90 0%3
def pA(i:Nat):Aut:=mkA (SD.part 5 (p.L.getD (6+i) 0)) (p.L.getD (9+i*27) 0%3) (p.L.getD (9+i*27+1) 0) ((p.L.drop (9+i*27+2)).take 25)
def pAll:Nat->Nat|0=>0|i+1=>pAll i|||p.L.getD (6+i) 0%32
def pW(i:Nat):List Nat:=(SD.part 5 (p.L.getD (91+i) 0)).filter fun x=>(pAll p (pN p)).testBit x
def pR(i:Nat):Aut:=mkA (pW p i) (p.L.getD (93+i*27) 0%3) (p.L.getD (93+i*27+1) 0) ((p.L.drop (93+i*27+2)).take 25)
def pCs(n:Nat):List (Nat×Aut):=(List.range n).map fun i=>(i,pA p i)
def pRs(n:Nat):List (Nat×Aut):=(List.range n).map fun i=>(i,pR p i)
def pLo(i:Nat):Nat->List (Nat×Nat)|0=>[]|k+1=>if p.X.getD (i*4+k) 0%((pA p k).n+2)<(pA p k).n then pLo i k++[(k,p.X.getD (i*4+k) 0%((pA p k).n+2))]else pLo i k
def pXs:Nat->List (Nat×List (Nat×Nat))|0=>[]|i+1=>if 0<(pLo p i (pN p)).length then pXs i++[(i,pLo p i (pN p))]else pXs i
def pF(i:Nat):Int:=if i=0 then p.f0 else if i=1 then p.f1 else p.f2
def pT:Nat->List (Nat×Int)|0=>[]|i+1=>if pF p i=0 then pT i else pT i++[(i,(pF p i).tmod 4)]
def pT0:List (Nat×Int):=(pT p (pN p)).filter fun t=>!(decide (t.2=0))
def pKs:List (List (Nat×Int)×Int):=if 0<(pT0 p).length then[(pT0 p,p.bd.tmod 8)]else[]
def mkC:Cel:=⟨fun i=>evOf ((p.L.take 5).getD i 0),pCs p (pN p),pRs p (pM p),pXs p (min p.xn 2),pKs p⟩
variable{p}
theorem pN_le:1<=pN p/\pN p<=3:=by unfold pN;omega
theorem pM_le:pM p<=2:=by unfold pM;omega
theorem Qlb(i):(pW p i).Pairwise (·<·):=(QdY _ _).filter _
theorem pW_lt(i):∀x∈pW p i,x<5:=fun x a=>partLt x (Zbh.1 a).1
theorem pA_wf(i):WfI (pA p i):=QoW (QdY _ _) partLt (by omega)
theorem pR_wf(i):WfI (pR p i):=QoW (Qlb i) (pW_lt i) (by omega)
theorem Qri:(mkA al st mk T).al=al:=by show(gRaw al st mk T).al=al;grind[gRaw]
theorem Qje:∀{n:Nat},∀x∈pLo p i n,x.1<n/\x.2<(pA p x.1).n
 |0,x,h=>by cases h|n+1,x,h=>by
  unfold pLo at h;split at h
  ·rename_i hc;rcases ZaG.1 h with h|h;·have:=Qje x h;omega
   simp_all
  have:=Qje x h;omega
theorem QfW:∀{n:Nat},((pLo p i n).map (·.1)).Pairwise (·<·)
 |0=>by simp[pLo]|n+1=>by
  unfold pLo;split;·rw[ZaI,Zbe];refine⟨QfW,by simp,fun x c y a=>?_⟩;simp at a;subst a;obtain⟨z,b,rfl⟩:=Zap.1 c;exact(Qje z b).1
  exact QfW
theorem QgU:∀{n:Nat},∀x∈pXs p n,x.1<n/\x.2=pLo p x.1 (pN p)/\x.2≠[]
 |0,x,h=>by cases h|n+1,x,h=>by
  unfold pXs at h;split at h
  ·rename_i hc;rcases ZaG.1 h with h|h;·have:=QgU x h;grind
   grind
  have:=QgU x h;grind
theorem QfX:∀{n:Nat},((pXs p n).map (·.1)).Pairwise (·<·)
 |0=>by simp[pXs]|n+1=>by
  unfold pXs;split;·rw[ZaI,Zbe];refine⟨QfX,by simp,fun x c y a=>?_⟩;simp at a;subst a;obtain⟨z,b,rfl⟩:=Zap.1 c;exact(QgU z b).1
  exact QfX
theorem QjP:∀{n:Nat},(pXs p n).length<=n|0=>by simp[pXs]|n+1=>by have:=@QjP n;grind[pXs]
theorem QjQ{i}:∀{n:Nat},(pLo p i n).length<=n|0=>by simp[pLo]|n+1=>by have:=@QjQ i n;grind[pLo]
theorem QmY:∀{n:Nat},(pT p n).length<=n|0=>by simp[pT]|n+1=>by have:=@QmY n;grind[pT]
theorem pT_lt:∀{n:Nat},∀x∈pT p n,x.1<n/\-4<x.2/\x.2<4
 |0,x,h=>by cases h|n+1,x,h=>by
  unfold pT at h;split at h;·have:=pT_lt x h;omega
  rcases ZaG.1 h with h|h;·have:=pT_lt x h;omega
  grind
theorem QgV:∀{n:Nat},((pT p n).map (·.1)).Pairwise (·<·)
 |0=>by simp[pT]|n+1=>by
  unfold pT;split;·exact QgV
  rw[ZaI,Zbe];refine⟨QgV,by simp,fun x c y a=>?_⟩;simp at a;subst a;obtain⟨z,b,rfl⟩:=Zap.1 c;exact(pT_lt z b).1
theorem QmZ{e}:∀{n:Nat},(pAll p n).testBit e=true->e<5->∃i,i<n/\(p.L.getD (6+i) 0).testBit e=true
 |0,h,_=>by simp[pAll]at h|n+1,h,a=>by
  unfold pAll at h;rw[Nat.testBit_or,Zbl]at h;rcases h with h|h;·obtain⟨i,hi,h⟩:=QmZ h a;grind
  rw[show 32=2^5 from rfl,Nat.testBit_mod_two_pow]at h;grind
theorem Qrj(h:i<n):(pCs p n)[i]?=some (i,pA p i):=by simp_all[pCs]
theorem Qu9:WfCel (mkC p):=by
 have h1:=@pN_le p;have s:=@pM_le p;have hc:(pCs p (pN p)).length=pN p:=by simp[pCs]
 have u:(pRs p (pM p)).length=pM p:=by simp[pRs]
 have a:=@QjP p (min p.xn 2);refine⟨fun i _=>QtU _,?_,?_,?_,?_,?_,?_,?_,⟨QfX,fun x a=>?_⟩,fun x a=>?_,fun x a=>?_,fun x a e he=>?_,fun x a=>?_,fun x a=>?_⟩;·show 0<(pCs p (pN p)).length;omega
 ·show(pCs p (pN p)).length<=3;omega
 ·show(pRs p (pM p)).length<=2;omega
 ·show(pXs p _).length<=2;omega
 ·show(pKs p).length<=1;grind[pKs]
 ·show(pCs p (pN p)).map (·.1)=List.range (pCs p (pN p)).length;simp_all[pCs,Function.comp_def]
 ·show(pRs p (pM p)).map (·.1)=List.range (pRs p (pM p)).length;simp_all[pRs,Function.comp_def]
 ·have:=(QgU x a).1;omega
 ·obtain⟨i,_,rfl⟩:=Zap.1 (show x∈pCs p (pN p)from a);exact pA_wf i
 ·obtain⟨i,_,rfl⟩:=Zap.1 (show x∈pRs p (pM p)from a);exact pR_wf i
 ·obtain⟨i,_,rfl⟩:=Zap.1 (show x∈pRs p (pM p)from a);dsimp only at he;rw[show(pR p i).al=pW p i from Qri]at he;obtain⟨c,d⟩:=Zbh.1 he;obtain⟨j,n,d⟩:=QmZ d (partLt e c);refine⟨(j,pA p j),Zap.2 ⟨j,Zat.2 n,rfl⟩,?_⟩;simp_all[pA,Qri,QlW]
 ·obtain⟨_,g,c⟩:=QgU x a;refine⟨c,by grind[QfW],fun l f=>?_⟩;rw[g]at f;obtain⟨h,o⟩:=Qje l f;exact⟨_,Qrj h,o⟩
 have b:x∈pKs p:=a;unfold pKs at b;split at b
 ·rename_i m;simp at b;subst b;refine⟨List.ne_nil_of_length_pos m,?_,fun t k=>?_,?_,?_⟩;·exact(QgV (n:=pN p)).sublist (List.Sublist.map _ (List.filter_sublist))
  ·obtain⟨q,g⟩:=Zbh.1 (show t∈pT0 p from k);have c:=pT_lt t q;simp_all[mkC]
  ·grind
  grind
 cases b
end Go.AM.SO
namespace Go.AM.SU
open Go.Proofs Go.AM.SD Go.AM.SE Go.AM.SO
variable{l:List (Nat×Int)}{i k:Nat}{v x:Nat×Int}
theorem Qa1(l:List (Nat×Int)):noRefs (l.flatMap teC)=true:=Qa8 (fun _=>rfl) l
theorem Qdr(l:List (Nat×Int)):(l.flatMap teC).length=l.length*2:=Qbf (k:=2) (fun _=>rfl) l
theorem QdS(h:l[i]?=some x):(l.flatMap teC).drop (i*2)=.int .i64 (x.1:Int)::.int .i64 x.2::(l.drop (i+1)).flatMap teC:=Qbj (f:=teC) (k:=2) (fun _=>rfl) h
theorem Qrk{x}:∀{l:List (Nat×Int)}{i:Nat},i<l.length->(l.flatMap teC).take (i*2)++[.int .i64 (x.1:Int),.int .i64 x.2]++(l.flatMap teC).drop (i*2+2)=(l.set i x).flatMap teC|[],i,h=>by simp at h|a::l,0,h=>by simp[ZaD,teC]|a::l,i+1,h=>by have:=Qrk (x:=x) (l:=l) (i:=i) (by simpa using h);rw[List.set_cons_succ,ZaD,ZaD,<-this];rw[show(i+1)*2=i*2+2 by omega];simp[teC]
abbrev teV(x:Nat×Int):AV:=.agg [.int .i64 (x.1:Int),.int .i64 x.2]
theorem zero94(x):Ps 97 [teV x] (.bool (decide (x.2=0))):=by refine Zcp 64 (Ok s97) rfl rfl rfl ?_;unfold s97;refine ZcT ?_;exact⟨.inr trivial,_,rfl,rfl⟩
def fst0(l:List (Nat×Int)):Int:=if l.all (fun x=>!decide (x.2=0))then-1 else(l.findIdx (fun x=>decide (x.2=0)):Int)
theorem _root_.Go.AM.au15{p:Prop}(h:p:=by repeat'(first|exact Zcv|(refine Zcn ?_;first|rfl|(simp only[noRef,noRefs,SD.Qaa,SD.Qab,SD.Qaf,SD.Qag,SD.Qah,SD.Qai,SD.Qaj,SD.Qal,SD.Qan,SD.Qar,SE.QaA,SE.QaP,SE.Qak,SE.Qao,SE.Qap,SE.Qaq,SO.QaC,SO.Qau,SO.Qay,SU.Qa1,Zad,Zae,Zag];done))|exact ZcJ rfl|exact ZcB|exact(True.intro:RnM _ _ _ [] [])|refine ZcC ?_ ?_|(refine Zcm ?_;first|rfl|(simp only[noRef,noRefs,SD.Qaa,SD.Qab,SD.Qaf,SD.Qag,SD.Qah,SD.Qai,SD.Qaj,SD.Qal,SD.Qan,SD.Qar,SE.QaA,SE.QaP,SE.Qak,SE.Qao,SE.Qap,SE.Qaq,SO.QaC,SO.Qau,SO.Qay,SU.Qa1,Zad,Zae,Zag];done))|exact Rn.x1 rfl rfl|exact Rn.x2 rfl rfl|exact Rn.x3 rfl rfl|exact Rn.x4 rfl rfl|exact Rn.x5 rfl|exact Rn.x6 rfl|exact Rn.x7 rfl|refine Zcx rfl rfl ?_|refine Zcw rfl rfl rfl ?_ ?_|refine Zcy rfl rfl rfl ?_ ?_|refine Zcz rfl rfl ?_ ?_|refine ZcA rfl rfl ?_ ?_)):p:=h
theorem _root_.Go.AM.au16{p:Prop}(h:p:=by repeat(first|exact Zct|(refine Zcu ?_ ?_;·(first|exact Zcl|exact Rn.x1 rfl rfl|exact Rn.x2 rfl rfl|exact Rn.x3 rfl rfl|exact Rn.x4 rfl rfl|exact Rn.x5 rfl|exact Rn.x6 rfl|exact Rn.x7 rfl|(refine ZcF ?_ ?_;(first|rfl|(rw[ZaE];rfl));(first|rfl|(simp only[noRef,noRefs,SD.Qaa,SD.Qab,SD.Qaf,SD.Qag,SD.Qah,SD.Qai,SD.Qaj,SD.Qal,SD.Qan,SD.Qar,SE.QaA,SE.QaP,SE.Qak,SE.Qao,SE.Qap,SE.Qaq,SO.QaC,SO.Qau,SO.Qay,SU.Qa1,Zad,Zae,Zag];done)))|(refine Rn.fn ?_ ?_<;>(repeat'(first|exact ZcB|refine ZcC ?_ ?_|exact Zcm rfl|exact Rn.x6 rfl|exact Rn.x2 rfl rfl|exact Rn.x5 rfl|exact Rn.x1 rfl rfl))))))):p:=h
theorem index186(l)(p:l.length<=1000000):Ps 153 [tes l,.fn 97 [] []] (.int .i64 (fst0 l)):=by
 refine Zcp 64 (Ok s153) rfl (by simp only[noRefs,noRef,Qa1];rfl) rfl ?_;have o:=Qdr l;unfold s153;refine ZcT ?_;refine QaE 100 (fun i:Nat=>[(0,tes l),(1,.fn 97 [] []),(7,.int .i64 l.length),(8,.int .i64 i)]) (fun _=>[]) (fun i=>i<=l.length/\∀(j:Nat)y,j<i->l[j]?=some y->y.2≠0) (fun i=>l.length-i) 0 ⟨[],rfl,au0,au15,au16⟩ ⟨Zah _,fun j y c=>absurd c (Zay _)⟩ ?_;rintro i⟨hi,k⟩;by_cases a:i<l.length
 ·obtain⟨x,b⟩:=Qam a;have f:=zero94 x;by_cases d:x.2=0
  ·have e:decide (x.2=0)=true:=by simp[d]
   rw[e]at f;refine ZcU (Zc1 a (QdS b)) ?_;refine cpc f ?_;refine ZcT ?_;refine⟨.inr trivial,_,rfl,?_⟩;have h1:¬l.all (fun x=>!decide (x.2=0))=true:=by intro h;have:=ZaJ.1 h x (Zac b);simp[d]at this
   have n:l.findIdx (fun x=>decide (x.2=0))=i:=by rw[Zce a];refine⟨by rw[Zak a]at b;cases b;simp[d],fun j c=>?_⟩;have:=k j l[j] c (Zak (by omega));simpa using this
   unfold fst0;rw[if_neg h1,n];rfl
  have e:decide (x.2=0)=false:=by simp[d]
  rw[e]at f;refine ZcU (Zc1 a (QdS b)) ?_;refine cpc f ?_;refine ZcT ?_;refine⟨i+1,by omega,⟨by omega,fun j y c g=>?_⟩,⟨[],rfl,au0,au15,au16⟩⟩;by_cases e:j=i;·subst e;rw[b]at g;cases g;exact d
  exact k j y (by omega) g
 have h1:l.all (fun x=>!decide (x.2=0))=true:=by rw[ZaJ];intro x b;obtain⟨j,c,m⟩:=ZaU b;simpa using k j x (by omega) (by rw[Zak c,m])
 refine ZcU a ?_;refine⟨.inr trivial,_,rfl,?_⟩;unfold fst0;rw[if_pos h1];rfl
def flt0(l:List (Nat×Int)):List (Nat×Int):=l.filter fun t=>!(decide (t.2=0))
theorem Qlc{j}(h:l[j]?=some v):flt0 (l.take (j+1))=if v.2=0 then flt0 (l.take j)else flt0 (l.take j)++[v]:=by unfold flt0;rw[ZaS,h,Option.toList,Zbj];by_cases a:v.2=0<;>simp[a]
def delT(l:List (Nat×Int)):List (Nat×Int):=flt0 l++List.replicate (l.length-(flt0 l).length) (0,0)
theorem QsN(h:l.all (fun x=>!decide (x.2=0))=true):flt0 l=l:=by unfold flt0;exact ZbI.2 fun x a=>ZaJ.1 h x a
theorem Qrl:(List.replicate k [AV.int .i64 0,AV.int .i64 0]).flatten=(List.replicate k ((0,0):Nat×Int)).flatMap teC:=by induction k with|zero=>rfl|succ k a=>rw[Za4,Zbr,a];rfl
theorem QjR:∀{l:List (Nat×Int)}{i:Nat},(l.flatMap teC).take (i*2)=(l.take i).flatMap teC|[],i=>by simp|a::l,0=>by simp|a::l,i+1=>by rw[ZaD,Za6,ZaD,<-QjR,Zbi];simp[teC]
theorem del93(l)(M:l.length<=1000000):HSpec Tryz.prog 96 [.sl 97 0 0 l.length 2,.fn 97 [] []] (hp [(97,.cells 0 (l.flatMap teC))]) (.sl 97 0 0 (flt0 l).length 2) (hp [(97,.cells 0 ((delT l).flatMap teC))]):=by
 refine HSpec.QoR (m:=98) 100 (Ok s96) rfl rfl ?_;have J:=Qdr l;unfold s96;refine ZcT ?_;refine chc (ZcI (ZcL (FrzTo.all gg J) (ZcL (Zcq _) ZcK)) (index186 l M) rfl) ?_;by_cases a:l.all (fun x=>!decide (x.2=0))=true;·have u:fst0 l=-1:=if_pos a;refine ZcU u ?_;refine⟨.inr trivial,_,rfl,?_⟩;unfold delT;rw[QsN a,Nat.sub_self,List.replicate_zero,Zas];exact⟨[(97,.nil)],rfl,au0,au15,au16⟩
 have u:fst0 l=(l.findIdx (fun x=>decide (x.2=0)):Int):=if_neg a;have hex:∃x∈l,decide (x.2=0)=true:=by have:¬∀x∈l,(!decide (x.2=0))=true:=fun h=>a (ZaJ.2 h);obtain⟨x,p⟩:=Classical.not_forall.1 this;obtain⟨p,K⟩:=Classical.not_imp.1 p;exact⟨x,p,by simpa using K⟩
 have k:l.findIdx (fun x=>decide (x.2=0))<l.length:=Zbp hex;obtain⟨i0,z⟩:∃i0,i0=l.findIdx (fun x=>decide (x.2=0)):=⟨_,rfl⟩;rw[<-z]at u k;have H:(l[i0]).2=0:=by have:=List.findIdx_getElem (w:=by rw[<-z];exact k) (xs:=l) (p:=fun x=>decide (x.2=0));simp only[<-z]at this;simpa using this
 have o:flt0 (l.take i0)=l.take i0:=by unfold flt0;refine ZbI.2 fun x p=>?_;obtain⟨j,E,rfl⟩:=ZaU p;rw[Zar]at E;have:=List.not_of_lt_findIdx (xs:=l) (p:=fun x=>decide (x.2=0)) (i:=j) (by rw[<-z];omega);rw[List.getElem_take];simpa using this
 have A:flt0 (l.take (i0+1))=l.take i0:=by rw[Qlc (Zak k),if_pos H,o]
 have B:¬(i0:Int)=-1:=by omega
 refine ZcU (Zc1 u B) ?_;refine QaE 110 (fun t:Nat×Nat×List (Nat×Int)=>[(0,.sl 97 0 0 l.length 2),(1,.fn 97 [] []),(5,.int .i64 t.2.1),(6,.int .i64 t.1)]) (fun t=>[(97,.cells 0 (t.2.2.flatMap teC))]) (fun t=>t.1<=l.length/\t.2.1<t.1/\t.2.2.length=l.length/\t.2.2.take t.2.1=flt0 (l.take t.1)/\t.2.2.drop t.1=l.drop t.1) (fun t=>l.length-t.1) (i0+1,i0,l) ⟨[(97,.nil)],rfl,au0,au15,au16⟩ ⟨by dsimp only;omega,by dsimp only;omega,rfl,A.symm,rfl⟩ ?_;rintro⟨j,i,C⟩⟨E,F,f,m,y⟩;dsimp only at E F f m y⊢;have b:=Qdr C;by_cases d:j<l.length
 ·obtain⟨v,I⟩:=Qam d;have s:C[j]?=some v:=by
   have:(C.drop j)[0]?=(l.drop j)[0]?:=by rw[y]
   simpa[I]using this
  have w:=Qlc I;have g:=zero94 v;have g1:j*2+2<=l.length*2:=by omega
  have g2:i*2+2<=l.length*2:=by omega
  by_cases hm:v.2=0
  ·have G:decide (v.2=0)=true:=by simp[hm]
   rw[G]at g;rw[if_pos hm]at w;refine ZcU (Zc4 d f b g1 (QdS s)) ?_;refine chc (g.toH _) ?_;refine ZcT ?_;refine⟨(j+1,i,C),by dsimp only;omega,⟨by dsimp only;omega,by dsimp only;omega,f,by rw[w];exact m,?_⟩,?_⟩;·dsimp only;have:=congrArg (List.drop 1) y;simpa[ZaV]using this
   exact⟨[(97,.nil)],rfl,au0,au15,au16⟩
  have G:decide (v.2=0)=false:=by simp[hm]
  rw[G]at g;rw[if_neg hm]at w;refine ZcU (Zc4 d f b g1 (QdS s)) ?_;refine chc (g.toH _) ?_;have c:i<l.length:=by omega
  refine ZcU (Zc4 c f b g2 (Qrk (l:=C) (i:=i) (x:=v) (by omega))) ?_;refine⟨(j+1,i+1,C.set i v),by dsimp only;omega,⟨by dsimp only;omega,by dsimp only;omega,by simp[f],?_,?_⟩,?_⟩;·dsimp only;rw[w,<-m,ZaS,ZbK (by omega),List.take_set,List.set_eq_of_length_le (by rw[Zar];omega)];rfl
  ·dsimp only;rw[List.drop_set_of_lt (by omega)];have:=congrArg (List.drop 1) y;simpa[ZaV]using this
  exact⟨[(97,.nil)],rfl,au0,au15,au16⟩
 have L:j=l.length:=by omega
 subst L;rw[Zao]at m;have c:(i:Int)<=(l.length:Int):=by omega
 refine ZcU (Zc1 d c) ?_;refine QmL gg (by omega) (by rw[b,f];omega) rfl (by decide) (by decide) ?_;refine ZcU c ?_;refine⟨.inr trivial,_,rfl,?_⟩;have n:(flt0 l).length=i:=by rw[<-m,Zar];omega
 have q:putR (C.flatMap teC) (i*2) (List.replicate (l.length-i) [AV.int .i64 0,AV.int .i64 0]).flatten=(delT l).flatMap teC:=by rw[Qff (by rw[b,f];omega),Qrl,QjR,m];unfold delT;rw[n,Zan,List.drop_of_length_le (by rw[b,f,Qdr,Zbc];omega),Zas]
 rw[n,q];exact⟨[(97,.nil)],rfl,au0,au15,au16⟩
end Go.AM.SU
namespace Go.AM.SO
open Go.Proofs Go.AM.SD Go.AM.SE
theorem convB1{P}{N}{d}{r}{dead}{fs}{n}{T}{h}{Q}{b g x:Nat}(a:h.get b=some (.cells g [.int .u8 (x:Int)]))(hk:wR P N r dead fs (n+1) (putD T d (.str [UInt8.ofNat x])) h Q):wM P N (aConvB (.sl b g 0 1 1)) d r dead fs n T h Q:=by
 refine⟨_,h,?_,hk⟩;have c:Nat.beq g g=true:=by simp
 simp[aConvB,aSrc,HM.cells,HM.run,a,c,bytesOf]
theorem Qds(F)(i):noRefs (evP F i)=true:=by unfold evP;exact Qa8 (fun j=>rfl) _
theorem events88(F)(s:F.length=5)(d:∀i,F.getD i 0<256):Ps 89 [.agg (u8s F)] (.fsl (evP F 5) 5 5):=by
 refine Zco 64 (Ok s89) rfl (by simp only[noRefs,noRef,QaP];rfl) (by simp only[noRef];exact Qds _ _) ?_;unfold s89;refine ZcZ ?_;refine QaE 100 (fun i:Nat=>[(1,.ptr 64 0 0),(3,.sl 50 0 0 i 5),(4,.int .i64 i)]) (fun i=>[(50,.cells 0 (evP F i)),(64,.cells 0 (u8s F))]) (fun i=>i<=5) (fun i=>5-i) 0 ⟨[(50,.nil),(64,.blk 64 0)],rfl,au0,?_,au16⟩ (Zah _) ?_;·exact Zcx rfl rfl (Zcw rfl rfl rfl (Zcn (QaP _)) Zcv)
 rintro i hi;by_cases o:i<5
 ·have a:(i:Int)<5:=by omega
  have hu:(u8s F)[i]?=some (.int .u8 ((F.getD i 0:Nat):Int)):=Qi8 (by rw[Zak (by omega)];simp[List.getD,Zak (show i<F.length by omega)]);have g:=d i;have k:=@QmW F i;have h:=@QjO F i;generalize F.getD i 0=b at hu g k;have l:wr .u8 ((97:Int)+(i:Int))=((97+i:Nat):Int):=by rw[wr_u8 (by omega) (by omega)];omega
  refine Zc0 (Zc4 a hu h l @Qsq) ?_;refine convB1 gg ?_;have t:((97+i:Nat):Int)=((97+i:Nat):Int):=rfl;by_cases f:48<=b/\b<52
  ·have p:(48:Int)<=(b:Int):=by omega
   have c:(b:Int)<52:=by omega
   have m:(b:Int)-47=((b-47:Nat):Int):=by omega
   have ev:evP F i++[.str [UInt8.ofNat (97+i)],.bool false,.bool false,.bool false,.int .i64 ((b-47:Nat):Int)]=evP F (i+1):=by rw[k];simp[evC,evOf,f]
   refine Zc0 (Zc5 a hu h p c m) ?_;exact bpPRs
  have ev:evP F i++[.str [UInt8.ofNat (97+i)],.bool (decide (b&&&1=1)),.bool (decide (b&&&2=2)),.bool (decide (b&&&4=4)),.int .i64 0]=evP F (i+1):=by rw[k];simp[evC,evOf,f]
  have d1:decide (((b&&&1:Nat):Int)=1)=decide (b&&&1=1):=decide_eq_decide.2 (by omega);have d2:decide (((b&&&2:Nat):Int)=2)=decide (b&&&2=2):=decide_eq_decide.2 (by omega);have d4:decide (((b&&&4:Nat):Int)=4)=decide (b&&&4=4):=decide_eq_decide.2 (by omega);have n:=Qre g;have a2:=Qrf g;have a4:=Qrg g;by_cases q:48<=b
  ·have c:(48:Int)<=(b:Int):=by omega
   have m:¬(b:Int)<52:=by omega
   refine Zc0 (Zda a hu h c m n a2 a4 d1 d2 d4) ?_;exact bpPRs
  have c:¬(48:Int)<=(b:Int):=by omega
  refine Zc0 (Zc9 a hu h c n a2 a4 d1 d2 d4) ?_;exact bpPRs
 have a:¬(i:Int)<5:=by omega
 have e:i=5:=by omega
 subst e;refine Zc0 a ?_;refine⟨.inr trivial,_,rfl,?_⟩;exact ZcE rfl QjO (Zcn (Qds _ _))
end Go.AM.SO
namespace Go.AM.ST
open Go.Proofs Go.AM.SD
variable{v:AV}{a b:Nat}
noncomputable section
def bitsL(s:Nat):List Nat:=(List.range 5).filter fun i=>s.testBit i
def isV(v:AV)(u:AV):Bool:=eqAV u v
theorem Qrm:∀u,isV v u=true->u=v:=fun u h=>QdG _ _ h
def unionB(a b:Nat):Bool:=callR ansB noOrc SK.ft.get (exR ansB noOrc SK.ft.get 1000) (.c .pure) 91 [sliN (bitsL a),sliN (bitsL b)] .e 64 (fun u _ _=>isV (sliN (bitsL (a|||b))) u)
theorem QsO(h:unionB a b=true):Ps 91 [sliN (bitsL a),sliN (bitsL b)] (sliN (bitsL (a|||b))):=Qb2 (t:=SK.ft) SK.ft_ok QdN (d:=1000) (isV _) Qrm h
end
noncomputable section
def rowB(a n:Nat):Bool:=@Nat.rec (fun _=>Bool) true (fun b c=>ifB (unionB a b) c false) n
theorem row_1:rowB 1 32=true:=by kernel_rfl
theorem row_2:rowB 2 32=true:=by kernel_rfl
theorem row_3:rowB 3 32=true:=by kernel_rfl
theorem row_4:rowB 4 32=true:=by kernel_rfl
theorem row_5:rowB 5 32=true:=by kernel_rfl
theorem row_6:rowB 6 32=true:=by kernel_rfl
theorem row_7:rowB 7 32=true:=by kernel_rfl
theorem row_8:rowB 8 32=true:=by kernel_rfl
theorem row_9:rowB 9 32=true:=by kernel_rfl
theorem Qva:rowB 10 32=true:=by kernel_rfl
theorem Qvb:rowB 11 32=true:=by kernel_rfl
theorem Qvc:rowB 12 32=true:=by kernel_rfl
theorem Qvd:rowB 13 32=true:=by kernel_rfl
theorem Qve:rowB 14 32=true:=by kernel_rfl
theorem Qvf:rowB 15 32=true:=by kernel_rfl
theorem Qvg:rowB 16 32=true:=by kernel_rfl
theorem Qvh:rowB 17 32=true:=by kernel_rfl
theorem Qvi:rowB 18 32=true:=by kernel_rfl
theorem Qvj:rowB 19 32=true:=by kernel_rfl
theorem Qvk:rowB 20 32=true:=by kernel_rfl
theorem Qvl:rowB 21 32=true:=by kernel_rfl
theorem Qvm:rowB 22 32=true:=by kernel_rfl
theorem Qvn:rowB 23 32=true:=by kernel_rfl
theorem Qvo:rowB 24 32=true:=by kernel_rfl
theorem Qvp:rowB 25 32=true:=by kernel_rfl
theorem Qvq:rowB 26 32=true:=by kernel_rfl
theorem Qvr:rowB 27 32=true:=by kernel_rfl
theorem Qvs:rowB 28 32=true:=by kernel_rfl
theorem Qvt:rowB 29 32=true:=by kernel_rfl
theorem Qvu:rowB 30 32=true:=by kernel_rfl
theorem Qvv:rowB 31 32=true:=by kernel_rfl
theorem Qrn:∀{n b:Nat},rowB a n=true->b<n->unionB a b=true
 |0,_,_,h=>absurd h (Zay _)|n+1,b,c,d=>by
  have e:rowB a (n+1)=ifB (unionB a n) (rowB a n) false:=rfl;rw[e,QaN]at c;split at c
  ·rename_i h;rcases Nat.lt_succ_iff_lt_or_eq.1 d with h1|rfl;·exact Qrn c h1
   exact h
  cases c
theorem QpS(f:0<a)(c:a<32)(d:b<32):Ps 91 [sliN (bitsL a),sliN (bitsL b)] (sliN (bitsL (a|||b))):=by
 have h:rowB a 32=true:=by
  have:a=1\/a=2\/a=3\/a=4\/a=5\/a=6\/a=7\/a=8\/a=9\/a=10\/a=11\/a=12\/a=13\/a=14\/a=15\/a=16\/a=17\/a=18\/a=19\/a=20\/a=21\/a=22\/a=23\/a=24\/a=25\/a=26\/a=27\/a=28\/a=29\/a=30\/a=31:=by omega
  rcases this with rfl|rfl|rfl|rfl|rfl|rfl|rfl|rfl|rfl|rfl|rfl|rfl|rfl|rfl|rfl|rfl|rfl|rfl|rfl|rfl|rfl|rfl|rfl|rfl|rfl|rfl|rfl|rfl|rfl|rfl|rfl;·exact row_1
  ·exact row_2
  ·exact row_3
  ·exact row_4
  ·exact row_5
  ·exact row_6
  ·exact row_7
  ·exact row_8
  ·exact row_9
  ·exact Qva
  ·exact Qvb
  ·exact Qvc
  ·exact Qvd
  ·exact Qve
  ·exact Qvf
  ·exact Qvg
  ·exact Qvh
  ·exact Qvi
  ·exact Qvj
  ·exact Qvk
  ·exact Qvl
  ·exact Qvm
  ·exact Qvn
  ·exact Qvo
  ·exact Qvp
  ·exact Qvq
  ·exact Qvr
  ·exact Qvs
  ·exact Qvt
  ·exact Qvu
  exact Qvv
 exact QsO (Qrn h d)
end
open Go.AM.SE
noncomputable section
def allV(a:Nat):AV:=if a=0 then .nilsl else sliN (bitsL a)
def unionN(b:Nat):Bool:=callR ansB noOrc SK.ft.get (exR ansB noOrc SK.ft.get 1000) (.c .pure) 91 [.nilsl,sliN (bitsL b)] .e 64 (fun u _ _=>isV (allV b) u)
theorem Qro(h:unionN b=true):Ps 91 [.nilsl,sliN (bitsL b)] (allV b):=Qb2 (t:=SK.ft) SK.ft_ok QdN (d:=1000) (isV _) Qrm h
def rowN(n:Nat):Bool:=@Nat.rec (fun _=>Bool) true (fun b a=>ifB (unionN b) a false) n
theorem QsP:rowN 32=true:=by kernel_rfl
theorem QoX:∀{n b:Nat},rowN n=true->b<n->unionN b=true
 |0,_,_,h=>absurd h (Zay _)|n+1,b,a,c=>by
  have e:rowN (n+1)=ifB (unionN n) (rowN n) false:=rfl;rw[e,QaN]at a;split at a
  ·rename_i h;rcases Nat.lt_succ_iff_lt_or_eq.1 c with h1|rfl;·exact QoX a h1
   exact h
  cases a
theorem Qrp(b):SD.part 5 b=bitsL (b%32):=by unfold bitsL SD.part;apply ZbF;intro x a;have:=Zat.1 a;rw[show 32=2^5 from rfl,Nat.testBit_mod_two_pow];simp[this]
theorem union90(f:a<32):Ps 91 [allV a,sliN (SD.part 5 b)] (allV (a|||b%32)):=by
 rw[Qrp];have d:b%32<32:=Nat.mod_lt _ (by decide);by_cases c:a=0;·subst c;rw[Nat.zero_or];exact Qro (QoX QsP d)
 have h1:¬(a|||b%32)=0:=fun e=>c (Nat.or_eq_zero_iff.1 e).1;unfold allV;rw[if_neg c,if_neg h1];exact QpS (by omega) f d
end
end Go.AM.ST
namespace Go.AM.SU
open Go.Proofs Go.AM.SD Go.AM.SE Go.AM.SO
variable{a:Aut}{h:Heap}{y:List AV}{A X l:List Nat}{i k:Nat}{x:Nat×Aut}{p:Pln}
theorem QcD(l):(u8s l).length=l.length:=by simp[u8s]
theorem graph91(al)(st mk)(T)(i:al.Pairwise (·<·))(n:∀x∈al,x<5)(o:st<256)(f:mk<256)(h:T.length=25)(c:∀x∈T,x<256):Ps 92 [sliN al,grV st mk T,.int .i64 3] (aV (mkA al (st%3) mk T)):=by
 refine Zco 40 (Ok s92) rfl (by(try simp only[noRefs,Qaa,QaP,noRef,noRefs,Qab,Qa1,Zae,Zad])<;>rfl) (QdM _) ?_;have k:=Make32 al (st%3) mk T i n (by omega) f h c;have b:(u8s T).length=25:=by rw[QcD,h]
 have g:(u8s T).take 25=u8s T:=by rw[<-b,Zao]
 have d:(st:Int).tmod 3=((st%3:Nat):Int):=by rw[ZaZ (Zbf _)];norm_cast
 have a:(u8s T).all AV.one=true:=by
  have:∀l:List Nat,(u8s l).all AV.one=true:=fun l=>by induction l with|nil=>rfl|cons x l m=>show(AV.one _&&(u8s l).all AV.one)=true;rw[m];rfl
  exact this T
 unfold s92;refine ZcU (Zc3 b g d a) ?_;refine cp k ?_;generalize mkA al (st%3) mk T=A at*;refine ZcU (Zc1 a b) ?_;refine⟨.inr trivial,_,rfl,?_⟩;exact Zcm (QdM _)
theorem QfY(hi:i<10):aConvS (.int .i32 (48+(i:Int)))=some (.str [UInt8.ofNat (48+i)]):=by
 have:i=0\/i=1\/i=2\/i=3\/i=4\/i=5\/i=6\/i=7\/i=8\/i=9:=by omega
 rcases this with rfl|rfl|rfl|rfl|rfl|rfl|rfl|rfl|rfl|rfl<;>rfl
theorem events89(s:Nat)(g:s<256):HSpec Tryz.prog 90 [.int .u8 s] .e (.sl 98 0 0 (SD.part 5 s).length 1) (hp [(98,.cells 0 (ints (nz (SD.part 5 s))))]):=by
 refine ZcM 64 (Ok s90) rfl ?_;unfold s90;refine ZcT ?_;refine QaE 100 (fun i:Nat=>[(0,.int .u8 s),(3,.sl 50 0 0 (SD.part i s).length 1),(4,.int .i64 i)]) (fun i=>[(50,.cells 0 (ints (nz (SD.part i s))))]) (fun i=>i<=5) (fun i=>5-i) 0 ⟨[(50,.nil)],rfl,au0,au15,au16⟩ (Zah _) ?_;rintro i hi;have d:=@QdO i s;by_cases f:i<5
 ·have a:(i:Int)<5:=by omega
  by_cases b:s.testBit i=true;·have c:=Qes.2 b;have hp:=Qea (n:=5) (b:=s) (i:=i);rw[if_pos b]at hp;simp(disch:=first|omega|(simp only[lenW]<;>omega))only[a,Qdc (k:=.u8) (show i<=8 by omega),Qdd,c,Zam,wW,wV,simprocAttr];refine⟨i+1,by omega,by omega,?_⟩;rw[hp,QaM,QaB,Zaf];exact⟨[(50,.blk 50 1)],rfl,au0,au15,au16⟩
  have c:¬((s/2^i%2:Nat):Int)=1:=fun e=>b (Qes.1 e);have hp:=Qea (n:=5) (b:=s) (i:=i);rw[if_neg b,Zas]at hp;simp(disch:=first|omega|(simp only[lenW]<;>omega))only[a,Qdc (k:=.u8) (show i<=8 by omega),Qdd,c,Zam,wW,wV,simprocAttr];refine⟨i+1,by omega,by omega,?_⟩;rw[hp];exact⟨[(50,.blk 50 0)],rfl,au0,au15,au16⟩
 have a:¬(i:Int)<5:=by omega
 have e:i=5:=by omega
 subst e;refine ZcU a ?_;refine⟨.inr trivial,_,rfl,?_⟩;exact⟨[(98,.blk 50 0)],rfl,au0,au15,au16⟩
theorem del40F(hA:A.length<=1000000)(d:l.length<=1000000)(a:h.get 75=some (.cells 0 [sliN A]))(b:h.get 98=some (.cells 0 (ints (nz l)))):HSpec Tryz.prog 93 [.sl 98 0 0 l.length 1,.fn 94 [] [.ptr 75 0 0]] h (sliN (fltN A l)) ((h.set 98 (.cells 0 (ints (nz (delL A l))))).set 98 (.dead 0)):=by
 have h1:=HSpec.frameB (del40 A l hA d) (OnlyD.cons (OnlyD.sl (.inr rfl)) (OnlyD.cons (OnlyD.fn OnlyD.nil (OnlyD.cons (OnlyD.ptr (.inl rfl)) OnlyD.nil)) OnlyD.nil)) (OnlyD.sl (.inr rfl)) (by simp only[noRefs,noRef,Qaa];rfl) (Qaa _) (Qaa _) a b (by decide) rfl rfl;have hle:(fltN A l).length*1<=(ints (nz (delL A l))).length:=by simp[ints,delL]
 have c:=HSpec.freeze (ds:=ints (nz (delL A l))) h1 (by rw[QaF (by decide)]) (QcK _) hle rfl;have e:(ints (nz (delL A l))).take ((fltN A l).length*1)=ints (nz (fltN A l)):=by rw[ZbE];unfold delL;rw[QaM,QaB,List.take_append_of_le_length (by simp[ints]),ZaN (by simp[ints])]
 rw[e]at c;exact c
theorem QtX(l:List (Nat×Int)):flatVs (l.flatMap teC)=true:=by induction l with|nil=>rfl|cons x l a=>rw[ZaD];exact a
theorem del93F{l}(c:l.length<=1000000)(a:h.get 97=some (.cells 0 (l.flatMap teC))):HSpec Tryz.prog 96 [.sl 97 0 0 l.length 2,.fn 97 [] []] h (tes (flt0 l)) ((h.set 97 (.cells 0 ((delT l).flatMap teC))).set 97 (.dead 0)):=by
 have h1:=HSpec.frameA (del93 l c) (OnlyD.cons (OnlyD.sl rfl) (OnlyD.cons (OnlyD.same rfl) OnlyD.nil)) (OnlyD.sl rfl) (Qa1 _) (Qa1 _) a rfl;have hle:(flt0 l).length*2<=((delT l).flatMap teC).length:=by rw[Qdr];simp[delT];omega
 have b:=HSpec.freeze (ds:=(delT l).flatMap teC) h1 (by rw[QaF (by decide)]) (QtX _) hle rfl;have e:((delT l).flatMap teC).take ((flt0 l).length*2)=(flt0 l).flatMap teC:=by rw[QjR];unfold delT;rw[List.take_left]
 rw[e]at b;exact b
theorem Qhc:∀l:List Nat,(u8s l).all AV.one=true|[]=>rfl|x::l=>by show(AV.one _&&(u8s l).all AV.one)=true;rw[Qhc l];rfl
section
variable{p:Pln}
theorem Qm0(h:k<l.length):(u8s l)[k]?=some (.int .u8 ((l.getD k 0:Nat):Int)):=by refine Qi8 ?_;rw[Zak h,Zaj,Zak h];rfl
theorem QjS(h:POk p):(plnC p).length=152:=by show(u8s p.L++_).length=152;rw[Zaf,QcD,h.L];rfl
theorem Qvw(h:POk p)(hk:k<147):(plnC p)[k]?=some (.int .u8 ((p.L.getD k 0:Nat):Int)):=by show(u8s p.L++_)[k]?=_;rw[Za1 (by rw[QcD,h.L];exact hk),Qm0 (by rw[h.L];exact hk)]
theorem Qfs(h:POk p):(plnC p)[147+k]?=([.fsl (u8s p.X) p.xn 4,.int .i8 p.f0,.int .i8 p.f1,.int .i8 p.f2,.int .i8 p.bd]:List AV)[k]?:=by show(u8s p.L++_)[147+k]?=_;rw[List.getElem?_append_right (by rw[QcD,h.L];omega),QcD,h.L];congr 1;omega
theorem Qm1(h:POk p){m}(hk:k+m<=147):((plnC p).drop k).take m=u8s ((p.L.drop k).take m):=by show((u8s p.L++_).drop k).take m=_;rw[List.drop_append_of_le_length (by rw[QcD,h.L];omega),List.take_append_of_le_length (by rw[Za5,QcD,h.L];omega)];simp[u8s,List.map_drop,List.map_take]
theorem Qvx(h:POk p)(hk:k+27<=147):((plnC p).drop k).take 27=.int .u8 ((p.L.getD k 0:Nat):Int)::.int .u8 ((p.L.getD (k+1) 0:Nat):Int)::u8s ((p.L.drop (k+2)).take 25):=by
 have a:=h.L;rw[Qm1 h hk];have e:(p.L.drop k).take 27=p.L.getD k 0::p.L.getD (k+1) 0::(p.L.drop (k+2)).take 25:=by rw[Zaj,Zaj,Zak (show k<p.L.length by omega),Zak (show k+1<p.L.length by omega)];rw[List.drop_eq_getElem_cons (show k<p.L.length by omega),Za6,List.drop_eq_getElem_cons (show k+1<p.L.length by omega),Za6];rfl
 rw[e];rfl
theorem L_lt(h:POk p)(k):p.L.getD k 0<256:=by rw[Zaj];cases e:p.L[k]? with|none=>decide|some x=>exact h.L8 x (Zac e)
theorem X_lt(h:POk p)(k):p.X.getD k 0<256:=by rw[Zaj];cases e:p.X[k]? with|none=>decide|some x=>exact h.X8 x (Zac e)
theorem pF_lt(h:POk p)(i):-128<=pF p i/\pF p i<128:=by
 unfold pF;split;·exact h.f0
 split;·exact h.f1
 exact h.f2
theorem QjT(h:POk p):(plnC p).all AV.one=true:=by show(u8s p.L++_).all AV.one=true;rw[Zb2,Qhc];rfl
theorem Qej:noRefs (plnC p)=true:=by show noRefs (u8s p.L++_)=true;rw[Qag,QaP];simp only[noRefs,noRef,QaP];rfl
theorem QtY(F):AV.fsl (evP F 5) 5 5=evsV (fun i=>evOf (F.getD i 0)):=by congr 1
theorem Qrq(e):noRef (evsV e)=true:=rfl
theorem QaW{ch}(l:List (Nat×Aut)):noRefs (l.flatMap (itC ch))=true:=Qa8 (fun x=>by simp only[itC,noRefs,noRef,Qaa,Qaf];rfl) l
theorem QaK{ch}(l):noRef (its ch l)=true:=by simp only[noRef];exact QaW l
theorem QtZ:fltN (ST.bitsL (pAll p (pN p))) (SD.part 5 (p.L.getD (91+i) 0))=pW p i:=by unfold fltN pW;apply ZbF;intro x a;have:=partLt x a;show decide (x∈(List.range 5).filter _)=_;simp[this]
theorem QbA(l:List (Nat×Nat)):noRefs (l.flatMap loC)=true:=Qa8 (fun _=>rfl) l
theorem Qcr(l):noRef (los l)=true:=by simp only[noRef];exact QbA l
theorem QgW(l:List (Nat×Nat)):(l.flatMap loC).length=l.length*2:=Qbf (k:=2) (fun _=>rfl) l
theorem QaS(l:List (Nat×List (Nat×Nat))):noRefs (l.flatMap exC)=true:=Qa8 (fun x=>by simp only[exC,noRefs,noRef,QbA];rfl) l
theorem QbJ(l):noRef (exs l)=true:=by simp only[noRef];exact QaS l
theorem QeS(l:List (Nat×List (Nat×Nat))):(l.flatMap exC).length=l.length*2:=Qbf (k:=2) (fun _=>rfl) l
theorem QcM(l):noRef (tes l)=true:=by simp only[noRef];exact Qa1 l
theorem Qa9(l:List (List (Nat×Int)×Int)):noRefs (l.flatMap coC)=true:=Qa8 (fun x=>by simp only[coC,noRefs,noRef,Qa1];rfl) l
theorem Qld(l):noRef (cos l)=true:=by simp only[noRef];exact Qa9 l
theorem QdT{ch}{l:List (Nat×Aut)}(h:l[i]?=some x):(l.flatMap (itC ch)).drop (i*5)=.str [ch,UInt8.ofNat (48+x.1)]::sliN x.2.al::.int .i64 (x.2.n:Int)::sliN x.2.ms::egsN x.2.es::(l.drop (i+1)).flatMap (itC ch):=Qbj (f:=itC ch) (k:=5) (fun _=>rfl) h
theorem Qt0(h:i*4+4<=X.length):((u8s X).drop (i*4)).take 4=[.int .u8 ((X.getD (i*4) 0:Nat):Int),.int .u8 ((X.getD (i*4+1) 0:Nat):Int),.int .u8 ((X.getD (i*4+2) 0:Nat):Int),.int .u8 ((X.getD (i*4+3) 0:Nat):Int)]:=by
 have g:∀k,k<4->X.getD (i*4+k) 0=X[i*4+k]!:=fun k hk=>by rw[Zaj,List.getElem!_eq_getElem?_getD];rfl
 apply Zbq;intro j;by_cases a:j<4
 ·rw[List.getElem?_take_of_lt a,Zb0,Qm0 (by omega)];have:j=0\/j=1\/j=2\/j=3:=by omega
  rcases this with rfl|rfl|rfl|rfl<;>rfl
 rw[Zax (by rw[Zar];omega),Zax (by simp;omega)]
theorem QaX(c):noRef (celV c)=true:=by rw[celV,noRef,noRefs,noRefs,noRefs,noRefs,noRefs,Qrq,QaK,QaK,QbJ,Qld];rfl
theorem Qek{s}{a:Aut}:noRefs [.str s,sliN a.al,.int .i64 (a.n:Int),sliN a.ms,egsN a.es]=true:=by simp only[noRefs,noRef,Qaa,Qaf];rfl
theorem Qat{x}(a:noRefs x=true)(b:noRefs y=true):noRefs (x++y)=true:=by rw[Qag,a,b];rfl
theorem Qrr{ch}:List.flatMap (itC ch) [(i,a)]=[.str [ch,UInt8.ofNat (48+i)],sliN a.al,.int .i64 (a.n:Int),sliN a.ms,egsN a.es]:=rfl
theorem Qec{ch}(l:List (Nat×Aut)):(l.flatMap (itC ch)).length=l.length*5:=Qbf (k:=5) (fun _=>rfl) l
theorem QsQ{i}:pCs p (i+1)=pCs p i++[(i,pA p i)]:=by unfold pCs;rw[ZaL,ZaI];rfl
theorem QsR{i}:pRs p (i+1)=pRs p i++[(i,pR p i)]:=by unfold pRs;rw[ZaL,ZaI];rfl
theorem QjU{i}:(pCs p i).length=i:=by simp[pCs]
theorem QoY{i}:(pRs p i).length=i:=by simp[pRs]
theorem QoZ:∀{i:Nat},pAll p i<32|0=>by show 0<32;decide|i+1=>Nat.or_lt_two_pow (n:=5) QoZ (Nat.mod_lt _ (by decide))
end
theorem QpT(a):(ST.allV a).cells=[ST.allV a]:=by unfold ST.allV;split<;>rfl
theorem QsS(a):(ST.allV a).one=true:=by unfold ST.allV;split<;>rfl
theorem Qn6(a):noRefs [ST.allV a]=true:=by
 unfold ST.allV;split;·rfl
 simp only[noRefs,noRef,Qaa];rfl
theorem Make26(p)(h:POk p):Ps 42 [plnV p] (celV (mkC p)):=by
 refine Zco 40 (Ok s42) rfl (by simp only[noRefs,noRef,Qej];rfl) (QaX _) ?_;have hlen:=QjS h;have K:=QjT h;have b:=@Qej p;have h5:(plnC p).take 5=u8s (p.L.take 5):=by simpa using Qm1 h (k:=0) (m:=5) (by omega)
 have E:=events88 (p.L.take 5) (by rw[Zar,h.L];rfl) (fun i=>by rw[Zaj];cases e:(p.L.take 5)[i]? with|none=>decide|some x=>exact h.L8 x (ZaR (Zac e)));rw[QtY]at E;have n:∀{k},k<147->(plnC p)[k]?=some (.int .u8 ((p.L.getD k 0:Nat):Int)):=fun hk=>Qvw h hk;have a5:=n (k:=5) (by omega);have a90:=n (k:=90) (by omega);have S:(plnC p)[147]?=some (.fsl (u8s p.X) p.xn 4):=Qfs h (k:=0);have aF:∀i,i<3->(plnC p)[148+i]?=some (.int .i8 (pF p i)):=by
  intro i hi;have:i=0\/i=1\/i=2:=by omega
  rcases this with rfl|rfl|rfl;·exact Qfs h (k:=1)
  ·exact Qfs h (k:=2)
  exact Qfs h (k:=3)
 have R:(plnC p)[151]?=some (.int .i8 p.bd):=Qfs h (k:=4);have H:∀{k},k+27<=147->((plnC p).drop k).take 27=_:=fun hk=>Qvx h hk;show wS _ _ _ _ _ (argT 0 [.agg (plnC p)]) _ _;generalize plnC p=C at*;have htm:((p.L.getD 5 0:Nat):Int).tmod 3=((p.L.getD 5 0%3:Nat):Int):=by rw[ZaZ (Zbf _)];norm_cast
 have hn:(1:Int)+((p.L.getD 5 0%3:Nat):Int)=(pN p:Int):=by unfold pN;omega
 have hn3:=@pN_le p;unfold s42;refine ZcU (Zc2 hlen K h5) ?_;refine cp E ?_;refine ZcU (Zc2 a5 htm hn) ?_;refine Qas 100 (fun i:Nat=>[(1,.ptr 50 0 0),(2,.ptr 51 0 0),(3,.ptr 52 0 0),(4,.ptr 75 0 0),(5,.int .i64 (pN p:Int)),(26,.int .i64 (pN p:Int)),(27,.int .i64 i)]) (fun i=>[(50,.cells 0 C),(51,.cells 0 [.nilsl,.nilsl,.nilsl,.nilsl,.nilsl]),(52,.cells 0 [evsV (fun i=>evOf ((p.L.take 5).getD i 0)),.sl 76 0 0 (pCs p i).length 5,.nilsl,.nilsl,.nilsl]),(75,.cells 0 [ST.allV (pAll p i)]),(76,.cells 0 ((pCs p i).flatMap (itC 99)))]) (fun i=>i<=pN p) (fun i=>pN p-i) 0 0 200 (fun _:Unit=>[(1,.ptr 50 0 0),(2,.ptr 51 0 0),(3,.ptr 52 0 0),(4,.ptr 75 0 0),(5,.int .i64 (pN p:Int))]) (fun _=>[(50,.cells 0 C),(51,.cells 0 [.nilsl,.nilsl,.nilsl,.nilsl,.nilsl]),(52,.cells 0 [evsV (fun i=>evOf ((p.L.take 5).getD i 0)),its 99 (pCs p (pN p)),.nilsl,.nilsl,.nilsl]),(75,.cells 0 [sliN (ST.bitsL (pAll p (pN p)))])]) (fun _=>True) ?_ (Zah _) ?_ ?_;·refine⟨[(50,.blk 40 0),(51,.blk 41 0),(52,.blk 46 0),(75,.blk 48 0),(76,.nil)],rfl,au0,?_,au16⟩;exact Zcw rfl rfl gg (Zcn b) (Zcw rfl rfl gg (Zcn rfl) (Zcw rfl rfl gg (ZcC (Zcm rfl) (ZcC (Rn.x4 rfl rfl) (Zcn rfl))) (Zcw rfl rfl gg (Zcn rfl) (Zcx rfl rfl Zcv))))
 ·rintro i hi;by_cases c:i<pN p
  ·have f:(i:Int)<3:=by omega
   have X:=n (k:=6+i) (by omega);have hE:=events16 (p.L.getD (6+i) 0) (L_lt h _);have hU:=ST.union90 (a:=pAll p i) (b:=p.L.getD (6+i) 0) QoZ;have hg:=H (k:=9+i*27) (by omega);have L:=graph91 (SD.part 5 (p.L.getD (6+i) 0)) (p.L.getD (9+i*27) 0) (p.L.getD (9+i*27+1) 0) ((p.L.drop (9+i*27+2)).take 25) (QdY _ _) partLt (L_lt h _) (L_lt h _) (by rw[Zar,Za5,h.L];omega) (fun x hx=>h.L8 x (List.mem_of_mem_drop (ZaR hx)));have hA:mkA (SD.part 5 (p.L.getD (6+i) 0)) (p.L.getD (9+i*27) 0%3) (p.L.getD (9+i*27+1) 0) ((p.L.drop (9+i*27+2)).take 25)=pA p i:=rfl;rw[hA]at L;have hB:pAll p i|||p.L.getD (6+i) 0%32=pAll p (i+1):=rfl;rw[hB]at hU;have a:=@QsQ p i;have l:=@Qec 99 (pCs p i);have d:=@QjU p i;refine ZcU (Zc3 c f X hlen) ?_;refine cp hE ?_;refine ZcT ?_;refine cp hU ?_;have y:=QfY (i:=i) (by omega);have m:9+i*27+27<=152:=by omega
   refine ZcU (Zc8 c f hlen y @QeI @QpT @QsS m hg) ?_;refine cp L ?_;refine ZcU (Zc1 l d) ?_;refine⟨i+1,by omega,by omega,?_⟩;rw[a,Zan,Zaf,d,Qrr];refine⟨[(50,.blk 50 0),(51,.blk 51 0),(52,.blk 52 0),(75,.blk 75 0),(76,.blk 76 1)],rfl,au0,?_,au16⟩;exact Zcw rfl rfl gg (Zcn b) (Zcw rfl rfl gg (Zcn rfl) (Zcw rfl rfl gg (ZcC (Zcm rfl) (ZcC (Rn.x1 rfl rfl) (Zcn rfl))) (Zcw rfl rfl gg (Zcn (Qn6 _)) (Zcw rfl rfl gg (Zcn (Qat (QaW _) Qek)) Zcv))))
  have e:i=pN p:=by omega
  subst e;have l:=@Qec 99 (pCs p (pN p));have d:=@QjU p (pN p);refine ZcU c ?_;refine⟨(),?_⟩;refine⟨[(50,.blk 50 0),(51,.blk 51 0),(52,.blk 52 0),(75,.blk 75 0)],rfl,au0,?_,au16⟩;refine Zcw rfl rfl gg (Zcn b) (Zcw rfl rfl gg (Zcn rfl) (Zcw rfl rfl gg (ZcC (Zcm rfl) (ZcC (ZcD rfl rfl rfl rfl (Qec _) (Zcn (QaW _))) (Zcn rfl))) (Zcw rfl rfl gg (ZcC ?_ ZcB) Zcv)));unfold ST.allV;split;·rename_i g;rw[g];exact Rn.nilK
  exact Zcm (Qab _)
 rintro _ _;have v:((p.L.getD 90 0:Nat):Int).tmod 3=(pM p:Int):=by rw[ZaZ (Zbf _)];unfold pM;norm_cast
 have hm2:=@pM_le p;refine ZcU (Zc1 a90 v) ?_;refine Qas 100 (fun i:Nat=>[(1,.ptr 50 0 0),(2,.ptr 51 0 0),(3,.ptr 52 0 0),(4,.ptr 75 0 0),(5,.int .i64 (pN p:Int)),(59,.int .i64 (pM p:Int)),(60,.int .i64 i)]) (fun i=>[(50,.cells 0 C),(51,.cells 0 [.nilsl,.nilsl,.nilsl,.nilsl,.nilsl]),(52,.cells 0 [evsV (fun i=>evOf ((p.L.take 5).getD i 0)),its 99 (pCs p (pN p)),.sl 77 0 0 (pRs p i).length 5,.nilsl,.nilsl]),(75,.cells 0 [sliN (ST.bitsL (pAll p (pN p)))]),(77,.cells 0 ((pRs p i).flatMap (itC 114)))]) (fun i=>i<=pM p) (fun i=>pM p-i) 0 2 200 (fun _:Unit=>[(1,.ptr 50 0 0),(2,.ptr 51 0 0),(3,.ptr 52 0 0),(5,.int .i64 (pN p:Int))]) (fun _=>[(50,.cells 0 C),(51,.cells 0 [.nilsl,.nilsl,.nilsl,.nilsl,.nilsl]),(52,.cells 0 [evsV (fun i=>evOf ((p.L.take 5).getD i 0)),its 99 (pCs p (pN p)),its 114 (pRs p (pM p)),.nilsl,.nilsl])]) (fun _=>True) ?_ (Zah _) ?_ ?_;·refine⟨[(50,.blk 50 0),(51,.blk 51 0),(52,.blk 52 0),(75,.blk 75 0),(77,.nil)],rfl,au0,?_,au16⟩;exact Zcw rfl rfl gg (Zcn b) (Zcw rfl rfl gg (Zcn rfl) (Zcw rfl rfl gg (ZcC (Zcm rfl) (ZcC (Zcm (QaK _)) (ZcC (Rn.x4 rfl rfl) (Zcn rfl)))) (Zcw rfl rfl gg (ZcC (Zcm (Qab _)) ZcB) (Zcx rfl rfl Zcv))))
 ·rintro i hi;by_cases c:i<pM p
  ·have f:(i:Int)<2:=by omega
   have X:=n (k:=91+i) (by omega);have hE:=events89 (p.L.getD (91+i) 0) (L_lt h _);have hg:=H (k:=93+i*27) (by omega);have L:=graph91 (pW p i) (p.L.getD (93+i*27) 0) (p.L.getD (93+i*27+1) 0) ((p.L.drop (93+i*27+2)).take 25) (Qlb _) (pW_lt _) (L_lt h _) (L_lt h _) (by rw[Zar,Za5,h.L];omega) (fun x hx=>h.L8 x (List.mem_of_mem_drop (ZaR hx)));have hA:mkA (pW p i) (p.L.getD (93+i*27) 0%3) (p.L.getD (93+i*27+1) 0) ((p.L.drop (93+i*27+2)).take 25)=pR p i:=rfl;rw[hA]at L;have a:=@QsR p i;have l:=@Qec 114 (pRs p i);have d:=@QoY p i;have y:=QfY (i:=i) (by omega);have m:93+i*27+27<=152:=by omega
   have hW:fltN (ST.bitsL (pAll p (pN p))) (SD.part 5 (p.L.getD (91+i) 0))=pW p i:=QtZ;have V:(ST.bitsL (pAll p (pN p))).length<=1000000:=Zaw (QdO (i:=5)) (by decide);have N:(SD.part 5 (p.L.getD (91+i) 0)).length<=1000000:=Zaw (QdO (i:=5)) (by decide);generalize ST.bitsL (pAll p (pN p))=A at*;refine ZcU (Zc3 c f X hlen) ?_;refine ch (HSpec.of_O (b:=98) (by(try simp only[noRefs,Qaa,QaP,noRef,noRefs,Qab,Qa1,Zae,Zad])<;>rfl) hE (by repeat(first|exact Fresh.e|exact Fresh.le (by assumption) (by omega)|refine Fresh.set ?_ (by omega) (by omega))) rfl) ?_;refine ZcT ?_;refine chc (del40F V N gg gg) ?_;rw[hW];refine ZcU (Zc5 c f hlen y m hg) ?_;refine cp L ?_;refine ZcU (Zc1 l d) ?_;refine⟨i+1,by omega,by omega,?_⟩;rw[a,Zan,Zaf,d,Qrr];refine⟨[(50,.blk 50 0),(51,.blk 51 0),(52,.blk 52 0),(75,.blk 75 0),(77,.blk 77 1)],rfl,au0,?_,au16⟩;exact Zcw rfl rfl gg (Zcn b) (Zcw rfl rfl gg (Zcn rfl) (Zcw rfl rfl gg (ZcC (Zcm rfl) (ZcC (Zcm (QaK _)) (ZcC (Rn.x1 rfl rfl) (Zcn rfl)))) (Zcw rfl rfl gg (ZcC (Zcm (Qab _)) ZcB) (Zcw rfl rfl gg (Zcn (Qat (QaW _) Qek)) Zcv))))
  have e:i=pM p:=by omega
  subst e;have l:=@Qec 114 (pRs p (pM p));have d:=@QoY p (pM p);refine ZcU c ?_;refine⟨(),?_⟩;refine⟨[(50,.blk 50 0),(51,.blk 51 0),(52,.blk 52 0)],rfl,au0,?_,au16⟩;exact Zcw rfl rfl gg (Zcn b) (Zcw rfl rfl gg (Zcn rfl) (Zcw rfl rfl gg (ZcC (Zcm rfl) (ZcC (Zcm (QaK _)) (ZcC (ZcD rfl rfl rfl rfl (Qec _) (Zcn (QaW _))) (Zcn rfl)))) Zcv))
 rintro _ _;refine ZcU S ?_;refine Qas 100 (fun i:Nat=>[(1,.ptr 50 0 0),(2,.ptr 51 0 0),(3,.ptr 52 0 0),(5,.int .i64 (pN p:Int)),(89,.fsl (u8s p.X) p.xn 4),(90,.int .i64 (p.xn:Int)),(91,.int .i64 i)]) (fun i=>[(50,.cells 0 C),(51,.cells 0 [.nilsl,.nilsl,.nilsl,.nilsl,.nilsl]),(52,.cells 0 [evsV (fun i=>evOf ((p.L.take 5).getD i 0)),its 99 (pCs p (pN p)),its 114 (pRs p (pM p)),.sl 78 0 0 (pXs p i).length 2,.nilsl]),(78,.cells 0 ((pXs p i).flatMap exC))]) (fun i=>i<=p.xn/\i<=2) (fun i=>p.xn-i) 0 4 200 (fun _:Unit=>[(1,.ptr 50 0 0),(2,.ptr 51 0 0),(3,.ptr 52 0 0),(5,.int .i64 (pN p:Int))]) (fun _=>[(50,.cells 0 C),(51,.cells 0 [.nilsl,.nilsl,.nilsl,.nilsl,.nilsl]),(52,.cells 0 [evsV (fun i=>evOf ((p.L.take 5).getD i 0)),its 99 (pCs p (pN p)),its 114 (pRs p (pM p)),exs (pXs p (min p.xn 2)),.nilsl])]) (fun _=>True) ?_ ⟨Zah _,Zah _⟩ ?_ ?_;·refine⟨[(50,.blk 50 0),(51,.blk 51 0),(52,.blk 52 0),(78,.nil)],rfl,au0,?_,au16⟩;exact Zcw rfl rfl gg (Zcn b) (Zcw rfl rfl gg (Zcn rfl) (Zcw rfl rfl gg (ZcC (Zcm rfl) (ZcC (Zcm (QaK _)) (ZcC (Zcm (QaK _)) (ZcC (Rn.x4 rfl rfl) (Zcn rfl))))) (Zcx rfl rfl Zcv)))
 ·rintro i⟨hi,hi2⟩;have B:=@QeS (pXs p i);have hxx:=@QjP p i;by_cases c:i<p.xn
  ·have hX:=h.X;have h4:=Qt0 (X:=p.X) (i:=i) (by omega);have hul:i*4+4<=(u8s p.X).length:=by rw[QcD,hX];omega
   have P:4<=((u8s p.X).drop (i*4)).length:=by rw[Za5];omega
   by_cases h2:i=2
   ·subst h2;have G:(2:Int)<(p.xn:Int):=by omega
    refine ZcU (Zc3 c h4 P G) ?_;refine⟨(),?_⟩;rw[show min p.xn 2=2 by omega];exact bMUS8
   have U:¬(i:Int)=2:=by omega
   have y:=QfY (i:=i) (by omega);refine ZcU (Zc4 c h4 P U y) ?_;obtain⟨Y,w⟩:∃Y,Y=[AV.int .u8 ((p.X.getD (i*4) 0:Nat):Int),.int .u8 ((p.X.getD (i*4+1) 0:Nat):Int),.int .u8 ((p.X.getD (i*4+2) 0:Nat):Int),.int .u8 ((p.X.getD (i*4+3) 0:Nat):Int)]:=⟨_,rfl⟩;have u:noRefs Y=true:=by rw[w];rfl
   have hYk:∀k,k<3->Y[k]?=some (.int .u8 ((p.X.getD (i*4+k) 0:Nat):Int)):=by
    intro k hk;have:k=0\/k=1\/k=2:=by omega
    rcases this with rfl|rfl|rfl<;>rw[w]<;>rfl
   have d:=@QjU p (pN p);have hilC:=@Qec 99 (pCs p (pN p));rw[<-w,d];refine Qas 220 (fun k:Nat=>[(1,.ptr 50 0 0),(2,.ptr 51 0 0),(3,.ptr 52 0 0),(5,.int .i64 (pN p:Int)),(11,.ptr 60 0 0),(12,.ptr 61 0 0),(89,.fsl (u8s p.X) p.xn 4),(90,.int .i64 (p.xn:Int)),(91,.int .i64 i),(106,.int .i64 (pN p:Int)),(107,.int .i64 k)]) (fun k=>[(50,.cells 0 C),(51,.cells 0 [.nilsl,.nilsl,.nilsl,.nilsl,.nilsl]),(52,.cells 0 [evsV (fun i=>evOf ((p.L.take 5).getD i 0)),its 99 (pCs p (pN p)),its 114 (pRs p (pM p)),.sl 78 0 0 (pXs p i).length 2,.nilsl]),(60,.cells 0 Y),(61,.cells 0 [.str [101,UInt8.ofNat (48+i)],.sl 79 0 0 (pLo p i k).length 2]),(78,.cells 0 ((pXs p i).flatMap exC)),(79,.cells 0 ((pLo p i k).flatMap loC))]) (fun k=>k<=pN p) (fun k=>pN p-k) 0 6 300 (fun _:Unit=>[(1,.ptr 50 0 0),(2,.ptr 51 0 0),(3,.ptr 52 0 0),(5,.int .i64 (pN p:Int)),(12,.ptr 61 0 0),(89,.fsl (u8s p.X) p.xn 4),(90,.int .i64 (p.xn:Int)),(91,.int .i64 i)]) (fun _=>[(50,.cells 0 C),(51,.cells 0 [.nilsl,.nilsl,.nilsl,.nilsl,.nilsl]),(52,.cells 0 [evsV (fun i=>evOf ((p.L.take 5).getD i 0)),its 99 (pCs p (pN p)),its 114 (pRs p (pM p)),.sl 78 0 0 (pXs p i).length 2,.nilsl]),(61,.cells 0 [.str [101,UInt8.ofNat (48+i)],los (pLo p i (pN p))]),(78,.cells 0 ((pXs p i).flatMap exC))]) (fun _=>True) ?_ (Zah _) ?_ ?_;·refine⟨[(50,.blk 50 0),(51,.blk 51 0),(52,.blk 52 0),(60,.blk 104 0),(61,.blk 115 0),(78,.blk 78 0),(79,.nil)],rfl,au0,?_,au16⟩;exact Zcw rfl rfl gg (Zcn b) (Zcw rfl rfl gg (Zcn rfl) (Zcw rfl rfl gg (ZcC (Zcm rfl) (ZcC (Zcm (QaK _)) (ZcC (Zcm (QaK _)) (ZcC (Rn.x1 rfl rfl) (Zcn rfl))))) (Zcw rfl rfl gg (Zcn u) (Zcw rfl rfl gg (ZcC (Zcm rfl) (ZcC (Rn.x4 rfl rfl) ZcB)) (Zcw rfl rfl gg (Zcn (QaS _)) (Zcx rfl rfl Zcv))))))
   ·rintro k hk;have F:=@QgW (pLo p i k);have Z:=@QjQ p i k;by_cases o:k<pN p
    ·have Q:(k:Int)<4:=by omega
     have hck:=Qrj (p:=p) o;have s:=QdT (ch:=99) hck;have q:5<=(((pCs p (pN p)).flatMap (itC 99)).drop (k*5)).length:=by rw[s];simp
     have hy:=hYk k (by omega);have hx8:=X_lt h (i*4+k);have hn5:(pA p k).n<=3:=(pA_wf k).n3;have M:((p.X.getD (i*4+k) 0:Nat):Int).tmod (((pA p k).n:Int)+2)=((p.X.getD (i*4+k) 0%((pA p k).n+2):Nat):Int):=by rw[ZaZ (Zbf _)];norm_cast
     have I:¬((pA p k).n:Int)+2=0:=by omega
     have hxm:p.X.getD (i*4+k) 0%((pA p k).n+2)<=10:=by have:=Nat.mod_lt (p.X.getD (i*4+k) 0) (show 0<(pA p k).n+2 by omega);omega
     have a:pLo p i (k+1)=if p.X.getD (i*4+k) 0%((pA p k).n+2)<(pA p k).n then pLo p i k++[(k,p.X.getD (i*4+k) 0%((pA p k).n+2))]else pLo p i k:=rfl;by_cases T:p.X.getD (i*4+k) 0%((pA p k).n+2)<(pA p k).n;·rw[if_pos T]at a;have z:List.flatMap loC [(k,p.X.getD (i*4+k) 0%((pA p k).n+2))]=[.int .i64 (k:Int),.int .i64 ((p.X.getD (i*4+k) 0%((pA p k).n+2):Nat):Int)]:=rfl;refine ZcU (Zc8 o Q s q hy M I T F) ?_;refine⟨k+1,by omega,by omega,?_⟩;rw[a,Zan,Zaf,z];refine⟨[(50,.blk 50 0),(51,.blk 51 0),(52,.blk 52 0),(60,.blk 60 0),(61,.blk 61 0),(78,.blk 78 0),(79,.blk 79 1)],rfl,au0,?_,au16⟩;exact Zcw rfl rfl gg (Zcn b) (Zcw rfl rfl gg (Zcn rfl) (Zcw rfl rfl gg (ZcC (Zcm rfl) (ZcC (Zcm (QaK _)) (ZcC (Zcm (QaK _)) (ZcC (Rn.x1 rfl rfl) (Zcn rfl))))) (Zcw rfl rfl gg (Zcn u) (Zcw rfl rfl gg (ZcC (Zcm rfl) (ZcC (Rn.x1 rfl rfl) ZcB)) (Zcw rfl rfl gg (Zcn (QaS _)) (Zcw rfl rfl gg (Zcn (Qat (QbA _) rfl)) Zcv))))))
     rw[if_neg T]at a;refine ZcU (Zc8 o Q s q hy M I T F) ?_;refine⟨k+1,by omega,by omega,?_⟩;rw[a];refine⟨[(50,.blk 50 0),(51,.blk 51 0),(52,.blk 52 0),(60,.blk 60 0),(61,.blk 61 0),(78,.blk 78 0),(79,.blk 79 0)],rfl,au0,?_,au16⟩;exact Zcw rfl rfl gg (Zcn b) (Zcw rfl rfl gg (Zcn rfl) (Zcw rfl rfl gg (ZcC (Zcm rfl) (ZcC (Zcm (QaK _)) (ZcC (Zcm (QaK _)) (ZcC (Rn.x1 rfl rfl) (Zcn rfl))))) (Zcw rfl rfl gg (Zcn u) (Zcw rfl rfl gg (ZcC (Zcm rfl) (ZcC (Rn.x1 rfl rfl) ZcB)) (Zcw rfl rfl gg (Zcn (QaS _)) (Zcw rfl rfl gg (Zcn (QbA _)) Zcv))))))
    have e:k=pN p:=by omega
    subst e;refine ZcU o ?_;refine⟨(),?_⟩;refine⟨[(50,.blk 50 0),(51,.blk 51 0),(52,.blk 52 0),(61,.blk 61 0),(78,.blk 78 0)],rfl,au0,?_,au16⟩;exact Zcw rfl rfl gg (Zcn b) (Zcw rfl rfl gg (Zcn rfl) (Zcw rfl rfl gg (ZcC (Zcm rfl) (ZcC (Zcm (QaK _)) (ZcC (Zcm (QaK _)) (ZcC (Rn.x1 rfl rfl) (Zcn rfl))))) (Zcw rfl rfl gg (ZcC (Zcm rfl) (ZcC (ZcD rfl rfl rfl rfl (QgW _) (Zcn (QbA _))) ZcB)) (Zcw rfl rfl gg (Zcn (QaS _)) Zcv))))
   rintro _ _;have a:pXs p (i+1)=if 0<(pLo p i (pN p)).length then pXs p i++[(i,pLo p i (pN p))]else pXs p i:=rfl;have Z:=@QjQ p i (pN p);by_cases g:0<(pLo p i (pN p)).length;·rw[if_pos g]at a;have J:List.flatMap exC [(i,pLo p i (pN p))]=[.str [101,UInt8.ofNat (48+i)],los (pLo p i (pN p))]:=rfl;refine ZcU (Zc1 g B) ?_;refine⟨i+1,by omega,⟨by omega,by omega⟩,?_⟩;rw[a,Zan,Zaf,J];refine⟨[(50,.blk 50 0),(51,.blk 51 0),(52,.blk 52 0),(78,.blk 78 1)],rfl,au0,?_,au16⟩;exact Zcw rfl rfl gg (Zcn b) (Zcw rfl rfl gg (Zcn rfl) (Zcw rfl rfl gg (ZcC (Zcm rfl) (ZcC (Zcm (QaK _)) (ZcC (Zcm (QaK _)) (ZcC (Rn.x1 rfl rfl) (Zcn rfl))))) (Zcw rfl rfl gg (Zcn (Qat (QaS _) (by simp only[noRefs,noRef,QbA];rfl))) Zcv)))
   rw[if_neg g]at a;refine ZcU (Zc1 g B) ?_;refine⟨i+1,by omega,⟨by omega,by omega⟩,?_⟩;rw[a];refine⟨[(50,.blk 50 0),(51,.blk 51 0),(52,.blk 52 0),(78,.blk 78 0)],rfl,au0,?_,au16⟩;exact Zcw rfl rfl gg (Zcn b) (Zcw rfl rfl gg (Zcn rfl) (Zcw rfl rfl gg (ZcC (Zcm rfl) (ZcC (Zcm (QaK _)) (ZcC (Zcm (QaK _)) (ZcC (Rn.x1 rfl rfl) (Zcn rfl))))) (Zcw rfl rfl gg (Zcn (QaS _)) Zcv)))
  have e:i=p.xn:=by omega
  subst e;refine ZcU c ?_;refine⟨(),?_⟩;rw[show min p.xn 2=p.xn by omega];exact bMUS8
 rintro _ _;have hb1:=Int.lt_tmod_of_pos p.bd (show(0:Int)<8 by decide);have hb2:=Int.tmod_lt_of_pos p.bd (show(0:Int)<8 by decide);have hbd:=h.bd;have hf0:=h.f0;have hf1:=h.f1;have hf2:=h.f2;refine ZcU R ?_;refine Qas 240 (fun i:Nat=>[(1,.ptr 50 0 0),(2,.ptr 51 0 0),(3,.ptr 52 0 0),(15,.ptr 62 0 0),(157,.int .i64 (pN p:Int)),(158,.int .i64 i)]) (fun i=>[(50,.cells 0 C),(51,.cells 0 [.nilsl,.nilsl,.nilsl,.nilsl,.nilsl]),(52,.cells 0 [evsV (fun i=>evOf ((p.L.take 5).getD i 0)),its 99 (pCs p (pN p)),its 114 (pRs p (pM p)),exs (pXs p (min p.xn 2)),.nilsl]),(62,.cells 0 [.str [107],.sl 97 0 0 (pT p i).length 2,.int .i64 (p.bd.tmod 8)]),(97,.cells 0 ((pT p i).flatMap teC))]) (fun i=>i<=pN p) (fun i=>pN p-i) 0 8 300 (fun _:Unit=>[(2,.ptr 51 0 0),(3,.ptr 52 0 0),(15,.ptr 62 0 0)]) (fun _=>[(51,.cells 0 [.nilsl,.nilsl,.nilsl,.nilsl,.nilsl]),(52,.cells 0 [evsV (fun i=>evOf ((p.L.take 5).getD i 0)),its 99 (pCs p (pN p)),its 114 (pRs p (pM p)),exs (pXs p (min p.xn 2)),.nilsl]),(62,.cells 0 [.str [107],.sl 97 0 0 (pT p (pN p)).length 2,.int .i64 (p.bd.tmod 8)]),(97,.cells 0 ((pT p (pN p)).flatMap teC))]) (fun _=>True) ?_ (Zah _) ?_ ?_;·refine⟨[(50,.blk 50 0),(51,.blk 51 0),(52,.blk 52 0),(62,.blk 205 0),(97,.nil)],rfl,au0,?_,au16⟩;exact Zcw rfl rfl gg (Zcn b) (Zcw rfl rfl gg (Zcn rfl) (Zcw rfl rfl gg (ZcC (Zcm rfl) (ZcC (Zcm (QaK _)) (ZcC (Zcm (QaK _)) (ZcC (Zcm (QbJ _)) (Zcn rfl))))) (Zcw rfl rfl gg (ZcC (Zcm rfl) (ZcC (Rn.x4 rfl rfl) (Zcn rfl))) (Zcx rfl rfl Zcv))))
 ·rintro i hi;have htl:=@Qdr (pT p i);have htx:=@QmY p i;by_cases c:i<pN p
  ·have f:(i:Int)<3:=by omega
   have ha:=aF i (by omega);have hFb:-128<=pF p i/\pF p i<128:=pF_lt h i;have a:pT p (i+1)=if pF p i=0 then pT p i else pT p i++[(i,(pF p i).tmod 4)]:=rfl;by_cases g:pF p i=0;·rw[if_pos g]at a;refine ZcU (Zc4 c f hlen ha g) ?_;refine⟨i+1,by omega,by omega,?_⟩;rw[a];refine⟨[(50,.blk 50 0),(51,.blk 51 0),(52,.blk 52 0),(62,.blk 62 0),(97,.blk 97 0)],rfl,au0,?_,au16⟩;exact Zcw rfl rfl gg (Zcn b) (Zcw rfl rfl gg (Zcn rfl) (Zcw rfl rfl gg (ZcC (Zcm rfl) (ZcC (Zcm (QaK _)) (ZcC (Zcm (QaK _)) (ZcC (Zcm (QbJ _)) (Zcn rfl))))) (Zcw rfl rfl gg (ZcC (Zcm rfl) (ZcC (Rn.x1 rfl rfl) (Zcn rfl))) (Zcw rfl rfl gg (Zcn (Qa1 _)) Zcv))))
   rw[if_neg g]at a;have O:List.flatMap teC [(i,(pF p i).tmod 4)]=[.int .i64 (i:Int),.int .i64 ((pF p i).tmod 4)]:=rfl;refine ZcU (Zc5 c f hlen ha g htl) ?_;refine⟨i+1,by omega,by omega,?_⟩;rw[a,Zan,Zaf,O];refine⟨[(50,.blk 50 0),(51,.blk 51 0),(52,.blk 52 0),(62,.blk 62 0),(97,.blk 97 1)],rfl,au0,?_,au16⟩;exact Zcw rfl rfl gg (Zcn b) (Zcw rfl rfl gg (Zcn rfl) (Zcw rfl rfl gg (ZcC (Zcm rfl) (ZcC (Zcm (QaK _)) (ZcC (Zcm (QaK _)) (ZcC (Zcm (QbJ _)) (Zcn rfl))))) (Zcw rfl rfl gg (ZcC (Zcm rfl) (ZcC (Rn.x1 rfl rfl) (Zcn rfl))) (Zcw rfl rfl gg (Zcn (Qat (Qa1 _) rfl)) Zcv))))
  have e:i=pN p:=by omega
  subst e;refine ZcU c ?_;refine⟨(),?_⟩;refine⟨[(51,.blk 51 0),(52,.blk 52 0),(62,.blk 62 0),(97,.blk 97 0)],rfl,au0,?_,au16⟩;exact Zcw rfl rfl gg (Zcn rfl) (Zcw rfl rfl gg (ZcC (Zcm rfl) (ZcC (Zcm (QaK _)) (ZcC (Zcm (QaK _)) (ZcC (Zcm (QbJ _)) (Zcn rfl))))) (Zcw rfl rfl gg (ZcC (Zcm rfl) (ZcC (Rn.x1 rfl rfl) (Zcn rfl))) (Zcw rfl rfl gg (Zcn (Qa1 _)) Zcv)))
 rintro _ _;have hT0:flt0 (pT p (pN p))=pT0 p:=rfl;have hpt:=@QmY p (pN p);refine ZcT ?_;refine chc (del93F (l:=pT p (pN p)) (by omega) gg) ?_;rw[hT0];have htl0:(pT0 p).length<=3:=Zaw (ZaY _ _) (by omega);by_cases g:0<(pT0 p).length;·have t:pKs p=[(pT0 p,p.bd.tmod 8)]:=if_pos g;refine ZcU g ?_;refine⟨.inr trivial,_,rfl,?_⟩;refine Rn.agg (ZcC (Zcm rfl) (ZcC (Zcm (QaK _)) (ZcC (Zcm (QaK _)) (ZcC (Zcm (QbJ _)) (ZcC ?_ ZcB)))));show Rn 0 π0 _ (cos (pKs p)) _;rw[t];exact ZcE (b:=310) rfl rfl (ZcC (Zcm rfl) (ZcC (Zcm (QcM _)) (ZcC (Zcm rfl) ZcB)))
 have t:pKs p=[]:=if_neg g;refine ZcU g ?_;refine⟨.inr trivial,_,rfl,?_⟩;refine Rn.agg (ZcC (Zcm rfl) (ZcC (Zcm (QaK _)) (ZcC (Zcm (QaK _)) (ZcC (Zcm (QbJ _)) (ZcC ?_ ZcB)))));show Rn 0 π0 _ (cos (pKs p)) _;rw[t];exact Rn.nilK
end Go.AM.SU
namespace Go.AM.SN
open Go.Proofs Go.AM.SD Go.AM.SE Go.AM.SO
variable{K S X v:AV}{i:Int}{ks:List (List (Nat×Int)×Int)}{xs:List (Nat×List (Nat×Nat))}{cs ds:List AV}{s:List UInt8}{f:Nat}{x:Nat×List (Nat×Nat)}{w:World}
noncomputable section
def is0:AV->Bool|.int .i64 n=>decide (n=0)|_=>false
theorem Qvy:∀u,is0 u=true->u=.int .i64 0:=by intro u h;unfold is0 at h;grind
def nameR(s:List UInt8)(f:Nat)(X K:AV)(i:Int):Bool:=callR ansB noOrc SK.ft.get (exR ansB noOrc SK.ft.get 1000) (.c .pure) 197 [.str s,.fn f [] [.fptr [.any,X,K],.fptr [.int .i64 i]]] .e 64 (fun u _ _=>is0 u)
theorem QsT(h:nameR s f X K i=true):Ps 197 [.str s,.fn f [] [.fptr [.any,X,K],.fptr [.int .i64 i]]] (.int .i64 0):=Qb2 (t:=SK.ft) SK.ft_ok QdN (d:=1000) is0 Qvy h
theorem e0_1:nameR [101,48] 196 (.fsl [.str [101,48],.any] 1 2) .any 0=true:=by kernel_rfl
theorem e1_1:nameR [101,49] 196 (.fsl [.str [101,49],.any] 1 2) .any 0=true:=by kernel_rfl
theorem e0_2:nameR [101,48] 196 (.fsl [.str [101,48],.any,.str [101,49],.any] 2 2) .any 0=true:=by kernel_rfl
theorem e1_2a:nameR [101,49] 196 (.fsl [.str [101,48],.fsl [.any,.any] 1 2,.str [101,49],.any] 2 2) .any 1=true:=by kernel_rfl
theorem e1_2b:nameR [101,49] 196 (.fsl [.str [101,48],.fsl [.any,.any,.any,.any] 2 2,.str [101,49],.any] 2 2) .any 1=true:=by kernel_rfl
theorem e1_2c:nameR [101,49] 196 (.fsl [.str [101,48],.fsl [.any,.any,.any,.any,.any,.any] 3 2,.str [101,49],.any] 2 2) .any 1=true:=by kernel_rfl
theorem k_1:nameR [107] 199 .any (.fsl [.str [107],.any,.any] 1 3) 0=true:=by kernel_rfl
def Wk(x y:AV):Prop:=∀(ok:Okc)(c:Ctx ok)(w:World)(v:Value),VRel c w x v->VRel c w y v
def WkL:List AV->List AV->Prop|[],[]=>True|x::xs,y::a=>Wk x y/\WkL xs a|_,_=>False
theorem Wk.refl(x):Wk x x:=fun _ _ _ _ h=>h
theorem Wk.any{x}:Wk x .any:=fun _ _ _ _ _=>by simp[VRel]
theorem WkL.rels{ok}{c:Ctx ok}:∀{xs ys:List AV}{vs:List Value},WkL xs ys->VRels c w xs vs->VRels c w ys vs|[],[],_,_,a=>a|[],_::_,_,h,_=>h.elim|_::_,[],_,h,_=>h.elim|x::xs,y::ys,vs,h,a=>by simp only[VRels]at a⊢;obtain⟨v,b,rfl,h1,d⟩:=a;exact⟨v,b,rfl,h.1 _ c w v h1,WkL.rels h.2 d⟩
theorem WkL.pre{ok}{c:Ctx ok}:∀{xs ys:List AV}{vs:List Value},WkL xs ys->VPre c w xs vs->VPre c w ys vs|[],[],_,_,a=>a|[],_::_,_,h,_=>h.elim|_::_,[],_,h,_=>h.elim|x::xs,y::ys,vs,h,a=>by simp only[VPre]at a⊢;obtain⟨v,b,rfl,h1,d⟩:=a;exact⟨v,b,rfl,h.1 _ c w v h1,WkL.pre h.2 d⟩
theorem WkL.length:∀{xs ys:List AV},WkL xs ys->xs.length=ys.length|[],[],_=>rfl|[],_::_,h=>h.elim|_::_,[],h=>h.elim|x::xs,y::ys,h=>by simp[WkL.length h.2]
theorem Wk.fsl{len sz}(h:WkL cs ds):Wk (.fsl cs len sz) (.fsl ds len sz):=fun _ c w v b=>by
 simp only[VRel]at b⊢;have m:=h.length;rcases b with⟨h1,rfl,a⟩|⟨k,off,cap,C,e,g,h1,a,l,f,d,i⟩;·grind
 exact .inr ⟨k,off,cap,C,e,g,h1,a,by omega,f,d,h.pre i⟩
theorem Wk.fptr(h:WkL cs ds):Wk (.fptr cs) (.fptr ds):=fun _ c w v a=>by simp only[VRel]at a⊢;obtain⟨d,off,C,e,b,h1,i,f,g⟩:=a;exact⟨d,off,C,e,b,h1,i,f,h.pre g⟩
theorem Wk.fn{xs ys us vs}(h1:WkL xs ys)(g:WkL us vs):Wk (.fn f xs us) (.fn f ys vs):=fun _ c w v a=>by simp only[VRel]at a⊢;obtain⟨d,b,rfl,g1,g2⟩:=a;exact⟨d,b,rfl,h1.rels g1,g.rels g2⟩
theorem PSpec.wk{args bs}(a:WkL args bs)(b:noRefs args=true)(hp:Ps f bs v):Ps f args v:=SE.PSpec.weak (fun _ c w d _ h=>a.rels h) b hp
theorem nameW{X' K'}(h:nameR s f X' K' i=true)(b:Wk X X')(a:Wk K K')(c:noRefs [S,X,K]=true):Ps 197 [.str s,.fn f [] [.fptr [S,X,K],.fptr [.int .i64 i]]] (.int .i64 0):=by refine PSpec.wk (bs:=[.str s,.fn f [] [.fptr [.any,X',K'],.fptr [.int .i64 i]]]) ⟨Wk.refl _,Wk.fn trivial ⟨Wk.fptr ⟨Wk.any,b,a,trivial⟩,Wk.refl _,trivial⟩,trivial⟩ ?_ (QsT h);simp_all[noRefs,noRef]
theorem nameX{i:Nat}(c:xs[i]?=some x)(m:xs.length<=2)(s:(xs.map (·.1)).Pairwise (·<·))(k:∀x∈xs,x.1<2)(g:∀x∈xs,x.2≠[]/\x.2.length<=3)(d:noRefs [S,exs xs,K]=true):Ps 197 [.str [101,UInt8.ofNat (48+x.1)],.fn 196 [] [.fptr [S,exs xs,K],.fptr [.int .i64 (i:Int)]]] (.int .i64 0):=by match xs,m with
 |[],_=>simp at c|[(a,f)],_=>
  have hi:i=0:=by grind
  subst hi;simp at c;subst c;have l:=k (a,f) (by simp);have:a=0\/a=1:=by omega
  rcases this with rfl|rfl;·exact nameW e0_1 (Wk.fsl ⟨Wk.refl _,Wk.any,trivial⟩) Wk.any d
  ·exact nameW e1_1 (Wk.fsl ⟨Wk.refl _,Wk.any,trivial⟩) Wk.any d|[(a,f),(b,o)],_=>
  have l:=k (a,f) (by simp);have u:=k (b,o) (by simp);have n:a<b:=by simpa using s
  dsimp only at l u;obtain rfl:a=0:=by omega
  obtain rfl:b=1:=by omega
  have hi:i=0\/i=1:=by grind
  rcases hi with rfl|rfl;·simp at c;subst c;exact nameW e0_2 (Wk.fsl ⟨Wk.refl _,Wk.any,Wk.refl _,Wk.any,trivial⟩) Wk.any d
  ·simp at c;subst c;obtain⟨v,t⟩:=g (0,f) (by simp);match f,v,t with|[],h,_=>exact absurd rfl h|[p],_,_=>exact nameW e1_2a (Wk.fsl ⟨Wk.refl _,Wk.fsl ⟨Wk.any,Wk.any,trivial⟩,Wk.refl _,Wk.any,trivial⟩) Wk.any d|[p,q],_,_=>exact nameW e1_2b (Wk.fsl ⟨Wk.refl _,Wk.fsl ⟨Wk.any,Wk.any,Wk.any,Wk.any,trivial⟩,Wk.refl _,Wk.any,trivial⟩) Wk.any d|[p,q,r],_,_=>exact nameW e1_2c (Wk.fsl ⟨Wk.refl _,Wk.fsl ⟨Wk.any,Wk.any,Wk.any,Wk.any,Wk.any,Wk.any,trivial⟩,Wk.refl _,Wk.any,trivial⟩) Wk.any d
theorem nameK{x}(b:ks=[x])(a:noRefs [S,X,cos ks]=true):Ps 197 [.str [107],.fn 199 [] [.fptr [S,X,cos ks],.fptr [.int .i64 0]]] (.int .i64 0):=by subst b;exact nameW k_1 Wk.any (Wk.fsl ⟨Wk.refl _,Wk.any,Wk.any,trivial⟩) a
end
end Go.AM.SN
namespace Go.AM.SO
open Go.Proofs Go.AM.SD Go.AM.SE
theorem great190(n)(h1:-65536<=n)(a:n<=65536):Ps 253 [.int .i64 n] (.bool false):=by
 refine Zcp 64 (Ok s253) rfl rfl rfl ?_;have g1:¬n< -65536:=by omega
 have g2:¬65536<n:=by omega
 unfold s253;refine ZcS (Zc1 g1 g2) ?_;exact⟨.inr trivial,_,rfl,rfl⟩
abbrev cdC(S:List Nat)(xs:List (Nat×List (Nat×Nat)))(ks:List (List (Nat×Int)×Int)):List AV:=[sliN S,exs xs,cos ks]
abbrev cdV(S:List Nat)(xs:List (Nat×List (Nat×Nat)))(ks:List (List (Nat×Int)×Int)):AV:=.agg (cdC S xs ks)
theorem Qca{S}{xs}{ks}:noRefs (cdC S xs ks)=true:=by rw[cdC,noRefs,noRefs,noRefs,Qab,SU.QbJ,SU.Qld];rfl
theorem QjV{l:List (Nat×Nat)}{i}{x}(h:l[i]?=some x):(l.flatMap loC).drop (i*2)=.int .i64 (x.1:Int)::.int .i64 (x.2:Int)::(l.drop (i+1)).flatMap loC:=Qbj (f:=loC) (k:=2) (fun _=>rfl) h
theorem pw_at{l:List Nat}(h:l.Pairwise (·<·)){i}{x y}(b:l[i]?=some x)(a:l[i+1]?=some y):x<y:=by
 have hi:i+1<l.length:=by
  rcases ZbD (i+1) l.length with h|h;·exact h
  rw[Zax h]at a;cases a
 rw[Zak (by omega)]at b;rw[Zak hi]at a;cases b;cases a;exact Zbd.1 h i (i+1) (by omega) hi (Nat.lt_succ_self _)
theorem _root_.Go.AM.au20{p:Prop}(h:p:=by repeat(first|exact Zct|(refine Zcu ?_ ?_;·(first|exact Zcl|exact Rn.x1 rfl rfl|exact Rn.x2 rfl rfl|exact Rn.x3 rfl rfl|exact Rn.x4 rfl rfl|exact Rn.x5 rfl|exact Rn.x6 rfl|exact Rn.x7 rfl|(refine ZcF ?_ ?_;(first|rfl|(rw[ZaE];rfl));(first|rfl|(simp only[noRef,noRefs,SD.Qaa,SD.Qab,SD.Qaf,SD.Qag,SD.Qah,SD.Qai,SD.Qaj,SD.Qal,SD.Qan,SD.Qar,SE.QaA,SE.QaP,SE.Qak,SE.Qao,SE.Qap,SE.Qaq,SO.QaC,SO.Qau,SO.Qay,SU.Qa1,SU.Qa9,SU.QaS,SU.QaW,SU.QbA,Zad,Zae,Zag];done)))|(refine Rn.fn ?_ ?_<;>(repeat'(first|exact ZcB|refine ZcC ?_ ?_|exact Zcm rfl|exact Rn.x6 rfl|exact Rn.x2 rfl rfl|exact Rn.x5 rfl|exact Rn.x1 rfl rfl))))))):p:=h
theorem excl103(S)(xs)(ks)(x)(hS:S.length<=8)(B:∀s∈S,s<=4096)(R:x.2.length<=1000)(t:x.2≠[])(hp:(x.2.map (·.1)).Pairwise (·<·))(I:∀l∈x.2,∃n,S[l.1]?=some n/\l.2<n):Ps 198 [cdV S xs ks,.agg (exC x)] (.int .i64 0):=by
 obtain⟨u,l⟩:=x;dsimp only at R t hp I;have hex:exC (u,l)=[.str [101,UInt8.ofNat (48+u)],los l]:=rfl;rw[hex];have a:=@Qca S xs ks;have b:noRefs [.str [101,UInt8.ofNat (48+u)],los l]=true:=by rw[noRefs,noRefs,SU.Qcr];rfl
 refine Zcp 64 (Ok s198) rfl (by rw[noRefs,noRefs,noRef,noRef,a,b];rfl) rfl ?_;have v:¬(l.length:Int)=0:=by have:=List.length_pos_iff.2 t;omega
 have L:=SU.QgW l;unfold s198;refine ZcS v ?_;refine QaE 100 (fun i:Nat=>[(2,.ptr 50 0 0),(3,.ptr 51 0 0),(12,los l),(13,.int .i64 l.length),(14,.int .i64 i)]) (fun _=>[(50,.cells 0 (cdC S xs ks)),(51,.cells 0 [.str [101,UInt8.ofNat (48+u)],los l])]) (fun i=>i<=l.length) (fun i=>l.length-i) 0 ⟨[(50,.blk 64 0),(51,.blk 65 0)],rfl,au0,?_,au20⟩ (Zah _) ?_;·exact Zcw rfl rfl gg (Zcn a) (Zcw rfl rfl gg (Zcn b) Zcv)
 rintro i hi;by_cases d:i<l.length
 ·obtain⟨⟨c,s⟩,g⟩:=Qam d;obtain⟨n,m,C⟩:=I _ (Zac g);dsimp only at m C;have o:c<S.length:=by
   rcases ZbD c S.length with h|h;·exact h
   rw[Zax h]at m;cases m
  have N:=B n (Zac m);have k:=QjV g;have p:2<=((l.flatMap loC).drop (i*2)).length:=by rw[k];simp
  have h1:¬(c:Int)<0:=by omega
  have G:¬(S.length:Int)<=(c:Int):=by omega
  have H:¬(s:Int)<0:=by omega
  have F:¬(n:Int)<=(s:Int):=by omega
  cases i with|zero=>
   have y:¬(0:Int)<((0:Nat):Int):=by omega
   refine ZcS (Zc9 d k p y h1 G H F (QaJ m) o) ?_;refine⟨1,by omega,by omega,?_⟩;refine⟨[(50,.blk 50 0),(51,.blk 51 0)],rfl,au0,?_,au20⟩;exact Zcw rfl rfl gg (Zcn a) (Zcw rfl rfl gg (Zcn b) Zcv)|succ j=>
   obtain⟨⟨E,T⟩,f⟩:=Qam (l:=l) (i:=j) (by omega);have q:=QjV f;have Q:E<c:=pw_at hp (i:=j) (by rw[ZaA,f];rfl) (by rw[ZaA,g];rfl);have y:(0:Int)<((j+1:Nat):Int):=by omega
   have O:¬(c:Int)<=(E:Int):=by omega
   have K:((j+1:Nat):Int)-1=(j:Int):=by omega
   have P:j<l.length:=by omega
   have hle:((j+1:Nat):Int)<(l.length:Int):=by omega
   have w:((j+1:Nat):Int).toNat=j+1:=by omega
   have z:0<=((j+1:Nat):Int):=by omega
   generalize M:((j+1:Nat):Int)=J at*;simp(disch:=first|omega|(simp only[lenW]<;>omega))only[d,hle,w,z,k,q,p,y,h1,G,H,F,O,K,P,QaJ m,o,wV,simprocAttr];refine⟨j+2,by omega,by omega,?_⟩;have A:J+1=((j+2:Nat):Int):=by omega
   rw[A];exact buSfF
 refine ZcS d ?_;exact⟨.inr trivial,_,rfl,rfl⟩
theorem cons105(S)(xs)(ks)(x)(hS:S.length<=8)(P:x.1.length<=1000)(m:x.1≠[])(hp:(x.1.map (·.1)).Pairwise (·<·))(F:∀l∈x.1,l.1<S.length/\l.2≠0/\-65536<=l.2/\l.2<=65536)(E:-65536<=x.2/\x.2<=65536):Ps 200 [cdV S xs ks,.agg (coC x)] (.int .i64 0):=by
 obtain⟨l,o⟩:=x;dsimp only at P m hp F E;have hex:coC (l,o)=[.str [107],tes l,.int .i64 o]:=rfl;rw[hex];have a:=@Qca S xs ks;have b:noRefs [.str [107],tes l,.int .i64 o]=true:=by rw[noRefs,noRefs,SU.QcM];rfl
 refine Zcp 64 (Ok s200) rfl (by rw[noRefs,noRefs,noRef,noRef,a,b];rfl) rfl ?_;have A:¬(l.length:Int)=0:=by have:=List.length_pos_iff.2 m;omega
 have L:=SU.Qdr l;have v:=great190 o E.1 E.2;unfold s200;refine ZcS A ?_;refine QaE 100 (fun i:Nat=>[(2,.ptr 50 0 0),(3,.ptr 51 0 0),(12,tes l),(13,.int .i64 l.length),(14,.int .i64 i)]) (fun _=>[(50,.cells 0 (cdC S xs ks)),(51,.cells 0 [.str [107],tes l,.int .i64 o])]) (fun i=>i<=l.length) (fun i=>l.length-i) 0 ⟨[(50,.blk 64 0),(51,.blk 65 0)],rfl,au0,?_,au20⟩ (Zah _) ?_;·exact Zcw rfl rfl gg (Zcn a) (Zcw rfl rfl gg (Zcn b) Zcv)
 rintro i hi;by_cases d:i<l.length
 ·obtain⟨⟨c,s⟩,h⟩:=Qam d;obtain⟨B,g,t,p⟩:=F _ (Zac h);dsimp only at B g t p;have k:=SU.QdS h;have q:2<=((l.flatMap teC).drop (i*2)).length:=by rw[k];simp
  have h1:¬(c:Int)<0:=by omega
  have H:¬(S.length:Int)<=(c:Int):=by omega
  have u:=great190 s t p;cases i with|zero=>
   have w:¬(0:Int)<((0:Nat):Int):=by omega
   refine ZcS (Zc6 d k q w h1 H g) ?_;refine cp u ?_;refine ZcR ?_;refine⟨1,by omega,by omega,?_⟩;refine⟨[(50,.blk 50 0),(51,.blk 51 0)],rfl,au0,?_,au20⟩;exact Zcw rfl rfl gg (Zcn a) (Zcw rfl rfl gg (Zcn b) Zcv)|succ j=>
   obtain⟨⟨G,Q⟩,f⟩:=Qam (l:=l) (i:=j) (by omega);have n:=SU.QdS f;have K:G<c:=pw_at hp (i:=j) (by rw[ZaA,f];rfl) (by rw[ZaA,h];rfl);have w:(0:Int)<((j+1:Nat):Int):=by omega
   have I:¬(c:Int)<=(G:Int):=by omega
   have M:((j+1:Nat):Int)-1=(j:Int):=by omega
   have N:j<l.length:=by omega
   have hle:((j+1:Nat):Int)<(l.length:Int):=by omega
   have C:((j+1:Nat):Int).toNat=j+1:=by omega
   have y:0<=((j+1:Nat):Int):=by omega
   generalize O:((j+1:Nat):Int)=J at*;refine ZcS (Zdd d hle C y k n q w h1 H g I M N) ?_;refine cp u ?_;refine ZcR ?_;refine⟨j+2,by omega,by omega,?_⟩;have z:J+1=((j+2:Nat):Int):=by omega
   rw[z];exact buSfF
 refine ZcS d ?_;refine cp v ?_;refine ZcR ?_;exact⟨.inr trivial,_,rfl,rfl⟩
end Go.AM.SO
namespace Go.AM.SQ
open Go.Proofs
set_option maxHeartbeats 4000000
noncomputable section
def cf:YA.Cf:={most:=.pure,always:=[197].map fun k=>(k,.heap)}
def s156:SFn:=by
 refine(?f:YA.Yt Tryz.prog cf 156 [[0,2],[15,16,17],[1,18],[2,18,19],[],[23,24,25],[4,26,27,28],[1,20,21,22,30,29,41,40,39,38,31],[2,31,32],[20,21,22,30,29,41,40,39,38,33,34,35,36,37],[1,42],[2,42,43],[],[47,48,49,50],[5,51],[7,52,53,54,55],[56],[1,44,45,46,6,8,57,58],[2,6,8,57,59,60,61],[62],[1,44,45,46,9,63,64],[2,9,63,65],[44,45,46,66],[],[70,71,72,73],[10,74],[12,75,76,77,78],[79],[1,67,68,69,11,13,80,81],[2,11,13,80,82,83,84],[85],[1,67,68,69,14,86,87],[2,14,86,88],[1,67,68,69]]) ?s ?h;case h=>exact YA.rr
 exact fun s _=>s
end
end Go.AM.SQ
namespace Go.AM.SO
open Go.Proofs Go.AM.SD Go.AM.SE
variable{c:Cel}{cap:List AV}{K i:Nat}{x:Nat×List (Nat×Nat)}{α:Type}{l:List α}{q:α->Bool}{f:α->List AV}
def szs(c:Cel):List Nat:=c.cs.map (·.2.n)
theorem WfCel.comp(h:WfCel c)(b:x∈c.xs):∀l∈x.2,∃n,(szs c)[l.1]?=some n/\l.2<n:=fun l a=>by obtain⟨y,h1,d⟩:=(h.xl x b).2.2 l a;exact⟨y.2.n,by unfold szs;rw[ZaA,h1];rfl,d⟩
theorem WfCel.xlen(h:WfCel c)(a:x∈c.xs):x.2.length<=3:=by
 have h1:=QaV c.cs.length (x.2.map (·.1)) (by rw[ZaM];exact(h.xl x a).2.1.imp fun h=>by omega) (fun y d=>by
  obtain⟨l,b,rfl⟩:=Zap.1 d;obtain⟨z,h1,_⟩:=(h.xl x a).2.2 l b;rcases ZbD l.1 c.cs.length with h|h;·exact h
  rw[Zax h]at h1;cases h1);rw[Zav]at h1;exact Zaw h1 h.c3
theorem WfCel.klen(h:WfCel c){x}(a:x∈c.ks):x.1.length<=3:=by have h1:=QaV c.cs.length (x.1.map (·.1)) (by rw[ZaM];exact(h.kl x a).2.1.imp fun h=>by omega) (fun y d=>by obtain⟨l,b,rfl⟩:=Zap.1 d;exact((h.kl x a).2.2.1 l b).1);rw[Zav]at h1;exact Zaw h1 h.c3
theorem WfCel.slen(h:WfCel c):(szs c).length=c.cs.length:=by simp[szs]
theorem WfCel.sz(h:WfCel c):∀s∈szs c,1<=s/\s<=3:=fun s b=>by obtain⟨x,a,rfl⟩:=Zap.1 b;exact⟨(h.ca x a).pos,(h.ca x a).n3⟩
theorem QjW{l:List (Nat×List (Nat×Nat))}(h:l[i]?=some x):(l.flatMap exC).drop (i*2)=.str [101,UInt8.ofNat (48+x.1)]::los x.2::(l.drop (i+1)).flatMap exC:=Qbj (f:=exC) (k:=2) (fun _=>rfl) h
theorem QjX{l:List (List (Nat×Int)×Int)}{x}(h:l[i]?=some x):(l.flatMap coC).drop (i*3)=.str [107]::tes x.1::.int .i64 x.2::(l.drop (i+1)).flatMap coC:=Qbj (f:=coC) (k:=3) (fun _=>rfl) h
theorem QgX(l:List (List (Nat×Int)×Int)):(l.flatMap coC).length=l.length*3:=Qbf (k:=3) (fun _=>rfl) l
theorem conds32(c)(h:WfCel c):Ps 156 [cdV (szs c) c.xs c.ks] (.int .i64 0):=by
 have a:=@Qca (szs c) c.xs c.ks;refine Zcp 64 (Ok SQ.s156) rfl (by rw[noRefs,noRef,a];rfl) rfl ?_;have C:=h.slen;have F:=h.c3;have t:=h.x2;have w:=h.k1;have g1:¬(8:Int)<((szs c).length:Int):=by omega
 have g2:¬(32:Int)<(c.xs.length:Int):=by omega
 have g3:¬(32:Int)<(c.ks.length:Int):=by omega
 have z:∀x∈c.xs,x.2≠[]/\x.2.length<=3:=fun x g=>⟨(h.xl x g).1,h.xlen g⟩;unfold SQ.s156;refine Zc0 g1 ?_;refine Qas 100 (fun i:Nat=>[(1,.ptr 50 0 0),(20,sliN (szs c)),(21,.int .i64 (szs c).length),(22,.int .i64 i)]) (fun _=>[(50,.cells 0 (cdC (szs c) c.xs c.ks))]) (fun i=>i<=(szs c).length) (fun i=>(szs c).length-i) 0 0 140 (fun _:Unit=>[(1,.ptr 50 0 0)]) (fun _=>[(50,.cells 0 (cdC (szs c) c.xs c.ks))]) (fun _=>True) ⟨[(50,.blk 64 0)],rfl,au0,?_,au20⟩ (Zah _) ?_ ?_;·exact Zcw rfl rfl gg (Zcn a) Zcv
 ·rintro i hi;by_cases b:i<(szs c).length
  ·obtain⟨s,o⟩:=Qam b;obtain⟨I,A⟩:=h.sz s (Zac o);have q1:¬(s:Int)<1:=by omega
   have q2:¬(4096:Int)<(s:Int):=by omega
   refine Zc0 (Zc3 b (QaJ o) @q1 @q2) ?_;exact b32nU
  exact bMAQB
 rintro _ _;refine Zc0 (Zc1 g2 g3) ?_;refine Qas 200 (fun i:Nat=>[(1,.ptr 50 0 0),(44,exs c.xs),(45,.int .i64 c.xs.length),(46,.int .i64 i)]) (fun _=>[(50,.cells 0 (cdC (szs c) c.xs c.ks))]) (fun i=>i<=c.xs.length) (fun i=>c.xs.length-i) 0 2 240 (fun _:Unit=>[(1,.ptr 50 0 0)]) (fun _=>[(50,.cells 0 (cdC (szs c) c.xs c.ks))]) (fun _=>True) ⟨[(50,.blk 50 0)],rfl,au0,?_,au20⟩ (Zah _) ?_ ?_;·exact Zcw rfl rfl gg (Zcn a) Zcv
 ·rintro i hi;by_cases b:i<c.xs.length
  ·obtain⟨x,g⟩:=Qam b;have d:=Zac g;have f:=QjW g;have k:2<=((c.xs.flatMap exC).drop (i*2)).length:=by rw[f];simp
   have p:=SN.nameX g t h.xn.1 h.xn.2 z a;have n:=excl103 (szs c) c.xs c.ks x (by omega) (fun s o=>by have:=h.sz s o;omega) (by have:=h.xlen d;omega) (h.xl x d).1 (h.xl x d).2.1 (h.comp d);have hex:exC x=[.str [101,UInt8.ofNat (48+x.1)],los x.2]:=rfl;rw[hex]at n;refine Zc0 (Zc2 b f k) ?_;refine SU.chc (ZcI (ZcL (Zcq _) (ZcL (FrzTo.fn ZcK (ZcL (ZcH (g:=0) (cs:=cdC (szs c) c.xs c.ks) gg (Zcr _)) (ZcL (ZcH (g:=0) (cs:=[.int .i64 (i:Int)]) gg (Zcr _)) ZcK))) ZcK)) p rfl) ?_;refine ZcZ ?_;refine cp n ?_;refine ZcZ ?_;exact b32nU
  exact bMAQB
 rintro _ _;refine ZcZ ?_;refine QaE 300 (fun i:Nat=>[(1,.ptr 50 0 0),(67,cos c.ks),(68,.int .i64 c.ks.length),(69,.int .i64 i)]) (fun _=>[(50,.cells 0 (cdC (szs c) c.xs c.ks))]) (fun i=>i<=c.ks.length) (fun i=>c.ks.length-i) 0 ⟨[(50,.blk 50 0)],rfl,au0,?_,au20⟩ (Zah _) ?_;·exact Zcw rfl rfl gg (Zcn a) Zcv
 rintro i hi;by_cases b:i<c.ks.length
 ·obtain⟨x,g⟩:=Qam b;have q:i=0:=by omega
  subst q;have d:=Zac g;have f:=QjX g;rw[Nat.zero_mul]at f;have k:3<=(c.ks.flatMap coC).length:=by rw[QgX];omega
  have v:c.ks=[x]:=by match hk:c.ks,g,w with|[y],g,_=>simp at g;rw[g]
  have p:=SN.nameK (S:=sliN (szs c)) (X:=exs c.xs) v a;obtain⟨G,H,B,L,J⟩:=h.kl x d;have n:=cons105 (szs c) c.xs c.ks x (by omega) (by have:=h.klen d;omega) G H (fun l E=>by obtain⟨q1,q2,M,K⟩:=B l E;exact⟨by omega,q2,by omega,by omega⟩) ⟨by omega,by omega⟩;have hex:coC x=[.str [107],tes x.1,.int .i64 x.2]:=rfl;rw[hex]at n;have m:(0:Int)<(c.ks.length:Int):=by omega
  rw[Za7]at f;have u:List.take 3 (c.ks.flatMap coC)=[.str [107],tes x.1,.int .i64 x.2]:=by rw[f];rfl
  refine Zc0 (Zc3 b m u k) ?_;refine SU.chc (ZcI (ZcL (Zcq _) (ZcL (FrzTo.fn ZcK (ZcL (ZcH (g:=0) (cs:=cdC (szs c) c.xs c.ks) gg (Zcr _)) (ZcL (ZcH (g:=0) (cs:=[.int .i64 0]) gg (Zcr _)) ZcK))) ZcK)) p rfl) ?_;refine ZcZ ?_;refine cp n ?_;refine ZcZ ?_;refine⟨1,by omega,by omega,?_⟩;refine⟨[(50,.blk 50 0)],rfl,au0,?_,au20⟩;exact Zcw rfl rfl gg (Zcn a) Zcv
 refine Zc0 b ?_;exact⟨.inr trivial,_,rfl,rfl⟩
theorem _root_.Go.AM.ZcY{p q A:Prop}(a:A)(k:q)(h:A->p=q:=by intro a;conv=>lhs;simp(disch:=first|omega|exact PairsOK.mk rfl|(simp only[lenW]<;>omega))only[a,Zao,wW,wV,simprocAttr]):p:=h a▸k
theorem Qc5(hf:∀x,(f x).all AV.one=true):∀l:List α,(l.flatMap f).all AV.one=true|[]=>rfl|x::l=>by rw[ZaD,Zb2,hf,Qc5 hf l];rfl
theorem clone148(l)(f:l.length<=1000)(c:l≠[]):Ps 201 [los l] (los l):=by
 refine Zco 100 (Ok s201) rfl (by rw[noRefs,SU.Qcr];rfl) (SU.Qcr _) ?_;have d:aEqN false (los l)=.ret (.bool false):=by match l,c with|x::l,_=>rfl
 have a:(l.flatMap loC).all AV.one=true:=Qc5 (fun _=>rfl) l;have b:=SU.QgW l;unfold s201;refine Zc0 (Zc2 d a b) ?_;exact⟨.inr trivial,_,rfl,ZcE rfl b (Zcn (SU.QbA _))⟩
theorem clone149(l)(f:l.length<=1000)(c:l≠[]):Ps 202 [tes l] (tes l):=by
 refine Zco 100 (Ok s202) rfl (by rw[noRefs,SU.QcM];rfl) (SU.QcM _) ?_;have d:aEqN false (tes l)=.ret (.bool false):=by match l,c with|x::l,_=>rfl
 have a:(l.flatMap teC).all AV.one=true:=Qc5 (fun _=>rfl) l;have b:=SU.Qdr l;unfold s202;refine Zc0 (Zc2 d a b) ?_;exact⟨.inr trivial,_,rfl,ZcE rfl b (Zcn (SU.Qa1 _))⟩
theorem take_succ'{x}(h:l[i]?=some x):l.take (i+1)=l.take i++[x]:=by rw[ZaS,h];rfl
theorem Qvz:List.flatMap exC [x]=[.str [101,UInt8.ofNat (48+x.1)],los x.2]:=rfl
theorem QvA{x}:List.flatMap coC [x]=[.str [107],tes x.1,.int .i64 x.2]:=rfl
theorem conds85(c)(h:WfCel c):Ps 157 [celV c] (cdV (szs c) c.xs c.ks):=by
 have g:noRefs [evsV c.ev,its 99 c.cs,its 114 c.rs,exs c.xs,cos c.ks]=true:=by have:=SU.QaX c;rwa[celV,noRef]at this
 refine Zco 64 (Ok s157) rfl (by rw[noRefs,SU.QaX];rfl) (by rw[noRef];exact Qca) ?_;have w:=h.c3;have y:=h.x2;have v:=h.k1;have u:=@SU.Qec 99 c.cs;have t:=SU.QeS c.xs;have z:=QgX c.ks;unfold s157;refine ZcZ ?_;refine Qas 100 (fun i:Nat=>[(1,.ptr 50 0 0),(2,.ptr 51 0 0),(3,.ptr 52 0 0),(12,its 99 c.cs),(13,.int .i64 c.cs.length),(14,.int .i64 i)]) (fun i=>[(50,.cells 0 [evsV c.ev,its 99 c.cs,its 114 c.rs,exs c.xs,cos c.ks]),(51,.cells 0 [.nilsl,.nilsl,.nilsl]),(52,.cells 0 [.sl 76 0 0 (szs c|>.take i).length 1,.nilsl,.nilsl]),(76,.cells 0 (ints (nz ((szs c).take i))))]) (fun i=>i<=c.cs.length) (fun i=>c.cs.length-i) 0 0 160 (fun _:Unit=>[(1,.ptr 50 0 0),(2,.ptr 51 0 0),(3,.ptr 52 0 0)]) (fun _=>[(50,.cells 0 [evsV c.ev,its 99 c.cs,its 114 c.rs,exs c.xs,cos c.ks]),(51,.cells 0 [.nilsl,.nilsl,.nilsl]),(52,.cells 0 [sliN (szs c),.nilsl,.nilsl])]) (fun _=>True) ⟨[(50,.blk 64 0),(51,.blk 65 0),(52,.blk 67 0),(76,.nil)],rfl,au0,?_,au20⟩ (Zah _) ?_ ?_;·exact Zcw rfl rfl gg (Zcn g) (Zcw rfl rfl gg (Zcn rfl) (Zcw rfl rfl gg (ZcC (Rn.x4 rfl rfl) (Zcn rfl)) (Zcx rfl rfl Zcv)))
 ·rintro i hi;by_cases a:i<c.cs.length
  ·obtain⟨x,n⟩:=Qam a;have d:=SU.QdT (ch:=99) n;have m:5<=((c.cs.flatMap (itC 99)).drop (i*5)).length:=by rw[d];simp
   have q:(szs c)[i]?=some x.2.n:=by unfold szs;rw[ZaA,n];rfl
   have f:=take_succ' q;have b:((szs c).take i).length=i:=by rw[Zar,h.slen];omega
   have s:=@SU.Qek [99,UInt8.ofNat (48+x.1)] x.2;refine Zc0 (Zc3 a d m b) ?_;refine⟨i+1,by omega,by omega,?_⟩;rw[f,Zaf,QaM,QaB,b];refine⟨[(50,.blk 50 0),(51,.blk 51 0),(52,.blk 52 0),(76,.blk 76 1)],rfl,au0,?_,au20⟩;exact Zcw rfl rfl gg (Zcn g) (Zcw rfl rfl gg (Zcn rfl) (Zcw rfl rfl gg (ZcC (Rn.x1 rfl rfl) (Zcn rfl)) (Zcw rfl rfl gg (Zcn (SU.Qat (Qaa _) rfl)) Zcv)))
  have e:i=c.cs.length:=by omega
  subst e;have p:(szs c).take c.cs.length=szs c:=by rw[<-h.slen,Zao]
  refine Zc0 (Zc1 a p) ?_;refine⟨(),?_⟩;refine⟨[(50,.blk 50 0),(51,.blk 51 0),(52,.blk 52 0)],rfl,au0,?_,au20⟩;exact Zcw rfl rfl gg (Zcn g) (Zcw rfl rfl gg (Zcn rfl) (Zcw rfl rfl gg (ZcC (ZcD rfl rfl rfl rfl (by simp[ints]) (Zcn (Qaa _))) (Zcn rfl)) Zcv))
 rintro _ _;refine ZcZ ?_;refine Qas 200 (fun i:Nat=>[(1,.ptr 50 0 0),(2,.ptr 51 0 0),(3,.ptr 52 0 0),(28,exs c.xs),(29,.int .i64 c.xs.length),(30,.int .i64 i)]) (fun i=>[(50,.cells 0 [evsV c.ev,its 99 c.cs,its 114 c.rs,exs c.xs,cos c.ks]),(51,.cells 0 [.nilsl,.nilsl,.nilsl]),(52,.cells 0 [sliN (szs c),.sl 77 0 0 (c.xs.take i).length 2,.nilsl]),(77,.cells 0 ((c.xs.take i).flatMap exC))]) (fun i=>i<=c.xs.length) (fun i=>c.xs.length-i) 0 2 260 (fun _:Unit=>[(1,.ptr 50 0 0),(2,.ptr 51 0 0),(3,.ptr 52 0 0)]) (fun _=>[(50,.cells 0 [evsV c.ev,its 99 c.cs,its 114 c.rs,exs c.xs,cos c.ks]),(51,.cells 0 [.nilsl,.nilsl,.nilsl]),(52,.cells 0 [sliN (szs c),exs c.xs,.nilsl])]) (fun _=>True) ⟨[(50,.blk 50 0),(51,.blk 51 0),(52,.blk 52 0),(77,.nil)],rfl,au0,?_,au20⟩ (Zah _) ?_ ?_;·exact Zcw rfl rfl gg (Zcn g) (Zcw rfl rfl gg (Zcn rfl) (Zcw rfl rfl gg (ZcC (Zcm (Qab _)) (ZcC (Rn.x4 rfl rfl) (Zcn rfl))) (Zcx rfl rfl Zcv)))
 ·rintro i hi;by_cases a:i<c.xs.length
  ·obtain⟨x,n⟩:=Qam a;have l:=Zac n;have d:=QjW n;have m:2<=((c.xs.flatMap exC).drop (i*2)).length:=by rw[d];simp
   have f:=take_succ' n;have b:(c.xs.take i).length=i:=by rw[Zar];omega
   have o:=clone148 x.2 (by have:=h.xlen l;omega) (h.xl x l).1;have k:=SU.QeS (c.xs.take i);rw[b]at k;refine Zc0 (Zc3 a d m b) ?_;refine cp o ?_;refine Zc0 k ?_;refine⟨i+1,by omega,by omega,?_⟩;rw[f,Zaf,Zan,b,Qvz];refine⟨[(50,.blk 50 0),(51,.blk 51 0),(52,.blk 52 0),(77,.blk 77 1)],rfl,au0,?_,au20⟩;exact Zcw rfl rfl gg (Zcn g) (Zcw rfl rfl gg (Zcn rfl) (Zcw rfl rfl gg (ZcC (Zcm (Qab _)) (ZcC (Rn.x1 rfl rfl) (Zcn rfl))) (Zcw rfl rfl gg (Zcn (SU.Qat (SU.QaS _) (by rw[noRefs,noRefs,SU.Qcr];rfl))) Zcv)))
  have e:i=c.xs.length:=by omega
  subst e;refine ZcY a ?_;refine⟨(),?_⟩;refine⟨[(50,.blk 50 0),(51,.blk 51 0),(52,.blk 52 0)],rfl,au0,?_,au20⟩;exact Zcw rfl rfl gg (Zcn g) (Zcw rfl rfl gg (Zcn rfl) (Zcw rfl rfl gg (ZcC (Zcm (Qab _)) (ZcC (ZcD rfl rfl rfl rfl (SU.QeS _) (Zcn (SU.QaS _))) (Zcn rfl))) Zcv))
 rintro _ _;refine ZcZ ?_;refine Qas 300 (fun i:Nat=>[(2,.ptr 51 0 0),(3,.ptr 52 0 0),(47,cos c.ks),(48,.int .i64 c.ks.length),(49,.int .i64 i)]) (fun i=>[(51,.cells 0 [.nilsl,.nilsl,.nilsl]),(52,.cells 0 [sliN (szs c),exs c.xs,.sl 78 0 0 (c.ks.take i).length 3]),(78,.cells 0 ((c.ks.take i).flatMap coC))]) (fun i=>i<=c.ks.length) (fun i=>c.ks.length-i) 0 4 360 (fun _:Unit=>[(2,.ptr 51 0 0),(3,.ptr 52 0 0)]) (fun _=>[(51,.cells 0 [.nilsl,.nilsl,.nilsl]),(52,.cells 0 [sliN (szs c),exs c.xs,cos c.ks])]) (fun _=>True) ⟨[(51,.blk 51 0),(52,.blk 52 0),(78,.nil)],rfl,au0,?_,au20⟩ (Zah _) ?_ ?_;·exact Zcw rfl rfl gg (Zcn rfl) (Zcw rfl rfl gg (ZcC (Zcm (Qab _)) (ZcC (Zcm (SU.QbJ _)) (ZcC (Rn.x4 rfl rfl) ZcB))) (Zcx rfl rfl Zcv))
 ·rintro i hi;by_cases a:i<c.ks.length
  ·obtain⟨x,n⟩:=Qam a;have l:=Zac n;have d:=QjX n;have m:3<=((c.ks.flatMap coC).drop (i*3)).length:=by rw[d];simp
   have f:=take_succ' n;have b:(c.ks.take i).length=i:=by rw[Zar];omega
   have o:=clone149 x.1 (by have:=h.klen l;omega) (h.kl x l).1;have k:=QgX (c.ks.take i);rw[b]at k;refine Zc0 (Zc3 a d m b) ?_;refine cp o ?_;refine Zc0 k ?_;refine⟨i+1,by omega,by omega,?_⟩;rw[f,Zaf,Zan,b,QvA];refine⟨[(51,.blk 51 0),(52,.blk 52 0),(78,.blk 78 1)],rfl,au0,?_,au20⟩;exact Zcw rfl rfl gg (Zcn rfl) (Zcw rfl rfl gg (ZcC (Zcm (Qab _)) (ZcC (Zcm (SU.QbJ _)) (ZcC (Rn.x1 rfl rfl) ZcB))) (Zcw rfl rfl gg (Zcn (SU.Qat (SU.Qa9 _) (by rw[noRefs,noRefs,SU.QcM];rfl))) Zcv))
  have e:i=c.ks.length:=by omega
  subst e;refine ZcY a ?_;refine⟨(),?_⟩;refine⟨[(51,.blk 51 0),(52,.blk 52 0)],rfl,au0,?_,au20⟩;exact Zcw rfl rfl gg (Zcn rfl) (Zcw rfl rfl gg (ZcC (Zcm (Qab _)) (ZcC (Zcm (SU.QbJ _)) (ZcC (ZcD rfl rfl rfl rfl (QgX _) (Zcn (SU.Qa9 _))) ZcB))) Zcv)
 rintro _ _;refine ZcZ ?_;refine⟨.inr trivial,_,rfl,?_⟩;exact Zcm (by rw[noRef];exact Qca)
def idxQ{α:Type}(q:α->Bool)(l:List α):Int:=if l.any q then(l.findIdx q:Int)else-1
theorem Qed(h:∀x∈l,q x=false):idxQ q l=-1:=by unfold idxQ;rw[if_neg];rw[Zba];rintro⟨x,b,a⟩;rw[h x b]at a;cases a
theorem Qft{x}(a:l[i]?=some x)(c:q x=true)(d:∀(j:Nat)y,j<i->l[j]?=some y->q y=false):idxQ q l=i:=by
 have b:i<l.length:=by
  rcases ZbD i l.length with h|h;·exact h
  rw[Zax h]at a;cases a
 have h1:l.any q=true:=Zba.2 ⟨x,Zac a,c⟩;have g:l.findIdx q=i:=by rw[Zce b];refine⟨by rw[Zak b]at a;cases a;exact c,fun j f=>d j l[j] f (Zak (by omega))⟩
 unfold idxQ;rw[if_pos h1,g]
theorem Qo0{α}{q}{l:List α}:decide (0<=idxQ q l)=l.any q:=by
 unfold idxQ;cases h:l.any q;·simp
 simp
theorem QbK(h:noRefs cap=true):noRef (.fn K [] cap)=true:=by simp only[noRef,noRefs,h];rfl
theorem index110(q:Nat->Bool)(l:List Nat)(s:l.length<=1000000)(hc:noRefs cap=true)(hk:∀x∈l,Ps K (.int .i64 (x:Int)::cap) (.bool (q x))):Ps 151 [sliN l,.fn K [] cap] (.int .i64 (idxQ q l)):=by
 refine Zcp 64 (Ok s151) rfl (by rw[noRefs,noRefs,QbK hc,(Qab _)];rfl) rfl ?_;have c:=QbK (K:=K) hc;have n:=(show(ints (nz l)).length=l.length*1 by simp[ints]);unfold s151;refine Zc0 @Zas ?_;refine QaE 100 (fun i:Nat=>[(0,sliN l),(1,.fn K [] cap),(7,.int .i64 l.length),(8,.int .i64 i)]) (fun _=>[]) (fun i=>i<=l.length/\∀(j:Nat)y,j<i->l[j]?=some y->q y=false) (fun i=>l.length-i) 0 ?_ ⟨Zah _,fun j y k=>absurd k (Zay _)⟩ ?_;·exact⟨[],rfl,Zcs,Zcv,Zcu (Zcm (Qab _)) (Zcu (Zcm c) (Zcu (Zcm rfl) (Zcu (Zcm rfl) Zct)))⟩
 rintro i⟨hi,m⟩;by_cases a:i<l.length
 ·obtain⟨x,b⟩:=Qam a;have h:=hk x (Zac b);have d:=QaJ b;have f:1<=(List.drop (i*1) (ints (nz l))).length:=by rw[Za5,n];omega
  cases g:q x
  ·rw[g]at h;refine Zc0 (Zc4 a d f @Zbo @Zas) ?_;refine⟨_,by simpa using h,?_⟩;refine Zc0 @Zas ?_;refine⟨i+1,by omega,⟨by omega,fun j y k o=>?_⟩,?_⟩
   ·by_cases e:j=i;·subst e;rw[b]at o;cases o;exact g
    exact m j y (by omega) o
   exact⟨[],rfl,Zcs,Zcv,Zcu (Zcm (Qab _)) (Zcu (Zcm c) (Zcu (Zcm rfl) (Zcu (Zcm rfl) Zct)))⟩
  rw[g]at h;refine Zc0 (Zc4 a d f @Zbo @Zas) ?_;refine⟨_,by simpa using h,?_⟩;refine Zc0 @Zas ?_;refine⟨.inr trivial,_,rfl,?_⟩;rw[Qft b g m];rfl
 refine Zc0 (Zc1 a @Zas) ?_;refine⟨.inr trivial,_,rfl,?_⟩;rw[Qed fun x b=>by obtain⟨j,k,p⟩:=ZaU b;exact m j x (by omega) (by rw[Zak k,p])];rfl
theorem contains36(q:Nat->Bool)(l:List Nat)(a:l.length<=1000000)(hc:noRefs cap=true)(hk:∀x∈l,Ps K (.int .i64 (x:Int)::cap) (.bool (q x))):Ps 144 [sliN l,.fn K [] cap] (.bool (l.any q)):=by
 refine Zcp 64 (Ok s144) rfl (by rw[noRefs,noRefs,QbK hc,Qab];rfl) rfl ?_;unfold s144;refine Zc0 @Zas ?_;refine cp (index110 q l a hc hk) ?_;have e:=@Qo0 Nat q l;cases h:l.any q;·rw[h,decide_eq_false_iff_not]at e;refine Zc0 (Zc1 e @Zas) ?_;exact⟨.inr trivial,_,rfl,rfl⟩
 rw[h,decide_eq_true_eq]at e;refine Zc0 (Zc1 e @Zas) ?_;exact⟨.inr trivial,_,rfl,rfl⟩
theorem ge166(x:Nat):Ps 192 [.int .i64 (x:Int),.fptr [.int .i64 5]] (.bool (decide (5<=x))):=by refine Zcp 64 (Ok s192) rfl rfl rfl ?_;have e:decide ((5:Int)<=(x:Int))=decide (5<=x):=decide_eq_decide.2 (by omega);unfold s192;refine Zc0 (Zc1 e @Zas) ?_;exact⟨.inr trivial,_,rfl,rfl⟩
end Go.AM.SO
namespace Go.AM.SR
open Go.Proofs
set_option maxHeartbeats 4000000
noncomputable section
def cf:YA.Cf:={most:=.pure,always:=[144].map fun k=>(k,.heap)}
def s154:SFn:=by
 refine(?f:YA.Yt Tryz.prog cf 154 [[0,1,8],[11,12,13,14],[2,3,4,5,10],[10,16,17,18,19],[2,3,4,5,15],[8,3,15,20,21,22],[23,24,25],[26],[2,4,5,9,27,28],[8,9,27,30,31,32,33],[2,4,5,29],[29,35,36,37,38],[2,4,5,34],[5,34,40,41,42,43,44],[2,4,39],[2,4,39,46,47,48,49,50,51],[45],[45]]) ?s ?h;case h=>exact YA.rr
 exact fun s _=>s
end
end Go.AM.SR
namespace Go.AM.SO
open Go.Proofs Go.AM.SD Go.AM.SE
variable{a:Aut}{c:Cel}{h:Heap}{n:Int}{l:List (Nat×Aut)}{A B b:List Nat}{i m:Nat}{π:Nat->Option Src}{x:Nat×Aut}{s:UInt8}
theorem Qrs(hA:A.Pairwise (·<·))(c:B.Pairwise (·<·))(h:∀x∈A,x∈B):mrg (fun a b=>a&&!b) A B=[]:=by rw[List.eq_nil_iff_forall_not_mem];intro x d;obtain⟨h1,f⟩:=(Qb4 hA c).1 d;simp at h1;exact h1.2 (h x h1.1)
theorem QgY(h:WfA a):a.al.length<=32:=QaV 32 a.al (by rw[ZaM];exact h.al.imp fun h=>by omega) h.al5
abbrev nmsB(l:List (List UInt8)):Blk:=.map 0 (mapS yes l)
theorem item83(i)(a)(B)(names)(h:WfI a)(t:Ps 165 [.str i] (.bool true))(m:i∉names)(u:names.length<=100)(n:B.Pairwise (·<·))(k:B.length<=1000000)(p:∀x∈a.al,x∈B):HSpec Tryz.prog 154 [.agg [.str i,sliN a.al,.int .i64 (a.n:Int),sliN a.ms,egsN a.es],.int .i64 5,sliN B,.map 68 0] (hp [(68,nmsB names)]) (.int .i64 0) (hp [(68,nmsB (names++[i]))]):=by
 have q:=QgY h.wf;have f:a.es.length<=1000000:=Zaw h.el (by decide);have v:=check112 a h.wf f;have s:=isCanon60 a h.wf f h.can;have o:=h.pos;have l:¬(a.n:Int)=0:=by omega
 have d:=contains36 (K:=192) (cap:=[.fptr [.int .i64 5]]) (fun x=>decide (5<=x)) a.al (by omega) rfl (fun x _=>ge166 x);have g:a.al.any (fun x=>decide (5<=x))=false:=by rw[Zbt];intro x w;have:=h.a5 x w;simp;omega
 rw[g]at d;have b:=subset167 a.al B (by omega) k;rw[Qrs h.wf.al n p]at b;have c:Ps 193 [sliN a.al,sliN B] (.bool true):=b;refine HSpec.QuR (m:=69) 100 (Ok SR.s154) rfl rfl rfl ?_;unfold SR.s154;refine ZcZ ?_;refine cp t ?_;refine ZcZ ?_;refine QgT gg m ?_;refine ZcZ ?_;refine QeR gg m (by omega) ?_;refine Zc0 @Qin ?_;refine cp v ?_;refine ZcZ ?_;refine cp s ?_;refine Zc0 l ?_;refine SU.chc (ZcI (ZcL (Zcq _) (ZcL (FrzTo.fn ZcK (ZcL (ZcH (g:=0) (cs:=[.int .i64 5]) gg (Zcr _)) ZcK)) ZcK)) d rfl) ?_;refine ZcZ ?_;refine cp c ?_;refine ZcZ ?_;refine⟨.inr trivial,_,rfl,rfl,?_⟩;refine⟨[(68,.nil)],rfl,au0,?_,au20⟩;exact ZcA rfl gg (RnM.mapS fun _ _=>Zcm rfl) Zcv
theorem item83F(b)(a)(B)(names)(hw:WfI a)(m:Ps 165 [.str b] (.bool true))(g:b∉names)(f:names.length<=100)(k:B.Pairwise (·<·))(d:B.length<=1000000)(i:∀x∈a.al,x∈B)(c:h.get 68=some (nmsB names)):HSpec Tryz.prog 154 [.agg [.str b,sliN a.al,.int .i64 (a.n:Int),sliN a.ms,egsN a.es],.int .i64 5,sliN B,.map 68 0] h (.int .i64 0) (h.set 68 (nmsB (names++[b]))):=by
 have hm:∀(l:List (List UInt8)),∀e∈mapS yes l,noRef e.1=true/\noRef e.2=true:=fun l e he=>by unfold mapS at he;obtain⟨x,_,rfl⟩:=Zap.1 he;exact⟨rfl,rfl⟩
 exact HSpec.frameM (item83 b a B names hw m g f k d i) (OnlyD.cons (OnlyD.same (by rw[noRef];exact SU.Qek)) (OnlyD.cons (OnlyD.same rfl) (OnlyD.cons (OnlyD.same (Qab _)) (OnlyD.cons (OnlyD.map rfl) OnlyD.nil)))) (OnlyD.same rfl) (hm _) (hm _) c rfl
def uUp(l:List (Nat×Aut)):List Nat:=l.foldl (fun out x=>mrg (fun a b=>a||b) out x.2.al) []
theorem Qhd:∀{l:List (Nat×Aut)}{out:List Nat},out.Pairwise (·<·)->(∀x∈l,x.2.al.Pairwise (·<·))->(l.foldl (fun out x=>mrg (fun a b=>a||b) out x.2.al) out).Pairwise (·<·)/\∀e,e∈l.foldl (fun out x=>mrg (fun a b=>a||b) out x.2.al) out↔e∈out\/∃y∈l,e∈y.2.al
 |[],out,h,_=>⟨h,fun e=>by simp⟩|x::l,out,h,f=>by
  have d:=f x (by simp);obtain⟨h1,g⟩:=Qhd (l:=l) (QcU (k:=fun a b=>a||b) h d) fun y i=>f y (by simp[i]);refine⟨h1,fun e=>?_⟩;rw[ZaO,g e,Qb4 h d];simp only[Zaz,exists_eq_or_imp,Zbl,decide_eq_true_eq];constructor
  ·rintro(⟨c,_⟩|c)
   ·rcases c with c|c;·exact .inl c
    exact .inr (.inl c)
   exact .inr (.inr c)
  rintro(c|c|c);·exact .inl ⟨.inl c,.inl c⟩
  ·exact .inl ⟨.inr c,.inr c⟩
  exact .inr c
theorem QfZ(h:∀x∈l,WfI x.2):(uUp l).Pairwise (·<·):=(Qhd (by simp) fun x a=>(h x a).wf.al).1
theorem Qhe(h:∀x∈l,WfI x.2){e}:e∈uUp l↔∃y∈l,e∈y.2.al:=by have:=(Qhd (l:=l) (out:=[]) (by simp) fun x a=>(h x a).wf.al).2 e;simpa[uUp]using this
theorem QjY(h:∀x∈l,WfI x.2):(uUp l).length<=5:=by refine QaV 5 _ (by rw[ZaM];exact(QfZ h).imp fun h=>by omega) fun x a=>?_;obtain⟨y,b,he⟩:=(Qhe h).1 a;exact(h y b).a5 x he
theorem QsU(h:l[i]?=some x):uUp (l.take (i+1))=mrg (fun a b=>a||b) (uUp (l.take i)) x.2.al:=by unfold uUp;rw[take_succ' h,Za0];rfl
def nmsI(ch:UInt8)(l:List (Nat×Aut)):List (List UInt8):=l.map fun x=>[ch,UInt8.ofNat (48+x.1)]
theorem Qm2{ch}(h:l[i]?=some x):nmsI ch (l.take (i+1))=nmsI ch (l.take i)++[[ch,UInt8.ofNat (48+x.1)]]:=by unfold nmsI;rw[take_succ' h,ZaI];rfl
theorem Qt1{a b}(c:a<10)(d:b<10)(h:UInt8.ofNat (48+a)=UInt8.ofNat (48+b)):a=b:=by have:=congrArg UInt8.toNat h;simp at this;omega
theorem Qjf(h:l.map (·.1)=List.range l.length)(a:l[i]?=some x):x.1=i/\i<l.length:=by
 have hi:i<l.length:=by
  rcases ZbD i l.length with h|h;·exact h
  rw[Zax h]at a;cases a
 have h1:(l.map (·.1))[i]?=some x.1:=by rw[ZaA,a];rfl
 rw[h,Zbm hi]at h1;cases h1;exact⟨rfl,hi⟩
theorem Qo1{ch:UInt8}(h:l.map (·.1)=List.range l.length)(k:l.length<=9)(b:l[i]?=some x):[ch,UInt8.ofNat (48+x.1)]∉nmsI ch (l.take i):=by intro hm;obtain⟨y,d,he⟩:=Zap.1 hm;obtain⟨j,c,a⟩:=ZaU d;rw[Zar]at c;rw[List.getElem_take]at a;obtain⟨n,m⟩:=Qjf h b;obtain⟨f,g⟩:=Qjf h (i:=j) (x:=y) (by rw[<-a];exact Zak (by omega));have:=Qt1 (a:=y.1) (b:=x.1) (by omega) (by omega) (by simpa using he);omega
theorem Qrt{a b}(c:a≠b):[a,s]∉nmsI b l:=by intro hm;obtain⟨y,d,he⟩:=Zap.1 hm;simp at he;exact c he.1.symm
theorem QmU(h:i<3):Ps 165 [.str [99,UInt8.ofNat (48+i)]] (.bool true):=by
 have:i=0\/i=1\/i=2:=by omega
 rcases this with rfl|rfl|rfl;·exact SP.QtN
 ·exact SP.QtO
 exact SP.QtP
theorem QvB(h:i<2):Ps 165 [.str [114,UInt8.ofNat (48+i)]] (.bool true):=by
 have:i=0\/i=1:=by omega
 rcases this with rfl|rfl;·exact SP.QtQ
 exact SP.QtR
theorem Qhf:RnM m π h (mapS yes []) []:=trivial
theorem Qbi(c:Cel):noRefs [evsV c.ev,its 99 c.cs,its 114 c.rs,exs c.xs,cos c.ks]=true:=by have:=SU.QaX c;rwa[celV,noRef]at this
theorem check21(c)(h:WfCel c):Ps 98 [celV c] (.int .i64 0):=by
 have a:=Qbi c;refine Zcp 64 (Ok s98) rfl (by rw[noRefs,SU.QaX];rfl) rfl ?_;have A:=check82 c.ev h.ev;have C:=h.c0;have F:=h.c3;have E:=h.r2;have g1:¬(c.cs.length:Int)=0:=by omega
 have g2:¬(8:Int)<(c.cs.length:Int):=by omega
 have g3:¬(12:Int)<(c.cs.length:Int)+(c.rs.length:Int):=by omega
 have w:=conds85 c h;have t:=conds32 c h;unfold s98;refine ZcZ ?_;refine cp A ?_;refine Zc0 (Zc2 g1 g2 g3) ?_;refine Qas 140 (fun i:Nat=>[(1,.ptr 50 0 0),(5,.map 68 0),(6,.sl 76 0 0 i 1),(7,.nilsl),(41,.int .i64 5),(42,.int .i64 i)]) (fun i=>[(50,.cells 0 [evsV c.ev,its 99 c.cs,its 114 c.rs,exs c.xs,cos c.ks]),(68,nmsB []),(76,.cells 0 (ints (nz (List.range i))))]) (fun i=>i<=5) (fun i=>5-i) 0 1 180 (fun _:Unit=>[(1,.ptr 50 0 0),(5,.map 68 0),(6,sliN (List.range 5)),(7,sliN [])]) (fun _=>[(50,.cells 0 [evsV c.ev,its 99 c.cs,its 114 c.rs,exs c.xs,cos c.ks]),(68,nmsB [])]) (fun _=>True) ?_ (Zah _) ?_ ?_;·refine⟨[(50,.blk 64 0),(68,.blk 90 0),(76,.nil)],rfl,au0,?_,au20⟩;exact Zcw rfl rfl gg (Zcn a) (Zcy rfl rfl gg Qhf (Zcx rfl rfl Zcv))
 ·rintro i hi;by_cases b:i<5
  ·have q:(i:Int)<5:=by omega
   have s:(ints (nz (List.range i))).length=i:=by simp[ints]
   refine Zc0 (Zc2 q @ZbH s) ?_;refine⟨i+1,by omega,by omega,?_⟩;rw[ZaL,QaM,QaB];refine⟨[(50,.blk 50 0),(68,.blk 68 0),(76,.blk 76 1)],rfl,au0,?_,au20⟩;exact Zcw rfl rfl gg (Zcn a) (Zcy rfl rfl gg Qhf (Zcw rfl rfl gg (Zcn (SU.Qat (Qaa _) rfl)) Zcv))
  have e:i=5:=by omega
  subst e;refine ZcZ ?_;refine⟨(),[(50,.blk 50 0),(68,.blk 68 0)],rfl,Zcs,?_,?_⟩;·exact Zcw rfl rfl gg (Zcn a) (Zcy rfl rfl gg Qhf Zcv)
  exact Zcu (Rn.x2 rfl rfl) (Zcu (Rn.x3 rfl rfl) (Zcu (Rn.fz (b:=76) (g:=0) gg rfl rfl rfl (Zcn rfl)) (Zcu Rn.nilK Zct)))
 rintro _ _;refine ZcZ ?_;refine Qas 240 (fun i:Nat=>[(1,.ptr 50 0 0),(5,.map 68 0),(6,sliN (List.range 5)),(7,sliN (uUp (c.cs.take i))),(51,its 99 c.cs),(52,.int .i64 c.cs.length),(53,.int .i64 i)]) (fun i=>[(50,.cells 0 [evsV c.ev,its 99 c.cs,its 114 c.rs,exs c.xs,cos c.ks]),(68,nmsB (nmsI 99 (c.cs.take i)))]) (fun i=>i<=c.cs.length) (fun i=>c.cs.length-i) 0 3 280 (fun _:Unit=>[(1,.ptr 50 0 0),(5,.map 68 0),(7,sliN (uUp c.cs))]) (fun _=>[(50,.cells 0 [evsV c.ev,its 99 c.cs,its 114 c.rs,exs c.xs,cos c.ks]),(68,nmsB (nmsI 99 c.cs))]) (fun _=>True) ?_ (Zah _) ?_ ?_;·refine⟨[(50,.blk 50 0),(68,.blk 68 0)],rfl,au0,?_,au20⟩;exact Zcw rfl rfl gg (Zcn a) (Zcy rfl rfl gg Qhf Zcv)
 ·rintro i hi;by_cases b:i<c.cs.length
  ·obtain⟨x,f⟩:=Qam b;have m:=Zac f;have l:=SU.QdT (ch:=99) f;have o:5<=((c.cs.flatMap (itC 99)).drop (i*5)).length:=by rw[l];simp
   have g:=h.ca x m;have v:=Qjf h.cn f;have n:(nmsI 99 (c.cs.take i)).length<=100:=by simp[nmsI];omega
   have u:=QmU (i:=x.1) (by omega);have k:=Qo1 (ch:=99) h.cn (by omega) f;have d:(uUp (c.cs.take i)).length<=1000000:=by have:=QjY (l:=c.cs.take i) fun y B=>h.ca y (ZaR B);omega
   have z:=union84 (uUp (c.cs.take i)) x.2.al d (by have:=QgY g.wf;omega);rw[<-QsU f]at z;have p:=Qm2 (ch:=99) f;refine Zc0 (Zc2 b l o) ?_;refine SU.chc (item83F _ _ _ _ g u k n ZbZ (by decide) (fun e he=>Zat.2 (g.a5 e he)) gg) ?_;refine ZcZ ?_;refine cp z ?_;refine ZcZ ?_;refine⟨i+1,by omega,by omega,?_⟩;rw[p];exact bLdMM
  have e:i=c.cs.length:=by omega
  subst e;refine ZcY b ?_;refine⟨(),?_⟩;exact bLdMM
 rintro _ _;refine ZcZ ?_;refine Qas 340 (fun i:Nat=>[(1,.ptr 50 0 0),(5,.map 68 0),(7,sliN (uUp c.cs)),(74,its 114 c.rs),(75,.int .i64 c.rs.length),(76,.int .i64 i)]) (fun i=>[(50,.cells 0 [evsV c.ev,its 99 c.cs,its 114 c.rs,exs c.xs,cos c.ks]),(68,nmsB (nmsI 99 c.cs++nmsI 114 (c.rs.take i)))]) (fun i=>i<=c.rs.length) (fun i=>c.rs.length-i) 0 5 380 (fun _:Unit=>[(1,.ptr 50 0 0)]) (fun _=>[(50,.cells 0 [evsV c.ev,its 99 c.cs,its 114 c.rs,exs c.xs,cos c.ks])]) (fun _=>True) ?_ (Zah _) ?_ ?_;·rw[show nmsI 99 c.cs++nmsI 114 (c.rs.take 0)=nmsI 99 c.cs by simp[nmsI]];refine⟨[(50,.blk 50 0),(68,.blk 68 0)],rfl,au0,?_,au20⟩;exact Zcw rfl rfl gg (Zcn a) (Zcy rfl rfl gg (RnM.mapS fun _ _=>Zcm rfl) Zcv)
 ·rintro i hi;by_cases b:i<c.rs.length
  ·obtain⟨x,f⟩:=Qam b;have m:=Zac f;have l:=SU.QdT (ch:=114) f;have o:5<=((c.rs.flatMap (itC 114)).drop (i*5)).length:=by rw[l];simp
   have g:=h.ra x m;have v:=Qjf h.rn f;have n:(nmsI 99 c.cs++nmsI 114 (c.rs.take i)).length<=100:=by simp[nmsI];omega
   have u:=QvB (i:=x.1) (by omega);have k:[114,UInt8.ofNat (48+x.1)]∉nmsI 99 c.cs++nmsI 114 (c.rs.take i):=by
    intro hm;rcases ZaG.1 hm with hm|hm;·exact Qrt (by decide) hm
    exact Qo1 (ch:=114) h.rn (by omega) f hm
   have d:(uUp c.cs).length<=1000000:=by have:=QjY (l:=c.cs) h.ca;omega
   have p:=Qm2 (ch:=114) f;refine Zc0 (Zc2 b l o) ?_;refine SU.chc (item83F _ _ _ _ g u k n (QfZ h.ca) d (fun e he=>(Qhe h.ca).2 (h.rsub x m e he)) gg) ?_;refine ZcZ ?_;refine⟨i+1,by omega,by omega,?_⟩;rw[p,<-ZaQ];exact bLdMM
  exact bMAQB
 rintro _ _;refine ZcZ ?_;refine cp w ?_;refine ZcZ ?_;refine cp t ?_;refine ZcZ ?_;exact⟨.inr trivial,_,rfl,rfl⟩
theorem u8_wf(h:(Lit.int .u8 n).wf=true):0<=n/\n<256:=by grind[Lit.wf,IntKind.min,IntKind.max,IntKind.signed,IntKind.bits]
theorem i8_wf(h:(Lit.int .i8 n).wf=true):-128<=n/\n<128:=by grind[Lit.wf,IntKind.min,IntKind.max,IntKind.signed,IntKind.bits]
def u8O:Ty->Bool|.int k=>k==.u8|.arr _ t=>u8O t|.st t=>u8O t|.unit=>true|.pair a b=>u8O a&&u8O b|_=>false
theorem Qf0{a}:u8s (a++b)=u8s a++u8s b:=by simp[u8s]
theorem Qci:∀(t:Ty),u8O t=true->∀(d:t.D),t.wf d->∃l:List Nat,l.length=t.sz/\(∀x∈l,x<256)/\t.cells d=u8s l
 |.int k,h,d,hw=>by
  have:k=.u8:=by grind[u8O]
  subst this;have:=u8_wf hw;refine⟨[Int.toNat d],rfl,by simp;omega,?_⟩;show[AV.int .u8 d]=[AV.int .u8 ((Int.toNat d:Nat):Int)];grind|.bool,h,_,_=>by cases h|.str,h,_,_=>by cases h|.sl _,h,_,_=>by cases h|.st t,h,d,hw=>Qci t h d hw|.unit,_,_,_=>⟨[],rfl,by simp,rfl⟩|.pair a b,h,d,hw=>by simp only[u8O,Zab]at h;obtain⟨l,h1,g,i⟩:=Qci a h.1 d.1 hw.1;obtain⟨m,g1,g2,g3⟩:=Qci b h.2 d.2 hw.2;refine⟨l++m,by rw[Zaf,h1,g1];rfl,fun x c=>(ZaG.1 c).elim (g x) (g2 x),?_⟩;show a.cells d.1++b.cells d.2=_;rw[i,g3,Qf0]|.arr n t,h,d,hw=>by
  obtain⟨f,c⟩:=hw;have key:∀l:List t.D,(∀x∈l,t.wf x)->∃r:List Nat,r.length=l.length*t.sz/\(∀x∈r,x<256)/\l.flatMap t.cells=u8s r:=by intro l;induction l with|nil=>intro _;exact⟨[],by simp,by simp,rfl⟩|cons a l o=>intro f;obtain⟨r,g1,g2,g3⟩:=o fun y p=>f y (by simp[p]);obtain⟨m,h1,g,i⟩:=Qci t h a (f a (by simp));refine⟨m++r,by grind,fun x c=>(ZaG.1 c).elim (g x) (g2 x),?_⟩;rw[ZaD,g3,i,Qf0]
  obtain⟨r,g1,g2,g3⟩:=key d c;refine⟨r,by rw[g1];show List.length d*t.sz=n*t.sz;rw[f],g2,g3⟩
abbrev tyTo:Ty:=.arr 5 (.arr 5 (.int .u8))
abbrev tyGr:Ty:=.st (.pair (.int .u8) (.pair (.int .u8) (.pair tyTo .unit)))
abbrev tyPln:Ty:=.st (.pair (.arr 5 (.int .u8)) (.pair (.int .u8) (.pair (.arr 3 (.int .u8)) (.pair (.arr 3 tyGr) (.pair (.int .u8) (.pair (.arr 2 (.int .u8)) (.pair (.arr 2 tyGr) (.pair (.sl (.arr 4 (.int .u8))) (.pair (.arr 3 (.int .i8)) (.pair (.int .i8) .unit))))))))))
variable{d:tyPln.D}
theorem QvC(h:tyPln.wf d):∃p:Pln,POk p/\p.xn<=9223372036854775807/\tyPln.val d=plnV p:=by
 obtain⟨a,b,c,g,e,f,k,x,y,z,u⟩:=d;obtain⟨h1,E,A,w,t,C,v,q,B,o,_⟩:=h;dsimp only at h1 E A w t C v q B o;obtain⟨Y,a1,b1,c1⟩:=Qci (.arr 5 (.int .u8)) rfl _ h1;obtain⟨F,a2,b2,c2⟩:=Qci (.int .u8) rfl _ E;obtain⟨S,a3,b3,U⟩:=Qci (.arr 3 (.int .u8)) rfl _ A;obtain⟨I,a4,b4,O⟩:=Qci (.arr 3 tyGr) rfl _ w;obtain⟨Q,a5,b5,L⟩:=Qci (.int .u8) rfl _ t;obtain⟨G,J,b6,H⟩:=Qci (.arr 2 (.int .u8)) rfl _ C;obtain⟨Z,a7,b7,P⟩:=Qci (.arr 2 tyGr) rfl _ v;obtain⟨s,q⟩:=q;obtain⟨M,X,b8,N⟩:=Qci (.arr (List.length x) (.arr 4 (.int .u8))) rfl x ⟨rfl,q⟩;obtain⟨R,n⟩:=B;obtain⟨i,l,m,rfl⟩:∃i l m,y=[i,l,m]:=by match y,R with|[i,l,m],_=>exact⟨i,l,m,rfl⟩
 have K:=i8_wf (n i (by simp));have T:=i8_wf (n l (by simp));have w2:=i8_wf (n m (by simp));have V:=i8_wf o;refine⟨⟨Y++F++S++I++Q++G++Z,M,List.length x,i,l,m,z⟩,⟨?_,?_,X,b8,K,T,w2,V⟩,s,?_⟩;·simp only[Zaf,a1,a2,a3,a4,a5,J,a7];rfl
 ·grind
 show AV.agg (tyPln.cells _)=_;congr 1;show(Ty.arr 5 (.int .u8)).cells a++((Ty.int .u8).cells b++((Ty.arr 3 (.int .u8)).cells c++((Ty.arr 3 tyGr).cells g++((Ty.int .u8).cells e++((Ty.arr 2 (.int .u8)).cells f++((Ty.arr 2 tyGr).cells k++([.fsl ((Ty.arr (List.length x) (.arr 4 (.int .u8))).cells x) (List.length x) 4]++((Ty.arr 3 (.int .i8)).cells [i,l,m]++((Ty.int .i8).cells z++[])))))))))=_;rw[c1,c2,U,O,L,H,P,N];simp only[plnC,Qf0,ZaQ];rfl
def itN(x:List UInt8×Aut):List AV:=[.str x.1,sliN x.2.al,.int .i64 (x.2.n:Int),sliN x.2.ms,egsN x.2.es]
abbrev itsN(l:List (List UInt8×Aut)):AV:=.fsl (l.flatMap itN) l.length 5
def nmL'(ch:UInt8)(l:List (Nat×Aut)):List (List UInt8×Aut):=l.map fun x=>([ch,UInt8.ofNat (48+x.1)],x.2)
theorem Qjg{ch}:its ch l=itsN (nmL' ch l):=by
 unfold nmL';have:(l.map fun x=>([ch,UInt8.ofNat (48+x.1)],x.2)).flatMap itN=l.flatMap (itC ch):=by rw[List.flatMap_map];rfl
 rw[itsN,this,Zav]
theorem Qbe(l:List (List UInt8×Aut)):noRefs (l.flatMap itN)=true:=Qa8 (fun x=>by simp only[itN,noRefs,noRef,Qaa,Qaf];rfl) l
theorem Qdt(l):noRef (itsN l)=true:=by simp only[noRef];exact Qbe l
theorem QgZ(l:List (List UInt8×Aut)):(l.flatMap itN).length=l.length*5:=Qbf (k:=5) (fun _=>rfl) l
theorem Qo2{l:List (List UInt8×Aut)}{x}(h:l[i]?=some x):(l.flatMap itN).drop (i*5)=.str x.1::sliN x.2.al::.int .i64 (x.2.n:Int)::sliN x.2.ms::egsN x.2.es::(l.drop (i+1)).flatMap itN:=Qbj (f:=itN) (k:=5) (fun _=>rfl) h
def evl(e:Nat->Evt):List (List UInt8×Evt):=(List.range 5).map fun i=>([UInt8.ofNat (97+i)],e i)
def evN(x:List UInt8×Evt):List AV:=[.str x.1,.bool x.2.c,.bool x.2.o,.bool x.2.f,.int .i64 (x.2.flt:Int)]
abbrev evNV(x:List UInt8×Evt):AV:=.agg [.str x.1,.bool x.2.c,.bool x.2.o,.bool x.2.f,.int .i64 (x.2.flt:Int)]
abbrev evsN(l:List (List UInt8×Evt)):AV:=.fsl (l.flatMap evN) l.length 5
theorem Qo3(e):evsV e=evsN (evl e):=rfl
theorem Qf1(l:List (List UInt8×Evt)):noRefs (l.flatMap evN)=true:=Qa8 (fun x=>rfl) l
theorem Qt2(l:List (List UInt8×Evt)):(l.flatMap evN).length=l.length*5:=Qbf (k:=5) (fun _=>rfl) l
theorem Qm3{l:List (List UInt8×Evt)}{x}(h:l[i]?=some x):(l.flatMap evN).drop (i*5)=.str x.1::.bool x.2.c::.bool x.2.o::.bool x.2.f::.int .i64 (x.2.flt:Int)::(l.drop (i+1)).flatMap evN:=Qbj (f:=evN) (k:=5) (fun _=>rfl) h
def vrI(ch:UInt8)(x:Nat×Aut):List UInt8×Int:=([ch,UInt8.ofNat (48+x.1)],(x.2.n:Int)-1)
def vrsL(c:Cel):List (List UInt8×Int):=c.cs.map (vrI 99)++c.rs.map (vrI 114)
theorem Qio:(vrsL c).length=c.cs.length+c.rs.length:=by simp[vrsL]
theorem QcN(h:WfCel c):(vrsL c).length<=5:=by have:=h.c3;have:=h.r2;rw[Qio];omega
theorem Qdh(h:WfCel c):∀x∈vrsL c,0<=x.2/\x.2<=2:=by
 intro x b;rcases ZaG.1 b with b|b;·obtain⟨y,a,rfl⟩:=Zap.1 b;have h1:=(h.ca y a).pos;have d:=(h.ca y a).n3;show 0<=((y.2.n:Nat):Int)-1/\((y.2.n:Nat):Int)-1<=2;omega
 obtain⟨y,a,rfl⟩:=Zap.1 b;have h1:=(h.ra y a).pos;have d:=(h.ra y a).n3;show 0<=((y.2.n:Nat):Int)-1/\((y.2.n:Nat):Int)-1<=2;omega
def szV(n:Int)(l:List (List UInt8×Int)):Int:=l.foldl (fun n x=>n*(x.2+1)) n
theorem Qru:∀{l:List (List UInt8×Int)}{n m:Int},(∀x∈l,0<=x.2/\x.2<=2)->1<=n->n<=m->1<=szV n l/\szV n l<=m*3^l.length
 |[],n,m,_,h1,d=>by simp[szV];omega|x::l,n,m,h,h1,d=>by
  have f:=h x (by simp);have b:1<=n*(x.2+1)/\n*(x.2+1)<=m*3:=by
   have:x.2=0\/x.2=1\/x.2=2:=by omega
   rcases this with e|e|e<;>rw[e]<;>omega
  have a:=Qru (l:=l) (fun y c=>h y (by simp[c])) b.1 b.2;refine⟨a.1,?_⟩;rw[ZaF,Int.pow_succ,Int.mul_comm (3^l.length) 3,<-Int.mul_assoc];exact a.2
theorem Qf2{l:List (List UInt8×Int)}{x}(h:l[i]?=some x):szV 1 (l.take (i+1))=szV 1 (l.take i)*(x.2+1):=by unfold szV;rw[take_succ' h,Za0];rfl
theorem QcO{l:List (List UInt8×Int)}(h:∀x∈l,0<=x.2/\x.2<=2)(c:l.length<=5)(i):1<=szV 1 (l.take i)/\szV 1 (l.take i)<=243:=by
 have a:=Qru (l:=l.take i) (n:=1) (m:=1) (fun x b=>h x (ZaR b)) (by decide) (by decide);refine⟨a.1,Int.le_trans a.2 ?_⟩;have hk:(l.take i).length<=5:=by rw[Zar];omega
 generalize(l.take i).length=k at hk;have:k=0\/k=1\/k=2\/k=3\/k=4\/k=5:=by omega
 rcases this with rfl|rfl|rfl|rfl|rfl|rfl<;>decide
theorem Qo4(h:WfCel c):1<=szV 1 (vrsL c)/\szV 1 (vrsL c)<=243:=by have:=QcO (Qdh h) (QcN h) (vrsL c).length;rwa[Zao]at this
end Go.AM.SO
namespace Go.AM.VL
open Go.Proofs
set_option maxHeartbeats 4000000
noncomputable section
def cf:YA.Cf:={most:=.pure,always:=[180,235].map fun k=>(k,.heap)}
def s55:SFn:=by
 refine(?f:YA.Yt Tryz.prog cf 55 [[2],[0,3,4]]) ?s ?h;case h=>exact YA.rr
 exact fun s _=>s
def s60:SFn:=by
 refine(?f:YA.Yt Tryz.prog cf 60 [[6],[0,1,2,7,8,9,10]]) ?s ?h;case h=>exact YA.rr
 exact fun s _=>s
def s125:SFn:=by
 refine(?f:YA.Yt Tryz.prog cf 125 [[2],[8],[],[9,10,11],[12],[],[15,16,17],[18,21,22,23,24,25],[26,27,28,29,30,31],[32,35,36,37,38,39,40,41,42,43,44,45,46],[33,34],[7,19,20],[5,6,47],[13,14],[0,3,4,48]]) ?s ?h;case h=>exact YA.rr
 exact fun s _=>s
def s126:SFn:=by
 refine(?f:YA.Yt Tryz.prog cf 126 [[6],[15,16],[],[],[],[17,18,19],[20,23,24,25,26,27,32,33],[42,43,44,45,46,47,48,49,50,51,52,53,54,55,56,57],[42,21,22],[0,11,41,40,34,35,39,38,36,37,31,30,28,29],[58,59,60],[61],[],[64,65,66],[67,70,71,106],[68,69],[14,107,108,109,110,111],[13,112],[113,114,115,116,117,118,119,120],[113,62,63],[1,2,7,8,9,10,105,96,104,97,98,99,103,102,100,101,95,84,94,93,88,92,91,89,90,87,85,86,83,77,82,81,80,78,79,76,75,74,72,73,12,121]]) ?s ?h;case h=>exact YA.rr
 exact fun s _=>s
def s180:SFn:=by
 refine(?f:YA.Yt Tryz.prog cf 180 [[8],[],[10,11,12],[13,16,17,18,19,24,25],[0,1,2,3,9,31,29,30,28,26,27,23,22,20,21,32],[8,32,14,15],[0,1,2,3,9,31,29,30,28,26,27,23,22,20,21]]) ?s ?h;case h=>exact YA.rr
 exact fun s _=>s
def s181:SFn:=by
 refine(?f:YA.Yt Tryz.prog cf 181 [[],[1,13,14,15,16,17,18,19],[],[20,21,22],[23,26,27,28,29,30,31,32,33,34,35],[36,37,38,39,40,41,42,43],[44,45,46,47,48],[49,50,51,52,53,54,55,56],[23,57,58,59,60,61,62,63,64,65,66],[67,68,69,70,71,72,73,74],[75,76,77,78,79],[80,81,82,83,84,85,86,87],[23,24,25],[0,2,3,4,11,12,88]]) ?s ?h;case h=>exact YA.rr
 exact fun s _=>s
def s235:SFn:=by
 refine(?f:YA.Yt Tryz.prog cf 235 [[0,8],[],[10,11,12],[13,16,17,18,19,20,26,27],[1,2,3,4,9,33,28,32,31,29,30,25,24,23,21,22,34],[8,34,14,15],[1,2,3,4,9,33,28,32,31,29,30,25,24,23,21,22]]) ?s ?h;case h=>exact YA.rr
 exact fun s _=>s
end
end Go.AM.VL
namespace Go.AM.SO
open Go.Proofs Go.AM.SD Go.AM.SE
variable{b:Bxn}{h:Int}{A L:List (List Int)}{v:List (List UInt8×Int)}{c l:List Bool}{bs:List Bxn}{t:List Int}{x:List UInt8×Int}{i k m n:Nat}
abbrev liV(L:List (List Int)):AV:=.fsl (L.map sli) L.length 1
theorem QaT(L:List (List Int)):noRefs (L.map sli)=true:=by induction L with|nil=>rfl|cons x L a=>rw[ZaK,noRefs,Qah,a];rfl
theorem Qf3(L):noRef (liV L)=true:=by rw[noRef];exact QaT L
theorem Qcj(h:L[i]?=some t):((L.map sli).drop i).head?=some (sli t):=by rw[Zby,ZaA,h];rfl
def domE(h:Int)(t:List Int):List (List Int):=(List.range (h+1).toNat).map fun n=>t++[((n:Nat):Int)]
def domS(L:List (List Int))(h:Int):List (List Int):=L.flatMap (domE h)
def dom(v:List (List UInt8×Int)):List (List Int):=v.foldl (fun L x=>domS L x.2) [[]]
theorem Qf4(h:v[i]?=some x):dom (v.take (i+1))=domS (dom (v.take i)) x.2:=by unfold dom;rw[take_succ' h,Za0];rfl
def domP(L:List (List Int))(h:Int)(k n:Nat):List (List Int):=(L.take k).flatMap (domE h)++(List.range n).map fun j=>L.getD k []++[((j:Nat):Int)]
theorem Qrv:domP L h k 0=domS (L.take k) h:=by simp[domP,domS]
theorem Qrw(hk:L[k]?=some t):domP L h k (n+1)=domP L h k n++[t++[((n:Nat):Int)]]:=by unfold domP;rw[ZaL,ZaI,<-ZaQ,Qaz hk];rfl
theorem QsV(hk:L[k]?=some t):domP L h k (h+1).toNat=domS (L.take (k+1)) h:=by unfold domP domS;rw[take_succ' hk,Zan,Qaz hk];simp[domE]
theorem Qm4{L}{h}(b:0<=h):((domS L h).length:Int)=L.length*(h+1):=by unfold domS;induction L with|nil=>simp|cons t L a=>
 rw[ZaD,Zaf,ZaE,a];have:((domE h t).length:Int)=h+1:=by simp[domE];omega
 rw[this,ZaF,ZaE,Int.add_mul];simp[Int.add_comm]
theorem QjZ(h:∀x∈v,0<=x.2/\x.2<=2)(i):i<=v.length->((dom (v.take i)).length:Int)=szV 1 (v.take i):=by induction i with|zero=>intro _;rfl|succ i b=>intro hi;obtain⟨x,a⟩:=Qam (l:=v) (i:=i) (by omega);have:=h x (Zac a);rw[Qf4 a,Qf2 a,Qm4 this.1,b (by omega)]
theorem Qg0:∀(i:Nat),i<=v.length->∀t∈dom (v.take i),t.length=i|0,_,t,a=>by have:t∈([[]]:List (List Int)):=a;simp at this;subst this;rfl|i+1,hi,t,a=>by obtain⟨x,b⟩:=Qam (l:=v) (i:=i) (by omega);rw[Qf4 b]at a;obtain⟨u,hu,hm⟩:=Zbv.1 a;obtain⟨n,_,rfl⟩:=Zap.1 hm;rw[Zaf,Qg0 i (by omega) u hu];rfl
theorem QsW(a:0<=h/\h<=2)(d:n<=(h+1).toNat):(domP L h k n).length<=L.length*3+3:=by
 have h1:=@Qm4 (L.take k) h a.1;have b:(domP L h k n).length=(domS (L.take k) h).length+n:=by simp[domP,domS]
 have c:(L.take k).length<=L.length:=by rw[Zar];omega
 have f:((L.take k).length:Int)*(h+1)<=L.length*3:=by
  have:h=0\/h=1\/h=2:=by omega
  rcases this with rfl|rfl|rfl<;>omega
 omega
theorem _root_.Go.AM.au21{p:Prop}(h:p:=by repeat(first|exact Zct|(refine Zcu ?_ ?_;·(first|exact Zcl|exact Rn.x1 rfl rfl|exact Rn.x2 rfl rfl|exact Rn.x3 rfl rfl|exact Rn.x4 rfl rfl|exact Rn.x5 rfl|exact Rn.x6 rfl|exact Rn.x7 rfl|(refine ZcF ?_ ?_;(first|rfl|(rw[ZaE];rfl));(first|rfl|(simp only[noRef,noRefs,SD.Qaa,SD.Qab,SD.Qaf,SD.Qag,SD.Qah,SD.Qai,SD.Qaj,SD.Qal,SD.Qan,SD.Qar,SE.QaA,SE.QaP,SE.Qak,SE.Qao,SE.Qap,SE.Qaq,SO.QaC,SO.QaT,SO.Qau,SO.Qay,SO.Qbe,SO.Qf1,SU.Qa1,SU.Qa9,SU.QaS,SU.QaW,SU.QbA,Zad,Zae,Zag];done)))|(refine Rn.fn ?_ ?_<;>(repeat'(first|exact ZcB|refine ZcC ?_ ?_|exact Zcm rfl|exact Rn.x6 rfl|exact Rn.x2 rfl rfl|exact Rn.x5 rfl|exact Rn.x1 rfl rfl))))))):p:=h
theorem _root_.Go.AM.au22{p:Prop}(h:p:=by repeat'(first|exact Zcv|(refine Zcn ?_;first|rfl|(simp only[noRef,noRefs,SD.Qaa,SD.Qab,SD.Qaf,SD.Qag,SD.Qah,SD.Qai,SD.Qaj,SD.Qal,SD.Qan,SD.Qar,SE.QaA,SE.QaP,SE.Qak,SE.Qao,SE.Qap,SE.Qaq,SO.QaC,SO.QaT,SO.Qau,SO.Qay,SO.Qbe,SO.Qf1,SU.Qa1,SU.Qa9,SU.QaS,SU.QaW,SU.QbA,Zad,Zae,Zag];done))|exact ZcJ rfl|exact ZcB|exact(True.intro:RnM _ _ _ [] [])|refine ZcC ?_ ?_|(refine Zcm ?_;first|rfl|(simp only[noRef,noRefs,SD.Qaa,SD.Qab,SD.Qaf,SD.Qag,SD.Qah,SD.Qai,SD.Qaj,SD.Qal,SD.Qan,SD.Qar,SE.QaA,SE.QaP,SE.Qak,SE.Qao,SE.Qap,SE.Qaq,SO.QaC,SO.QaT,SO.Qau,SO.Qay,SO.Qbe,SO.Qf1,SU.Qa1,SU.Qa9,SU.QaS,SU.QaW,SU.QbA,Zad,Zae,Zag];done))|exact Rn.x1 rfl rfl|exact Rn.x2 rfl rfl|exact Rn.x3 rfl rfl|exact Rn.x4 rfl rfl|exact Rn.x5 rfl|exact Rn.x6 rfl|exact Rn.x7 rfl|refine Zcx rfl rfl ?_|refine Zcw rfl rfl rfl ?_ ?_|refine Zcy rfl rfl rfl ?_ ?_|refine Zcz rfl rfl ?_ ?_|refine ZcA rfl rfl ?_ ?_)):p:=h
theorem domain125(v:List (List UInt8×Int))(B:v.length<=5)(f:∀x∈v,0<=x.2/\x.2<=2):Ps 125 [vrsV v] (liV (dom v)):=by
 refine Zco 64 (Ok VL.s125) rfl (by rw[noRefs,Qbp];rfl) (Qf3 _) ?_;unfold VL.s125;refine ZcZ ?_;refine QaE 100 (fun i:Nat=>[(0,vrsV v),(3,liV (dom (v.take i))),(4,.int .i64 i)]) (fun _=>[]) (fun i=>i<=v.length) (fun i=>v.length-i) 0 ?_ (Zah _) ?_;·exact⟨[],rfl,Zcs,Zcv,Zcu (Zcm (Qbp v)) (Zcu (Rn.fz (b:=65) (g:=0) gg rfl rfl rfl (ZcC Rn.nilK ZcB)) au21)⟩
 rintro i hi;by_cases a:i<v.length
 ·obtain⟨x,q⟩:=Qam a;have c:=Qde q;have d:4<=((v.flatMap vrC).drop (i*4)).length:=by rw[c];simp
  have p:=f x (Zac q);have u:=Qf4 q;have G:(dom (v.take i)).length<=243:=by have h1:=QjZ f i hi;have H:=QcO f B i;omega
  have o:∀t∈dom (v.take i),t.length<=5:=fun t g=>by rw[Qg0 i hi t g];omega
  generalize dom (v.take i)=L at*;refine Zc0 a ?_;refine Qas 140 (fun k:Nat=>[(0,vrsV v),(3,liV L),(4,.int .i64 i),(5,.sl 76 0 0 (domP L x.2 k 0).length 1),(6,.int .i64 k)]) (fun k=>[(76,.cells 0 ((domP L x.2 k 0).map sli))]) (fun k=>k<=L.length) (fun k=>L.length-k) 0 2 300 (fun _:Unit=>[(0,vrsV v),(4,.int .i64 i),(5,liV (domS L x.2))]) (fun _=>[]) (fun _=>True) ?_ (Zah _) ?_ ?_;·refine⟨[(76,.nil)],rfl,au0,?_,au21⟩;exact Zcx rfl rfl Zcv
  ·rintro k hk;by_cases b:k<L.length
   ·obtain⟨t,g⟩:=Qam b;have F:=o t (Zac g);refine Zc0 (Zc3 a b c d) ?_;refine QaE 200 (fun n:Nat=>[(0,vrsV v),(3,liV L),(4,.int .i64 i),(5,.sl 76 0 0 (domP L x.2 k n).length 1),(6,.int .i64 k),(7,.int .i64 n)]) (fun n=>[(76,.cells 0 ((domP L x.2 k n).map sli))]) (fun n=>n<=(x.2+1).toNat) (fun n=>(x.2+1).toNat-n) 0 ?_ (Zah _) ?_;·refine⟨[(76,.blk 76 0)],rfl,au0,?_,au21⟩;exact Zcw rfl rfl gg (Zcn (QaT _)) Zcv
    rintro n C;have z:=QsW (L:=L) (k:=k) p C;by_cases l:(n:Int)<=x.2
    ·have h:(ints t).all AV.one=true:=by simp[ints,AV.one]
     have m:(ints t).length=t.length:=by simp[ints]
     have w:((domP L x.2 k n).map sli).length=(domP L x.2 k n).length*1:=by simp
     refine Zc0 (Zc8 a b c d l (Qcj g) h m w) ?_;refine⟨n+1,by omega,by omega,?_⟩;rw[Qrw g,Zaf,ZaI];refine⟨[(76,.blk 76 1)],rfl,au0,?_,au21⟩;exact Zcw rfl rfl gg (RnL.append (Zcn (QaT _)) (RnL.one (ZcD (b:=208) (g:=2) gg rfl rfl (by simp) (by simp[ints]) (RnL.eq (by simp[ints]) (Qaa _))))) Zcv
    have y:n=(x.2+1).toNat:=by omega
    have s:=QsV (h:=x.2) g;refine Zc0 (Zc4 a b c d l) ?_;refine⟨k+1,by omega,by omega,?_⟩;rw[Qrv,<-s,<-y];refine⟨[(76,.blk 76 0)],rfl,au0,?_,au21⟩;exact Zcw rfl rfl gg (Zcn (QaT _)) Zcv
   have E:k=L.length:=by omega
   subst E;have s:domP L x.2 L.length 0=domS L x.2:=by rw[Qrv,Zao]
   refine Zc0 b ?_;rw[s];refine⟨(),?_⟩;exact⟨[],rfl,Zcs,Zcv,Zcu (Zcm (Qbp v)) (Zcu (Zcm rfl) (Zcu (Rn.fz (b:=76) (g:=0) gg rfl rfl (by simp) (Zcn (QaT _))) Zct))⟩
  rintro _ _;refine ZcZ ?_;refine⟨i+1,by omega,by omega,?_⟩;rw[u];exact⟨[],rfl,au0,au22,au21⟩
 have A:i=v.length:=by omega
 subst A;refine ZcY a ?_;exact⟨.inr trivial,_,rfl,Zcm (Qf3 _)⟩
abbrev boV(l:List Bool):AV:=.fsl (l.map AV.bool) l.length 1
theorem QaG(l:List Bool):noRefs (l.map AV.bool)=true:=by induction l with|nil=>rfl|cons x l a=>rw[ZaK,noRefs,a];rfl
theorem Qba{b}(h:l[i]?=some b):((l.map AV.bool).drop i).head?=some (.bool b):=by rw[Zby,ZaA,h];rfl
def perQ(b:Bxn)(A:List (List Int))(t c:List Bool)(i:Nat):Bool:=c.getD i false&&(!t.getD i false&&inB b (A.getD i []))
def perB(b:Bxn)(A:List (List Int))(t c:List Bool):Bool:=!(List.range A.length).any (perQ b A t c)
theorem QpU{t}(hi:i<A.length)(h:perQ b A t c i=true):perB b A t c=false:=by unfold perB;rw[Zba.2 ⟨i,Zat.2 hi,h⟩];rfl
theorem Qrx{t}(h:∀i,i<A.length->perQ b A t c i=false):perB b A t c=true:=by unfold perB;rw[Zbt.2 fun i hi=>by rw[h i (Zat.1 hi)];decide];rfl
theorem _root_.Go.AM.au23{p:Prop}(h:p:=by repeat'(first|exact Zcv|(refine Zcn ?_;first|rfl|(simp only[noRef,noRefs,SD.Qaa,SD.Qab,SD.Qaf,SD.Qag,SD.Qah,SD.Qai,SD.Qaj,SD.Qal,SD.Qan,SD.Qar,SE.QaA,SE.QaP,SE.Qak,SE.Qao,SE.Qap,SE.Qaq,SO.QaC,SO.QaG,SO.QaT,SO.Qau,SO.Qay,SO.Qbe,SO.Qf1,SU.Qa1,SU.Qa9,SU.QaS,SU.QaW,SU.QbA,Zad,Zae,Zag];done))|exact ZcJ rfl|exact ZcB|exact(True.intro:RnM _ _ _ [] [])|refine ZcC ?_ ?_|(refine Zcm ?_;first|rfl|(simp only[noRef,noRefs,SD.Qaa,SD.Qab,SD.Qaf,SD.Qag,SD.Qah,SD.Qai,SD.Qaj,SD.Qal,SD.Qan,SD.Qar,SE.QaA,SE.QaP,SE.Qak,SE.Qao,SE.Qap,SE.Qaq,SO.QaC,SO.QaG,SO.QaT,SO.Qau,SO.Qay,SO.Qbe,SO.Qf1,SU.Qa1,SU.Qa9,SU.QaS,SU.QaW,SU.QbA,Zad,Zae,Zag];done))|exact Rn.x1 rfl rfl|exact Rn.x2 rfl rfl|exact Rn.x3 rfl rfl|exact Rn.x4 rfl rfl|exact Rn.x5 rfl|exact Rn.x6 rfl|exact Rn.x7 rfl|refine Zcx rfl rfl ?_|refine Zcw rfl rfl rfl ?_ ?_|refine Zcy rfl rfl rfl ?_ ?_|refine Zcz rfl rfl ?_ ?_|refine ZcA rfl rfl ?_ ?_)):p:=h
theorem _root_.Go.AM.au24{p:Prop}(h:p:=by repeat(first|exact Zct|(refine Zcu ?_ ?_;·(first|exact Zcl|exact Rn.x1 rfl rfl|exact Rn.x2 rfl rfl|exact Rn.x3 rfl rfl|exact Rn.x4 rfl rfl|exact Rn.x5 rfl|exact Rn.x6 rfl|exact Rn.x7 rfl|(refine ZcF ?_ ?_;(first|rfl|(rw[ZaE];rfl));(first|rfl|(simp only[noRef,noRefs,SD.Qaa,SD.Qab,SD.Qaf,SD.Qag,SD.Qah,SD.Qai,SD.Qaj,SD.Qal,SD.Qan,SD.Qar,SE.QaA,SE.QaP,SE.Qak,SE.Qao,SE.Qap,SE.Qaq,SO.QaC,SO.QaG,SO.QaT,SO.Qau,SO.Qay,SO.Qbe,SO.Qf1,SU.Qa1,SU.Qa9,SU.QaS,SU.QaW,SU.QbA,Zad,Zae,Zag];done)))|(refine Rn.fn ?_ ?_<;>(repeat'(first|exact ZcB|refine ZcC ?_ ?_|exact Zcm rfl|exact Rn.x6 rfl|exact Rn.x2 rfl rfl|exact Rn.x5 rfl|exact Rn.x1 rfl rfl))))))):p:=h
theorem permitted235(b)(A:List (List Int))(t c)(hA:A.length<=1000)(ht:t.length=A.length)(hc:c.length=A.length)(hm:m<=1000)(hl:b.lo.length=m)(hh:b.hi.length=m)(hel:∀a∈A,a.length=m):Ps 235 [bxV b,liV A,boV t,boV c] (.bool (perB b A t c)):=by
 refine Zcp 64 (Ok VL.s235) rfl (by simp only[noRefs,noRef,Qaa,QaT,QaG];rfl) rfl ?_;unfold VL.s235;refine ZcZ ?_;refine QaE 100 (fun i:Nat=>[(1,liV A),(2,boV t),(3,boV c),(4,.ptr 51 0 0),(9,.int .i64 i)]) (fun _=>[(51,.cells 0 [sli b.lo,sli b.hi])]) (fun i=>i<=A.length/\∀j,j<i->perQ b A t c j=false) (fun i=>A.length-i) 0 ⟨[(51,.blk 64 0)],rfl,au0,au23,au24⟩ ⟨Zah _,fun j hj=>absurd hj (Zay _)⟩ ?_;rintro i⟨hi,hb⟩;by_cases hlt:i<A.length
 ·obtain⟨a,ha⟩:=Qam hlt;obtain⟨p,hp⟩:=Qam (l:=t) (i:=i) (by omega);obtain⟨q,hq⟩:=Qam (l:=c) (i:=i) (by omega);have hlp:i<t.length:=by omega
  have hlq:i<c.length:=by omega
  have hla:=hel a (Zac ha);have hw:=within87 b a (by omega) (by omega) (by omega);have hQ:perQ b A t c i=(q&&(!p&&inB b a)):=by unfold perQ;rw[Qaz ha,Qaz hp,Qaz hq]
  cases q with
  |false=>refine Zc0 (Zc5 hlt hlp hlq (Qcj ha) (Qba hp) (Qba hq)) ?_;exact⟨i+1,by omega,⟨by omega,fun j hj=>by
   by_cases e:j=i;·subst e;rw[hQ];rfl
   ·exact hb j (by omega)⟩,⟨[(51,.blk 51 0)],rfl,au0,au23,au24⟩⟩
  |true=>cases p with|true=>refine Zc0 (Zc5 hlt hlp hlq (Qcj ha) (Qba hp) (Qba hq)) ?_;exact⟨i+1,by omega,⟨by omega,fun j hj=>by
   by_cases e:j=i;·subst e;rw[hQ];rfl
   ·exact hb j (by omega)⟩,⟨[(51,.blk 51 0)],rfl,au0,au23,au24⟩⟩|false=>cases h0:inB b a with|true=>rw[h0]at hw hQ;refine Zc0 (Zc5 hlt hlp hlq (Qcj ha) (Qba hp) (Qba hq)) ?_;refine cp hw ?_;refine ZcZ ?_;exact⟨.inr trivial,_,rfl,by rw[QpU hlt hQ];rfl⟩|false=>rw[h0]at hw hQ;refine Zc0 (Zc5 hlt hlp hlq (Qcj ha) (Qba hp) (Qba hq)) ?_;refine cp hw ?_;refine ZcZ ?_;exact⟨i+1,by omega,⟨by omega,fun j hj=>by
    by_cases e:j=i;·subst e;rw[hQ];rfl
    ·exact hb j (by omega)⟩,⟨[(51,.blk 51 0)],rfl,au0,au23,au24⟩⟩
 ·refine Zc0 hlt ?_;exact⟨.inr trivial,_,rfl,by rw[Qrx fun j hj=>hb j (by omega)];rfl⟩
def cvQ(bs:List Bxn)(lf:List Bool)(k:Int)(t:List Int)(i:Nat):Bool:=!decide ((i:Int)=k)&&(lf.getD i false&&inB (bs.getD i bx0) t)
def cvB(bs:List Bxn)(lf:List Bool)(k:Int)(t:List Int):Bool:=(List.range bs.length).any (cvQ bs lf k t)
theorem Qm5{lf}{k}(hi:i<bs.length)(h:cvQ bs lf k t i=true):cvB bs lf k t=true:=by unfold cvB;exact Zba.2 ⟨i,Zat.2 hi,h⟩
theorem Qle{lf}{k}(h:∀i,i<bs.length->cvQ bs lf k t i=false):cvB bs lf k t=false:=by unfold cvB;exact Zbt.2 fun i hi=>by rw[h i (Zat.1 hi)];decide
theorem covered180(bs:List Bxn)(lf)(k)(t:List Int)(w:bs.length<=1000)(hf:lf.length=bs.length)(v:t.length<=1000)(m:∀b∈bs,b.lo.length=t.length/\b.hi.length=t.length):Ps 180 [bxsV bs,boV lf,.int .i64 k,sli t] (.bool (cvB bs lf k t)):=by
 refine Zcp 64 (Ok VL.s180) rfl (by simp only[noRefs,noRef,Qaa,Qau,QaG];rfl) rfl ?_;unfold VL.s180;refine ZcZ ?_;refine QaE 100 (fun i:Nat=>[(0,bxsV bs),(1,boV lf),(2,.int .i64 k),(3,sli t),(9,.int .i64 i)]) (fun _=>[]) (fun i=>i<=bs.length/\∀j,j<i->cvQ bs lf k t j=false) (fun i=>bs.length-i) 0 ⟨[],rfl,au0,au23,au24⟩ ⟨Zah _,fun j n=>absurd n (Zay _)⟩ ?_;rintro i⟨hi,p⟩;by_cases a:i<bs.length
 ·obtain⟨b,o⟩:=Qam a;obtain⟨q,h⟩:=Qam (l:=lf) (i:=i) (by omega);have c:i<lf.length:=by omega
  have f:=Qfp o;have g:2<=((bs.flatMap bxC).drop (i*2)).length:=by rw[f];simp
  obtain⟨s,u⟩:=m b (Zac o);have hw:=within87 b t s u (by omega);have d:cvQ bs lf k t i=(!decide ((i:Int)=k)&&(q&&inB b t)):=by unfold cvQ;rw[Qaz o,Qaz h]
  have up:cvQ bs lf k t i=false->∀j,j<i+1->cvQ bs lf k t j=false:=fun l j n=>by
   by_cases e:j=i;·subst e;exact l
   exact p j (by omega)
  by_cases hk:(i:Int)=k;·subst hk;rw[decide_eq_true rfl]at d;refine Zc0 (Zc1 a c) ?_;exact⟨i+1,by omega,⟨by omega,up d⟩,⟨[],rfl,au0,au23,au24⟩⟩
  rw[decide_eq_false hk]at d;cases q with|false=>refine Zc0 (Zc3 a c hk (Qba h)) ?_;exact⟨i+1,by omega,⟨by omega,up d⟩,⟨[],rfl,au0,au23,au24⟩⟩|true=>cases l:inB b t with|true=>rw[l]at hw d;refine Zc0 (Zc5 a c hk (Qba h) f g) ?_;refine cp hw ?_;refine ZcZ ?_;exact⟨.inr trivial,_,rfl,by rw[Qm5 a d];rfl⟩|false=>rw[l]at hw d;refine Zc0 (Zc5 a c hk (Qba h) f g) ?_;refine cp hw ?_;refine ZcZ ?_;exact⟨i+1,by omega,⟨by omega,up d⟩,⟨[],rfl,au0,au23,au24⟩⟩
 refine Zc0 a ?_;exact⟨.inr trivial,_,rfl,by rw[Qle fun j n=>p j (by omega)];rfl⟩
end Go.AM.SO
