/- A part of the proof of GuardsOfCardSaid: lemmas on the way (AnCm, AnCu, AnCi, AnCk, AnCl, AnCn, AnCv, AnCw, AnCyc, AnCyd, AnCyb, AnCye, AnCyf, AnCyh, AnCyg, AnCyi, AnCyj, AnCr, AnCzg, AnUb, AnVl, AnVa, AnVb). Conditions: none of ours. -/
import Derived.Test.YtikknocmfjfohaaGreatDoorProg
import Derived.KernelRfl
import Derived.Test.YtikknocmfjfohaaGreatDoorAmO13
theorem Go.AM.bMqsh{p:Prop}(h:p:=by
 refine⟨i+1,by omega,by omega,?_⟩;rw[ev];refine⟨[(50,.blk 50 1),(64,.blk 64 0)],rfl,au0,?_,au16⟩;exact Zcw rfl rfl gg (Zcl (Qdl _ _)) (Zcw rfl rfl gg (Zcl (QaR _)) Zcv)):p:=h
theorem Go.AM.bk7Aq{p:Prop}(h:p:=by
 refine⟨[(50,.blk 50 0),(51,.blk 51 0),(52,.blk 52 0)],rfl,au0,?_,au16⟩;exact Zcw rfl rfl gg (Zcl b) (Zcw rfl rfl gg (Zcl rfl) (Zcw rfl rfl gg (ZcC (Zck rfl) (ZcC (Zck (QaJ _)) (ZcC (Zck (QaJ _)) (ZcC (ZcD rfl rfl rfl rfl (QeP _) (Zcl (Qa8 _))) (Zcl rfl))))) Zcv))):p:=h
theorem Go.AM.bMOt5{p:Prop}(h:p:=by
 refine⟨[(50,.blk 50 0),(51,.blk 51 0)],rfl,au0,?_,au20⟩;exact Zcw rfl rfl gg (Zcl a) (Zcw rfl rfl gg (Zcl b) Zcv)):p:=h
theorem Go.AM.bAnq4{p:Prop}(h:p:=by
 refine⟨i+1,by omega,by omega,?_⟩;refine⟨[(50,.blk 50 0)],rfl,au0,?_,au20⟩;exact Zcw rfl rfl gg (Zcl a) Zcv):p:=h
theorem Go.AM.b05mY{p:Prop}(h:p:=by
 refine Zc1 b ?_;refine⟨(),?_⟩;refine⟨[(50,.blk 50 0)],rfl,au0,?_,au20⟩;exact Zcw rfl rfl gg (Zcl a) Zcv):p:=h
theorem Go.AM.ba7cu{p:Prop}(h:p:=by
 refine⟨[(50,.blk 50 0),(68,.blk 68 0)],rfl,au0,?_,au20⟩;exact Zcw rfl rfl gg (Zcl a) (Zcy rfl rfl gg (RnM.mapS fun _ _=>Zck rfl) Zcv)):p:=h
set_option linter.unusedSectionVars false
set_option maxHeartbeats 32000000
set_option maxRecDepth 100000
set_option linter.unusedVariables false
set_option linter.unusedSimpArgs false
namespace Go.AM.SO
open Go.Proofs Go.AM.SD Go.AM.SE
variable{a:Aut}{es:List Ed}{T al l:List Nat}{i mk n st:Nat}
structure Cel where
 ev:Nat->Evt
 cs:List (Nat×Aut)rs:List (Nat×Aut)xs:List (Nat×List (Nat×Nat))ks:List (List (Nat×Int)×Int)
def itC(ch:UInt8)(x:Nat×Aut):List AV:=[.str [ch,UInt8.ofNat (48+x.1)],sliN x.2.al,.int .i64 (x.2.n:Int),sliN x.2.ms,egsN x.2.es]
def loC(x:Nat×Nat):List AV:=[.int .i64 (x.1:Int),.int .i64 (x.2:Int)]
abbrev los(l:List (Nat×Nat)):AV:=.fsl (l.flatMap loC) l.length 2
def exC(x:Nat×List (Nat×Nat)):List AV:=[.str [101,UInt8.ofNat (48+x.1)],los x.2]
def teC(x:Nat×Int):List AV:=[.int .i64 (x.1:Int),.int .i64 x.2]
abbrev tes(l:List (Nat×Int)):AV:=.fsl (l.flatMap teC) l.length 2
def coC(x:List (Nat×Int)×Int):List AV:=[.str [107],tes x.1,.int .i64 x.2]
abbrev its(ch:UInt8)(l:List (Nat×Aut)):AV:=.fsl (l.flatMap (itC ch)) l.length 5
abbrev exs(l:List (Nat×List (Nat×Nat))):AV:=.fsl (l.flatMap exC) l.length 2
abbrev cos(l:List (List (Nat×Int)×Int)):AV:=.fsl (l.flatMap coC) l.length 3
abbrev celV(c:Cel):AV:=.agg [evsV c.ev,its 99 c.cs,its 114 c.rs,exs c.xs,cos c.ks]
structure WfI(a:Aut):Prop where
 wf:WfA a
 a5:∀x∈a.al,x<5
 pos:0<a.n
 n3:a.n<=3
 can:restr a (fun _=>true)=a
 el:a.es.length<=25
structure WfJ(a:Aut):Prop where
 wf:WfA a
 pos:0<a.n
 n10:a.n<=10
theorem WfI.j(h:WfI a):WfJ a:=⟨h.wf,h.pos,by have:=h.n3;omega⟩
structure WfCel(c:Cel):Prop where
 ev:∀i,i<5->(c.ev i).Ok
 c0:0<c.cs.length
 c3:c.cs.length<=3
 r2:c.rs.length<=2
 x2:c.xs.length<=2
 k1:c.ks.length<=1
 cn:c.cs.map (·.1)=List.range c.cs.length
 rn:c.rs.map (·.1)=List.range c.rs.length
 xn:(c.xs.map (·.1)).Pairwise (·<·)/\∀x∈c.xs,x.1<2
 ca:∀x∈c.cs,WfI x.2
 ra:∀x∈c.rs,WfI x.2
 rsub:∀x∈c.rs,∀e∈x.2.al,∃y∈c.cs,e∈y.2.al
 xl:∀x∈c.xs,x.2≠[]/\(x.2.map (·.1)).Pairwise (·<·)/\∀l∈x.2,∃y,c.cs[l.1]?=some y/\l.2<y.2.n
 kl:∀x∈c.ks,x.1≠[]/\(x.1.map (·.1)).Pairwise (·<·)/\(∀t∈x.1,t.1<c.cs.length/\t.2≠0/\-4<t.2/\t.2<4)/\-8<x.2/\x.2<8
theorem QpY(h:l.Pairwise (·<·)){p q}(a:p<q)(b:q<l.length):l.getD p 0<l.getD q 0:=by grind[Zbf]
theorem partLt{b}:∀x∈SD.part n b,x<n:=fun x a=>(Ql9.1 a).1
theorem Qua(f:al.Pairwise (·<·))(k:∀x∈al,x<5):WfA (gRaw al st mk T):=by
 have o:=QfT (st:=st) (mk:=mk) (T:=T) (QbW f k);have a:=o.esn;have b:=o.n5;unfold gRaw at a b⊢;split;·exact⟨f,fun x d=>by have:=k x d;omega,by simp,by simp,by simp,by simp,by simp,by simp⟩
 rename_i l;rw[if_neg l]at a b;have s:∀i,∀e∈gRow al (1+st%5) T i al.length,e.1=i/\∃j,j<al.length/\e.2.1=al.getD j 0:=fun i e he=>by unfold gRow at he;obtain⟨j,u,hm⟩:=ZbP.1 he;unfold gEd at hm;grind
 refine⟨f,fun x d=>by have:=k x d;omega,by dsimp only at b⊢;omega,QdT _ _,partLt,?_,a,fun e he=>?_⟩
 ·show(gPre _ _ _ _).Pairwise _;unfold gPre;refine QcV (fun i _=>?_) (List.pairwise_lt_range.imp fun r x d y n=>.inl ?_)
  ·unfold gRow;refine List.Pairwise.filterMap _ (R:=fun j m=>j<m/\m<al.length) ?_ (List.pairwise_lt_range.imp_of_mem fun _ t h=>⟨h,Zat.1 t⟩);rintro x y⟨g,n⟩p hp q c;unfold gEd at hp c;split at hp
   ·split at c;·cases hp;cases c;exact .inr ⟨rfl,QpY f g n⟩
    cases c
   cases hp
  grind
 grind[gPre]
theorem Qub(b:al.Pairwise (·<·))(a:∀x∈al,x<5):restr (mkA al st mk T) (fun _=>true)=mkA al st mk T:=by have h:=Qua (st:=st) (mk:=mk) (T:=T) b a;show restr (canon _) _=canon _;grind[Qoa,Qn4]
theorem Qm9{es}{s}:∀{L:List Nat}{out:List Nat},out.length<=(L.foldl (fEv es s) out).length|[],out=>Zau _|e::L,out=>by rw[ZaR];refine ZaA ?_ (Qm9 (L:=L));grind[fEv]
theorem Qru:∀(k i:Nat)(out:List Nat),out.length<=(fQ al es k i out).length
 |0,_,_=>Zau _|k+1,i,out=>by
  unfold fQ;split;·exact ZaA Qm9 (Qru k (i+1) _)
  omega
theorem Qo1(b:al.Pairwise (·<·))(a:∀x∈al,x<5)(k:st<3):WfI (mkA al st mk T):=by
 have d:=QfT (st:=st) (mk:=mk) (T:=T) (QbW b a);have e:gRaw al st mk T=⟨al,1+st%5,SD.part (1+st%5) mk,gPre al (1+st%5) T (1+st%5)⟩:=if_neg (by omega);have c:(gRaw al st mk T).n<=3:=by grind
 have hf:(found (gRaw al st mk T)).length<=(gRaw al st mk T).n:=Qa4 _ _ (QfI d.esn).1.nd (QfI d.esn).1.lt;have h1:=Qij (gRaw al st mk T) (found (gRaw al st mk T)) (found (gRaw al st mk T)).length;refine⟨Qva b a,fun x f=>a x (by rwa[show(mkA al st mk T).al=al from by show(gRaw al st mk T).al=al;rw[e]]at f),?_,ZaA hf c,Qub b a,?_⟩
 ·show 0<(found (gRaw al st mk T)).length;have g:0<(gRaw al st mk T).n:=by grind
  unfold found;rw[if_pos g];exact Za0 (by simp) (Qru _ _ _)
 have i:(mkA al st mk T).es.length=(cPre (gRaw al st mk T) (found (gRaw al st mk T)) (found (gRaw al st mk T)).length).length:=rfl;rw[i];have h:(gRaw al st mk T).al.length<=5:=by simp_all[QbW]
 refine ZaA h1 (ZaA (Nat.mul_le_mul (ZaA hf c) h) (by decide))
structure Pln where
 L:List Nat
 X:List Nat
 xn:Nat
 f0:Int
 f1:Int
 f2:Int
 bd:Int
structure POk(p:Pln):Prop where
 L:p.L.length=147
 L8:∀x∈p.L,x<256
 X:p.X.length=p.xn*4
 X8:∀x∈p.X,x<256
 f0:-128<=p.f0/\p.f0<128
 f1:-128<=p.f1/\p.f1<128
 f2:-128<=p.f2/\p.f2<128
 bd:-128<=p.bd/\p.bd<128
abbrev plnC(p:Pln):List AV:=u8s p.L++[.fsl (u8s p.X) p.xn 4,.int .i8 p.f0,.int .i8 p.f1,.int .i8 p.f2,.int .i8 p.bd]
abbrev plnV(p:Pln):AV:=.agg (plnC p)
variable(p:Pln)
def pN:Nat:=1+p.L.getD 5 0%3
def pM:Nat:=p.L.getD 90 0%3
def pA(i:Nat):Aut:=mkA (SD.part 5 (p.L.getD (6+i) 0)) (p.L.getD (9+i*27) 0%3) (p.L.getD (9+i*27+1) 0) ((p.L.drop (9+i*27+2)).take 25)
def pAll:Nat->Nat|0=>0|i+1=>pAll i|||p.L.getD (6+i) 0%32
def pW(i:Nat):List Nat:=(SD.part 5 (p.L.getD (91+i) 0)).filter fun x=>(pAll p (pN p)).testBit x
def pR(i:Nat):Aut:=mkA (pW p i) (p.L.getD (93+i*27) 0%3) (p.L.getD (93+i*27+1) 0) ((p.L.drop (93+i*27+2)).take 25)
def pCs(n:Nat):List (Nat×Aut):=(List.range n).map fun i=>(i,pA p i)
def pRs(n:Nat):List (Nat×Aut):=(List.range n).map fun i=>(i,pR p i)
def pLo(i:Nat):Nat->List (Nat×Nat)|0=>[]|k+1=>if p.X.getD (i*4+k) 0%((pA p k).n+2)<(pA p k).n then pLo i k++[(k,p.X.getD (i*4+k) 0%((pA p k).n+2))]else pLo i k
def pXs:Nat->List (Nat×List (Nat×Nat))|0=>[]|i+1=>if 0<(pLo p i (pN p)).length then pXs i++[(i,pLo p i (pN p))]else pXs i
def pF(i:Nat):Int:=if i=0 then p.f0 else if i=1 then p.f1 else p.f2
def pT:Nat->List (Nat×Int)|0=>[]|i+1=>if pF p i=0 then pT i else pT i++[(i,(pF p i).tmod 4)]
def pT0:List (Nat×Int):=(pT p (pN p)).filter fun t=>!(decide (t.2=0))
def pKs:List (List (Nat×Int)×Int):=if 0<(pT0 p).length then[(pT0 p,p.bd.tmod 8)]else[]
def mkC:Cel:=⟨fun i=>evOf ((p.L.take 5).getD i 0),pCs p (pN p),pRs p (pM p),pXs p (min p.xn 2),pKs p⟩
variable{p}
theorem pN_le:1<=pN p/\pN p<=3:=by unfold pN;omega
theorem pM_le:pM p<=2:=by unfold pM;omega
theorem Qlm(i):(pW p i).Pairwise (·<·):=(QdT _ _).filter _
theorem pW_lt(i):∀x∈pW p i,x<5:=fun x a=>partLt x (Zbi.1 a).1
theorem pA_wf(i):WfI (pA p i):=Qo1 (QdT _ _) partLt (by omega)
theorem pR_wf(i):WfI (pR p i):=Qo1 (Qlm i) (pW_lt i) (by omega)
theorem Qrv:(mkA al st mk T).al=al:=by show(gRaw al st mk T).al=al;grind[gRaw]
theorem Qjh:∀{n:Nat},∀x∈pLo p i n,x.1<n/\x.2<(pA p x.1).n
 |0,x,h=>by cases h|n+1,x,h=>by
  unfold pLo at h;split at h
  ·rename_i hc;rcases ZaE.1 h with h|h;·have:=Qjh x h;omega
   simp_all
  have:=Qjh x h;omega
theorem QfV:∀{n:Nat},((pLo p i n).map (·.1)).Pairwise (·<·)
 |0=>by simp[pLo]|n+1=>by
  unfold pLo;split;·rw[ZaI,Zbb];refine⟨QfV,by simp,fun x c y a=>?_⟩;simp at a;subst a;obtain⟨z,b,rfl⟩:=Zap.1 c;exact(Qjh z b).1
  exact QfV
theorem QgN:∀{n:Nat},∀x∈pXs p n,x.1<n/\x.2=pLo p x.1 (pN p)/\x.2≠[]
 |0,x,h=>by cases h|n+1,x,h=>by
  unfold pXs at h;split at h
  ·rename_i hc;rcases ZaE.1 h with h|h;·have:=QgN x h;grind
   grind
  have:=QgN x h;grind
theorem QfW:∀{n:Nat},((pXs p n).map (·.1)).Pairwise (·<·)
 |0=>by simp[pXs]|n+1=>by
  unfold pXs;split;·rw[ZaI,Zbb];refine⟨QfW,by simp,fun x c y a=>?_⟩;simp at a;subst a;obtain⟨z,b,rfl⟩:=Zap.1 c;exact(QgN z b).1
  exact QfW
theorem QjS:∀{n:Nat},(pXs p n).length<=n|0=>by simp[pXs]|n+1=>by have:=@QjS n;grind[pXs]
theorem QjT{i}:∀{n:Nat},(pLo p i n).length<=n|0=>by simp[pLo]|n+1=>by have:=@QjT i n;grind[pLo]
theorem Qna:∀{n:Nat},(pT p n).length<=n|0=>by simp[pT]|n+1=>by have:=@Qna n;grind[pT]
theorem pT_lt:∀{n:Nat},∀x∈pT p n,x.1<n/\-4<x.2/\x.2<4
 |0,x,h=>by cases h|n+1,x,h=>by
  unfold pT at h;split at h;·have:=pT_lt x h;omega
  rcases ZaE.1 h with h|h;·have:=pT_lt x h;omega
  grind
theorem QgO:∀{n:Nat},((pT p n).map (·.1)).Pairwise (·<·)
 |0=>by simp[pT]|n+1=>by
  unfold pT;split;·exact QgO
  rw[ZaI,Zbb];refine⟨QgO,by simp,fun x c y a=>?_⟩;simp at a;subst a;obtain⟨z,b,rfl⟩:=Zap.1 c;exact(pT_lt z b).1
theorem Qnb{e}:∀{n:Nat},(pAll p n).testBit e=true->e<5->∃i,i<n/\(p.L.getD (6+i) 0).testBit e=true
 |0,h,_=>by simp[pAll]at h|n+1,h,a=>by
  unfold pAll at h;rw[Nat.testBit_or,Zbh]at h;rcases h with h|h;·obtain⟨i,hi,h⟩:=Qnb h a;grind
  rw[show 32=2^5 from rfl,Nat.testBit_mod_two_pow]at h;grind
theorem Qrw(h:i<n):(pCs p n)[i]?=some (i,pA p i):=by simp_all[pCs]
theorem Qvg:WfCel (mkC p):=by
 have h1:=@pN_le p;have r:=@pM_le p;have hc:(pCs p (pN p)).length=pN p:=by simp[pCs]
 have s:(pRs p (pM p)).length=pM p:=by simp[pRs]
 have a:=@QjS p (min p.xn 2);refine⟨fun i _=>Qt9 _,?_,?_,?_,?_,?_,?_,?_,⟨QfW,fun x a=>?_⟩,fun x a=>?_,fun x a=>?_,fun x a e he=>?_,fun x a=>?_,fun x a=>?_⟩;·show 0<(pCs p (pN p)).length;omega
 ·show(pCs p (pN p)).length<=3;omega
 ·show(pRs p (pM p)).length<=2;omega
 ·show(pXs p _).length<=2;omega
 ·show(pKs p).length<=1;grind[pKs]
 ·show(pCs p (pN p)).map (·.1)=List.range (pCs p (pN p)).length;simp_all[pCs,Function.comp_def]
 ·show(pRs p (pM p)).map (·.1)=List.range (pRs p (pM p)).length;simp_all[pRs,Function.comp_def]
 ·have:=(QgN x a).1;omega
 ·obtain⟨i,_,rfl⟩:=Zap.1 (show x∈pCs p (pN p)from a);exact pA_wf i
 ·obtain⟨i,_,rfl⟩:=Zap.1 (show x∈pRs p (pM p)from a);exact pR_wf i
 ·obtain⟨i,_,rfl⟩:=Zap.1 (show x∈pRs p (pM p)from a);dsimp only at he;rw[show(pR p i).al=pW p i from Qrv]at he;obtain⟨c,d⟩:=Zbi.1 he;obtain⟨j,n,d⟩:=Qnb d (partLt e c);refine⟨(j,pA p j),Zap.2 ⟨j,Zat.2 n,rfl⟩,?_⟩;simp_all[pA,Qrv,Ql9]
 ·obtain⟨_,g,c⟩:=QgN x a;refine⟨c,by grind[QfV],fun l f=>?_⟩;rw[g]at f;obtain⟨h,o⟩:=Qjh l f;exact⟨_,Qrw h,o⟩
 have b:x∈pKs p:=a;unfold pKs at b;split at b
 ·rename_i m;simp at b;subst b;refine⟨List.ne_nil_of_length_pos m,?_,fun t k=>?_,?_,?_⟩;·exact(QgO (n:=pN p)).sublist (List.Sublist.map _ (List.filter_sublist))
  ·obtain⟨q,g⟩:=Zbi.1 (show t∈pT0 p from k);have c:=pT_lt t q;simp_all[mkC]
  ·grind
  grind
 cases b
end Go.AM.SO
namespace Go.AM.SU
open Go.Proofs Go.AM.SD Go.AM.SE Go.AM.SO
variable{l:List (Nat×Int)}{i k:Nat}{v x:Nat×Int}
theorem QaX(l:List (Nat×Int)):noRefs (l.flatMap teC)=true:=Qa5 (fun _=>rfl) l
theorem Qdk(l:List (Nat×Int)):(l.flatMap teC).length=l.length*2:=Qbe (k:=2) (fun _=>rfl) l
theorem QdL(h:l[i]?=some x):(l.flatMap teC).drop (i*2)=.int .i64 (x.1:Int)::.int .i64 x.2::(l.drop (i+1)).flatMap teC:=Qba (f:=teC) (k:=2) (fun _=>rfl) h
theorem Qrx{x}:∀{l:List (Nat×Int)}{i:Nat},i<l.length->(l.flatMap teC).take (i*2)++[.int .i64 (x.1:Int),.int .i64 x.2]++(l.flatMap teC).drop (i*2+2)=(l.set i x).flatMap teC|[],i,h=>by simp at h|a::l,0,h=>by simp[Zay,teC]|a::l,i+1,h=>by have:=Qrx (x:=x) (l:=l) (i:=i) (by simpa using h);rw[List.set_cons_succ,Zay,Zay,<-this];rw[show(i+1)*2=i*2+2 by omega];simp[teC]
abbrev teV(x:Nat×Int):AV:=.agg [.int .i64 (x.1:Int),.int .i64 x.2]
theorem zero94(x):Ps 97 [teV x] (.bool (decide (x.2=0))):=by refine Zcn 64 (Ok s97) rfl rfl rfl ?_;unfold s97;refine ZcU ?_;exact⟨.inr trivial,_,rfl,rfl⟩
def fst0(l:List (Nat×Int)):Int:=if l.all (fun x=>!decide (x.2=0))then-1 else(l.findIdx (fun x=>decide (x.2=0)):Int)
theorem _root_.Go.AM.au15{p:Prop}(h:p:=by repeat'(first|exact Zcv|(refine Zcl ?_;first|rfl|(simp only[noRef,noRefs,SD.Qaa,SD.Qab,SD.Qaf,SD.Qag,SD.Qah,SD.Qai,SD.Qaj,SD.Qal,SD.Qan,SD.Qaq,SE.QaR,SE.Qam,SE.Qao,SE.Qap,SE.Qav,SE.Qaz,SO.QaO,SO.Qau,SO.Qay,SU.QaX,Zad,Zae,Zag];done))|exact ZcJ rfl|exact ZcB|exact(True.intro:RnM _ _ _ [] [])|refine ZcC ?_ ?_|(refine Zck ?_;first|rfl|(simp only[noRef,noRefs,SD.Qaa,SD.Qab,SD.Qaf,SD.Qag,SD.Qah,SD.Qai,SD.Qaj,SD.Qal,SD.Qan,SD.Qaq,SE.QaR,SE.Qam,SE.Qao,SE.Qap,SE.Qav,SE.Qaz,SO.QaO,SO.Qau,SO.Qay,SU.QaX,Zad,Zae,Zag];done))|exact Rn.x1 rfl rfl|exact Rn.x2 rfl rfl|exact Rn.x3 rfl rfl|exact Rn.x4 rfl rfl|exact Rn.x5 rfl|exact Rn.x6 rfl|exact Rn.x7 rfl|refine Zcx rfl rfl ?_|refine Zcw rfl rfl rfl ?_ ?_|refine Zcy rfl rfl rfl ?_ ?_|refine Zcz rfl rfl ?_ ?_|refine ZcA rfl rfl ?_ ?_)):p:=h
theorem _root_.Go.AM.au16{p:Prop}(h:p:=by repeat(first|exact Zct|(refine Zcu ?_ ?_;·(first|exact Zcj|exact Rn.x1 rfl rfl|exact Rn.x2 rfl rfl|exact Rn.x3 rfl rfl|exact Rn.x4 rfl rfl|exact Rn.x5 rfl|exact Rn.x6 rfl|exact Rn.x7 rfl|(refine ZcF ?_ ?_;(first|rfl|(rw[ZaG];rfl));(first|rfl|(simp only[noRef,noRefs,SD.Qaa,SD.Qab,SD.Qaf,SD.Qag,SD.Qah,SD.Qai,SD.Qaj,SD.Qal,SD.Qan,SD.Qaq,SE.QaR,SE.Qam,SE.Qao,SE.Qap,SE.Qav,SE.Qaz,SO.QaO,SO.Qau,SO.Qay,SU.QaX,Zad,Zae,Zag];done)))|(refine Rn.fn ?_ ?_<;>(repeat'(first|exact ZcB|refine ZcC ?_ ?_|exact Zck rfl|exact Rn.x6 rfl|exact Rn.x2 rfl rfl|exact Rn.x5 rfl|exact Rn.x1 rfl rfl))))))):p:=h
theorem index186(l)(p:l.length<=1000000):Ps 153 [tes l,.fn 97 [] []] (.int .i64 (fst0 l)):=by
 refine Zcn 64 (Ok s153) rfl (by simp only[noRefs,noRef,QaX];rfl) rfl ?_;have o:=Qdk l;unfold s153;refine ZcU ?_;refine QaC 100 (fun i:Nat=>[(0,tes l),(1,.fn 97 [] []),(7,.int .i64 l.length),(8,.int .i64 i)]) (fun _=>[]) (fun i=>i<=l.length/\∀(j:Nat)y,j<i->l[j]?=some y->y.2≠0) (fun i=>l.length-i) 0 ⟨[],rfl,au0,au15,au16⟩ ⟨Zai _,fun j y c=>absurd c (ZaD _)⟩ ?_;rintro i⟨hi,k⟩;by_cases a:i<l.length
 ·obtain⟨x,b⟩:=Qak a;have f:=zero94 x;by_cases d:x.2=0
  ·have e:decide (x.2=0)=true:=by simp[d]
   rw[e]at f;refine ZcV (Zc2 a (QdL b)) ?_;refine cpc f ?_;refine ZcU ?_;refine⟨.inr trivial,_,rfl,?_⟩;have h1:¬l.all (fun x=>!decide (x.2=0))=true:=by intro h;have:=ZaH.1 h x (Zac b);simp[d]at this
   have n:l.findIdx (fun x=>decide (x.2=0))=i:=by rw[Zcc a];refine⟨by rw[Zak a]at b;cases b;simp[d],fun j c=>?_⟩;have:=k j l[j] c (Zak (by omega));simpa using this
   unfold fst0;rw[if_neg h1,n];rfl
  have e:decide (x.2=0)=false:=by simp[d]
  rw[e]at f;refine ZcV (Zc2 a (QdL b)) ?_;refine cpc f ?_;refine ZcU ?_;refine⟨i+1,by omega,⟨by omega,fun j y c g=>?_⟩,⟨[],rfl,au0,au15,au16⟩⟩;by_cases e:j=i;·subst e;rw[b]at g;cases g;exact d
  exact k j y (by omega) g
 have h1:l.all (fun x=>!decide (x.2=0))=true:=by rw[ZaH];intro x b;obtain⟨j,c,m⟩:=Za4 b;simpa using k j x (by omega) (by rw[Zak c,m])
 refine ZcV a ?_;refine⟨.inr trivial,_,rfl,?_⟩;unfold fst0;rw[if_pos h1];rfl
def flt0(l:List (Nat×Int)):List (Nat×Int):=l.filter fun t=>!(decide (t.2=0))
theorem Qln{j}(h:l[j]?=some v):flt0 (l.take (j+1))=if v.2=0 then flt0 (l.take j)else flt0 (l.take j)++[v]:=by unfold flt0;rw[ZaZ,h,Option.toList,Zbm];by_cases a:v.2=0<;>simp[a]
def delT(l:List (Nat×Int)):List (Nat×Int):=flt0 l++List.replicate (l.length-(flt0 l).length) (0,0)
theorem Qs3(h:l.all (fun x=>!decide (x.2=0))=true):flt0 l=l:=by unfold flt0;exact ZbK.2 fun x a=>ZaH.1 h x a
theorem Qry:(List.replicate k [AV.int .i64 0,AV.int .i64 0]).flatten=(List.replicate k ((0,0):Nat×Int)).flatMap teC:=by induction k with|zero=>rfl|succ k a=>rw[ZaY,Zbp,a];rfl
theorem QjU:∀{l:List (Nat×Int)}{i:Nat},(l.flatMap teC).take (i*2)=(l.take i).flatMap teC|[],i=>by simp|a::l,0=>by simp|a::l,i+1=>by rw[Zay,Za2,Zay,<-QjU,Zbg];simp[teC]
theorem del93(l)(L:l.length<=1000000):HSpec Tryz.prog 96 [.sl 97 0 0 l.length 2,.fn 97 [] []] (hp [(97,.cells 0 (l.flatMap teC))]) (.sl 97 0 0 (flt0 l).length 2) (hp [(97,.cells 0 ((delT l).flatMap teC))]):=by
 refine HSpec.Qg5 (m:=98) 100 (Ok s96) rfl rfl ?_;have I:=Qdk l;unfold s96;refine ZcU ?_;refine chc (ZcI (ZcL (FrzTo.all gg I) (ZcL (Zcq _) ZcK)) (index186 l L) rfl) ?_;by_cases a:l.all (fun x=>!decide (x.2=0))=true;·have s:fst0 l=-1:=if_pos a;refine ZcV s ?_;refine⟨.inr trivial,_,rfl,?_⟩;unfold delT;rw[Qs3 a,ZbL,List.replicate_zero,Zas];exact⟨[(97,.nil)],rfl,au0,au15,au16⟩
 have s:fst0 l=(l.findIdx (fun x=>decide (x.2=0)):Int):=if_neg a;have hex:∃x∈l,decide (x.2=0)=true:=by have:¬∀x∈l,(!decide (x.2=0))=true:=fun h=>a (ZaH.2 h);obtain⟨x,p⟩:=Classical.not_forall.1 this;obtain⟨p,J⟩:=Classical.not_imp.1 p;exact⟨x,p,by simpa using J⟩
 have k:l.findIdx (fun x=>decide (x.2=0))<l.length:=Zbo hex;obtain⟨i0,y⟩:∃i0,i0=l.findIdx (fun x=>decide (x.2=0)):=⟨_,rfl⟩;rw[<-y]at s k;have G:(l[i0]).2=0:=by have:=List.findIdx_getElem (w:=by rw[<-y];exact k) (xs:=l) (p:=fun x=>decide (x.2=0));simp only[<-y]at this;simpa using this
 have o:flt0 (l.take i0)=l.take i0:=by unfold flt0;refine ZbK.2 fun x p=>?_;obtain⟨j,B,rfl⟩:=Za4 p;rw[Zaq]at B;have:=List.not_of_lt_findIdx (xs:=l) (p:=fun x=>decide (x.2=0)) (i:=j) (by rw[<-y];omega);rw[List.getElem_take];simpa using this
 have z:flt0 (l.take (i0+1))=l.take i0:=by rw[Qln (Zak k),if_pos G,o]
 have A:¬(i0:Int)=-1:=by omega
 refine ZcV (Zc2 s A) ?_;refine QaC 110 (fun t:Nat×Nat×List (Nat×Int)=>[(0,.sl 97 0 0 l.length 2),(1,.fn 97 [] []),(5,.int .i64 t.2.1),(6,.int .i64 t.1)]) (fun t=>[(97,.cells 0 (t.2.2.flatMap teC))]) (fun t=>t.1<=l.length/\t.2.1<t.1/\t.2.2.length=l.length/\t.2.2.take t.2.1=flt0 (l.take t.1)/\t.2.2.drop t.1=l.drop t.1) (fun t=>l.length-t.1) (i0+1,i0,l) ⟨[(97,.nil)],rfl,au0,au15,au16⟩ ⟨by dsimp only;omega,by dsimp only;omega,rfl,z.symm,rfl⟩ ?_;rintro⟨j,i,C⟩⟨B,E,f,m,w⟩;dsimp only at B E f m w⊢;have b:=Qdk C;by_cases d:j<l.length
 ·obtain⟨v,H⟩:=Qak d;have r:C[j]?=some v:=by
   have:(C.drop j)[0]?=(l.drop j)[0]?:=by rw[w]
   simpa[H]using this
  have u:=Qln H;have g:=zero94 v;have g1:j*2+2<=l.length*2:=by omega
  have g2:i*2+2<=l.length*2:=by omega
  by_cases hm:v.2=0
  ·have F:decide (v.2=0)=true:=by simp[hm]
   rw[F]at g;rw[if_pos hm]at u;refine ZcV (Zc5 d f b g1 (QdL r)) ?_;refine chc (g.toH _) ?_;refine ZcU ?_;refine⟨(j+1,i,C),by dsimp only;omega,⟨by dsimp only;omega,by dsimp only;omega,f,by rw[u];exact m,?_⟩,?_⟩;·dsimp only;have:=congrArg (List.drop 1) w;simpa[ZaT]using this
   exact⟨[(97,.nil)],rfl,au0,au15,au16⟩
  have F:decide (v.2=0)=false:=by simp[hm]
  rw[F]at g;rw[if_neg hm]at u;refine ZcV (Zc5 d f b g1 (QdL r)) ?_;refine chc (g.toH _) ?_;have c:i<l.length:=by omega
  refine ZcV (Zc5 c f b g2 (Qrx (l:=C) (i:=i) (x:=v) (by omega))) ?_;refine⟨(j+1,i+1,C.set i v),by dsimp only;omega,⟨by dsimp only;omega,by dsimp only;omega,by simp[f],?_,?_⟩,?_⟩;·dsimp only;rw[u,<-m,ZaZ,Zbu (by omega),List.take_set,List.set_eq_of_length_le (by rw[Zaq];omega)];rfl
  ·dsimp only;rw[List.drop_set_of_lt (by omega)];have:=congrArg (List.drop 1) w;simpa[ZaT]using this
  exact⟨[(97,.nil)],rfl,au0,au15,au16⟩
 have K:j=l.length:=by omega
 subst K;rw[Zan]at m;have c:(i:Int)<=(l.length:Int):=by omega
 refine ZcV (Zc2 d c) ?_;refine QmY gg (by omega) (by rw[b,f];omega) rfl (by decide) (by decide) ?_;refine ZcV c ?_;refine⟨.inr trivial,_,rfl,?_⟩;have n:(flt0 l).length=i:=by rw[<-m,Zaq];omega
 have q:putR (C.flatMap teC) (i*2) (List.replicate (l.length-i) [AV.int .i64 0,AV.int .i64 0]).flatten=(delT l).flatMap teC:=by rw[Qdu (by rw[b,f];omega),Qry,QjU,m];unfold delT;rw[n,Zao,List.drop_of_length_le (by rw[b,f,Qdk,Zbe];omega),Zas]
 rw[n,q];exact⟨[(97,.nil)],rfl,au0,au15,au16⟩
end Go.AM.SU
namespace Go.AM.SO
open Go.Proofs Go.AM.SD Go.AM.SE
theorem convB1{P}{N}{d}{r}{dead}{fs}{n}{T}{h}{Q}{b g x:Nat}(a:h.get b=some (.cells g [.int .u8 (x:Int)]))(hk:wR P N r dead fs (n+1) (putD T d (.str [UInt8.ofNat x])) h Q):wM P N (aConvB (.sl b g 0 1 1)) d r dead fs n T h Q:=by
 refine⟨_,h,?_,hk⟩;have c:Nat.beq g g=true:=by simp
 simp[aConvB,aSrc,HM.cells,HM.run,a,c,bytesOf]
theorem Qdl(F)(i):noRefs (evP F i)=true:=by unfold evP;exact Qa5 (fun j=>rfl) _
theorem events88(F)(r:F.length=5)(d:∀i,F.getD i 0<256):Ps 89 [.agg (u8s F)] (.fsl (evP F 5) 5 5):=by
 refine Zcm 64 (Ok s89) rfl (by simp only[noRefs,noRef,QaR];rfl) (by simp only[noRef];exact Qdl _ _) ?_;unfold s89;refine Zc0 ?_;refine QaC 100 (fun i:Nat=>[(1,.ptr 64 0 0),(3,.sl 50 0 0 i 5),(4,.int .i64 i)]) (fun i=>[(50,.cells 0 (evP F i)),(64,.cells 0 (u8s F))]) (fun i=>i<=5) (fun i=>5-i) 0 ⟨[(50,.nil),(64,.blk 64 0)],rfl,au0,?_,au16⟩ (Zai _) ?_;·exact Zcx rfl rfl (Zcw rfl rfl rfl (Zcl (QaR _)) Zcv)
 rintro i hi;by_cases o:i<5
 ·have a:(i:Int)<5:=by omega
  have hu:(u8s F)[i]?=some (.int .u8 ((F.getD i 0:Nat):Int)):=Qjc (by rw[Zak (by omega)];simp[List.getD,Zak (show i<F.length by omega)]);have g:=d i;have k:=@Qm8 F i;have h:=@QjR F i;generalize F.getD i 0=b at hu g k;have l:wr .u8 ((97:Int)+(i:Int))=((97+i:Nat):Int):=by rw[wr_u8 (by omega) (by omega)];omega
  refine Zc1 (Zc5 a hu h l @QsF) ?_;refine convB1 gg ?_;have s:((97+i:Nat):Int)=((97+i:Nat):Int):=rfl;by_cases f:48<=b/\b<52
  ·have p:(48:Int)<=(b:Int):=by omega
   have c:(b:Int)<52:=by omega
   have m:(b:Int)-47=((b-47:Nat):Int):=by omega
   have ev:evP F i++[.str [UInt8.ofNat (97+i)],.bool false,.bool false,.bool false,.int .i64 ((b-47:Nat):Int)]=evP F (i+1):=by rw[k];simp[evC,evOf,f]
   refine Zc1 (Zc6 a hu h p c m) ?_;exact bMqsh
  have ev:evP F i++[.str [UInt8.ofNat (97+i)],.bool (decide (b&&&1=1)),.bool (decide (b&&&2=2)),.bool (decide (b&&&4=4)),.int .i64 0]=evP F (i+1):=by rw[k];simp[evC,evOf,f]
  have d1:decide (((b&&&1:Nat):Int)=1)=decide (b&&&1=1):=decide_eq_decide.2 (by omega);have d2:decide (((b&&&2:Nat):Int)=2)=decide (b&&&2=2):=decide_eq_decide.2 (by omega);have d4:decide (((b&&&4:Nat):Int)=4)=decide (b&&&4=4):=decide_eq_decide.2 (by omega);have n:=Qrr g;have a2:=Qrs g;have a4:=Qrt g;by_cases q:48<=b
  ·have c:(48:Int)<=(b:Int):=by omega
   have m:¬(b:Int)<52:=by omega
   refine Zc1 (Zdb a hu h c m n a2 a4 d1 d2 d4) ?_;exact bMqsh
  have c:¬(48:Int)<=(b:Int):=by omega
  refine Zc1 (Zda a hu h c n a2 a4 d1 d2 d4) ?_;exact bMqsh
 have a:¬(i:Int)<5:=by omega
 have e:i=5:=by omega
 subst e;refine Zc1 a ?_;refine⟨.inr trivial,_,rfl,?_⟩;exact ZcE rfl QjR (Zcl (Qdl _ _))
end Go.AM.SO
namespace Go.AM.ST
open Go.Proofs Go.AM.SD
variable{v:AV}{a b:Nat}
noncomputable section
def bitsL(s:Nat):List Nat:=(List.range 5).filter fun i=>s.testBit i
def isV(v:AV)(u:AV):Bool:=eqAV u v
theorem Qrz:∀u,isV v u=true->u=v:=fun u h=>QdA _ _ h
def unionB(a b:Nat):Bool:=callR ansB noOrc SK.ft.get (exR ansB noOrc SK.ft.get 1000) (.c .pure) 91 [sliN (bitsL a),sliN (bitsL b)] .e 64 (fun u _ _=>isV (sliN (bitsL (a|||b))) u)
theorem Qs4(h:unionB a b=true):Ps 91 [sliN (bitsL a),sliN (bitsL b)] (sliN (bitsL (a|||b))):=Qb7 (t:=SK.ft) SK.ft_ok QdH (d:=1000) (isV _) Qrz h
end
noncomputable section
def rowB(a n:Nat):Bool:=@Nat.rec (fun _=>Bool) true (fun b c=>ifB (unionB a b) c false) n
theorem row_1:rowB 1 32=true:=by kernel_rfl
theorem row_2:rowB 2 32=true:=by kernel_rfl
theorem row_3:rowB 3 32=true:=by kernel_rfl
theorem row_4:rowB 4 32=true:=by kernel_rfl
theorem row_5:rowB 5 32=true:=by kernel_rfl
theorem row_6:rowB 6 32=true:=by kernel_rfl
theorem row_7:rowB 7 32=true:=by kernel_rfl
theorem row_8:rowB 8 32=true:=by kernel_rfl
theorem row_9:rowB 9 32=true:=by kernel_rfl
theorem Qvh:rowB 10 32=true:=by kernel_rfl
theorem Qvi:rowB 11 32=true:=by kernel_rfl
theorem Qvj:rowB 12 32=true:=by kernel_rfl
theorem Qvk:rowB 13 32=true:=by kernel_rfl
theorem Qvl:rowB 14 32=true:=by kernel_rfl
theorem Qvm:rowB 15 32=true:=by kernel_rfl
theorem Qvn:rowB 16 32=true:=by kernel_rfl
theorem Qvo:rowB 17 32=true:=by kernel_rfl
theorem Qvp:rowB 18 32=true:=by kernel_rfl
theorem Qvq:rowB 19 32=true:=by kernel_rfl
theorem Qvr:rowB 20 32=true:=by kernel_rfl
theorem Qvs:rowB 21 32=true:=by kernel_rfl
theorem Qvt:rowB 22 32=true:=by kernel_rfl
theorem Qvu:rowB 23 32=true:=by kernel_rfl
theorem Qvv:rowB 24 32=true:=by kernel_rfl
theorem Qvw:rowB 25 32=true:=by kernel_rfl
theorem Qvx:rowB 26 32=true:=by kernel_rfl
theorem Qvy:rowB 27 32=true:=by kernel_rfl
theorem Qvz:rowB 28 32=true:=by kernel_rfl
theorem QvA:rowB 29 32=true:=by kernel_rfl
theorem QvB:rowB 30 32=true:=by kernel_rfl
theorem QvC:rowB 31 32=true:=by kernel_rfl
theorem QrA:∀{n b:Nat},rowB a n=true->b<n->unionB a b=true
 |0,_,_,h=>absurd h (ZaD _)|n+1,b,c,d=>by
  have e:rowB a (n+1)=ifB (unionB a n) (rowB a n) false:=rfl;rw[e,QaM]at c;split at c
  ·rename_i h;rcases Nat.lt_succ_iff_lt_or_eq.1 d with h1|rfl;·exact QrA c h1
   exact h
  cases c
theorem QpZ(f:0<a)(c:a<32)(d:b<32):Ps 91 [sliN (bitsL a),sliN (bitsL b)] (sliN (bitsL (a|||b))):=by
 have h:rowB a 32=true:=by
  have:a=1\/a=2\/a=3\/a=4\/a=5\/a=6\/a=7\/a=8\/a=9\/a=10\/a=11\/a=12\/a=13\/a=14\/a=15\/a=16\/a=17\/a=18\/a=19\/a=20\/a=21\/a=22\/a=23\/a=24\/a=25\/a=26\/a=27\/a=28\/a=29\/a=30\/a=31:=by omega
  rcases this with rfl|rfl|rfl|rfl|rfl|rfl|rfl|rfl|rfl|rfl|rfl|rfl|rfl|rfl|rfl|rfl|rfl|rfl|rfl|rfl|rfl|rfl|rfl|rfl|rfl|rfl|rfl|rfl|rfl|rfl|rfl;·exact row_1
  ·exact row_2
  ·exact row_3
  ·exact row_4
  ·exact row_5
  ·exact row_6
  ·exact row_7
  ·exact row_8
  ·exact row_9
  ·exact Qvh
  ·exact Qvi
  ·exact Qvj
  ·exact Qvk
  ·exact Qvl
  ·exact Qvm
  ·exact Qvn
  ·exact Qvo
  ·exact Qvp
  ·exact Qvq
  ·exact Qvr
  ·exact Qvs
  ·exact Qvt
  ·exact Qvu
  ·exact Qvv
  ·exact Qvw
  ·exact Qvx
  ·exact Qvy
  ·exact Qvz
  ·exact QvA
  ·exact QvB
  exact QvC
 exact Qs4 (QrA h d)
end
open Go.AM.SE
noncomputable section
def allV(a:Nat):AV:=if a=0 then .nilsl else sliN (bitsL a)
def unionN(b:Nat):Bool:=callR ansB noOrc SK.ft.get (exR ansB noOrc SK.ft.get 1000) (.c .pure) 91 [.nilsl,sliN (bitsL b)] .e 64 (fun u _ _=>isV (allV b) u)
theorem QrB(h:unionN b=true):Ps 91 [.nilsl,sliN (bitsL b)] (allV b):=Qb7 (t:=SK.ft) SK.ft_ok QdH (d:=1000) (isV _) Qrz h
def rowN(n:Nat):Bool:=@Nat.rec (fun _=>Bool) true (fun b a=>ifB (unionN b) a false) n
theorem Qs5:rowN 32=true:=by kernel_rfl
theorem Qo2:∀{n b:Nat},rowN n=true->b<n->unionN b=true
 |0,_,_,h=>absurd h (ZaD _)|n+1,b,a,c=>by
  have e:rowN (n+1)=ifB (unionN n) (rowN n) false:=rfl;rw[e,QaM]at a;split at a
  ·rename_i h;rcases Nat.lt_succ_iff_lt_or_eq.1 c with h1|rfl;·exact Qo2 a h1
   exact h
  cases a
theorem QrC(b):SD.part 5 b=bitsL (b%32):=by unfold bitsL SD.part;apply ZbJ;intro x a;have:=Zat.1 a;rw[show 32=2^5 from rfl,Nat.testBit_mod_two_pow];simp[this]
theorem union90(f:a<32):Ps 91 [allV a,sliN (SD.part 5 b)] (allV (a|||b%32)):=by
 rw[QrC];have d:b%32<32:=Nat.mod_lt _ (by decide);by_cases c:a=0;·subst c;rw[Nat.zero_or];exact QrB (Qo2 Qs5 d)
 have h1:¬(a|||b%32)=0:=fun e=>c (Nat.or_eq_zero_iff.1 e).1;unfold allV;rw[if_neg c,if_neg h1];exact QpZ (by omega) f d
end
end Go.AM.ST
namespace Go.AM.SU
open Go.Proofs Go.AM.SD Go.AM.SE Go.AM.SO
variable{a:Aut}{h:Heap}{y:List AV}{A X l:List Nat}{i k:Nat}{x:Nat×Aut}{p:Pln}
theorem Qda(l):(u8s l).length=l.length:=by simp[u8s]
theorem graph91(al)(st mk)(T)(i:al.Pairwise (·<·))(n:∀x∈al,x<5)(o:st<256)(f:mk<256)(h:T.length=25)(c:∀x∈T,x<256):Ps 92 [sliN al,grV st mk T,.int .i64 3] (aV (mkA al (st%3) mk T)):=by
 refine Zcm 40 (Ok s92) rfl (by(try simp only[noRefs,Qaa,QaR,noRef,noRefs,Qab,QaX,Zae,Zad])<;>rfl) (QdG _) ?_;have k:=Make32 al (st%3) mk T i n (by omega) f h c;have b:(u8s T).length=25:=by rw[Qda,h]
 have g:(u8s T).take 25=u8s T:=by rw[<-b,Zan]
 have d:(st:Int).tmod 3=((st%3:Nat):Int):=by rw[Zbs (Za9 _)];norm_cast
 have a:(u8s T).all AV.one=true:=by
  have:∀l:List Nat,(u8s l).all AV.one=true:=fun l=>by induction l with|nil=>rfl|cons x l m=>show(AV.one _&&(u8s l).all AV.one)=true;rw[m];rfl
  exact this T
 unfold s92;refine ZcV (Zc4 b g d a) ?_;refine cp k ?_;generalize mkA al (st%3) mk T=A at*;refine ZcV (Zc2 a b) ?_;refine⟨.inr trivial,_,rfl,?_⟩;exact Zck (QdG _)
theorem QfX(hi:i<10):aConvS (.int .i32 (48+(i:Int)))=some (.str [UInt8.ofNat (48+i)]):=by
 have:i=0\/i=1\/i=2\/i=3\/i=4\/i=5\/i=6\/i=7\/i=8\/i=9:=by omega
 rcases this with rfl|rfl|rfl|rfl|rfl|rfl|rfl|rfl|rfl|rfl<;>rfl
theorem events89(s:Nat)(g:s<256):HSpec Tryz.prog 90 [.int .u8 s] .e (.sl 98 0 0 (SD.part 5 s).length 1) (hp [(98,.cells 0 (ints (nz (SD.part 5 s))))]):=by
 refine ZcN 64 (Ok s90) rfl ?_;unfold s90;refine ZcU ?_;refine QaC 100 (fun i:Nat=>[(0,.int .u8 s),(3,.sl 50 0 0 (SD.part i s).length 1),(4,.int .i64 i)]) (fun i=>[(50,.cells 0 (ints (nz (SD.part i s))))]) (fun i=>i<=5) (fun i=>5-i) 0 ⟨[(50,.nil)],rfl,au0,au15,au16⟩ (Zai _) ?_;rintro i hi;have d:=@QdI i s;by_cases f:i<5
 ·have a:(i:Int)<5:=by omega
  by_cases b:s.testBit i=true;·have c:=Qem.2 b;have hp:=Qd2 (n:=5) (b:=s) (i:=i);rw[if_pos b]at hp;simp(disch:=first|omega|(simp only[lenW]<;>omega))only[a,Qc6 (k:=.u8) (show i<=8 by omega),Qc7,c,Zam,wW,wV,simprocAttr];refine⟨i+1,by omega,by omega,?_⟩;rw[hp,QaQ,QaF,Zaf];exact⟨[(50,.blk 50 1)],rfl,au0,au15,au16⟩
  have c:¬((s/2^i%2:Nat):Int)=1:=fun e=>b (Qem.1 e);have hp:=Qd2 (n:=5) (b:=s) (i:=i);rw[if_neg b,Zas]at hp;simp(disch:=first|omega|(simp only[lenW]<;>omega))only[a,Qc6 (k:=.u8) (show i<=8 by omega),Qc7,c,Zam,wW,wV,simprocAttr];refine⟨i+1,by omega,by omega,?_⟩;rw[hp];exact⟨[(50,.blk 50 0)],rfl,au0,au15,au16⟩
 have a:¬(i:Int)<5:=by omega
 have e:i=5:=by omega
 subst e;refine ZcV a ?_;refine⟨.inr trivial,_,rfl,?_⟩;exact⟨[(98,.blk 50 0)],rfl,au0,au15,au16⟩
theorem del40F(hA:A.length<=1000000)(d:l.length<=1000000)(a:h.get 75=some (.cells 0 [sliN A]))(b:h.get 98=some (.cells 0 (ints (nz l)))):HSpec Tryz.prog 93 [.sl 98 0 0 l.length 1,.fn 94 [] [.ptr 75 0 0]] h (sliN (fltN A l)) ((h.set 98 (.cells 0 (ints (nz (delL A l))))).set 98 (.dead 0)):=by
 have h1:=HSpec.frameB (del40 A l hA d) (OnlyD.cons (OnlyD.sl (.inr rfl)) (OnlyD.cons (OnlyD.fn OnlyD.nil (OnlyD.cons (OnlyD.ptr (.inl rfl)) OnlyD.nil)) OnlyD.nil)) (OnlyD.sl (.inr rfl)) (by simp only[noRefs,noRef,Qaa];rfl) (Qaa _) (Qaa _) a b (by decide) rfl rfl;have hle:(fltN A l).length*1<=(ints (nz (delL A l))).length:=by simp[ints,delL]
 have c:=HSpec.freeze (ds:=ints (nz (delL A l))) h1 (by rw[QaE (by decide)]) (QcH _) hle rfl;have e:(ints (nz (delL A l))).take ((fltN A l).length*1)=ints (nz (fltN A l)):=by rw[Zb6];unfold delL;rw[QaQ,QaF,List.take_append_of_le_length (by simp[ints]),ZaM (by simp[ints])]
 rw[e]at c;exact c
theorem Quc(l:List (Nat×Int)):flatVs (l.flatMap teC)=true:=by induction l with|nil=>rfl|cons x l a=>rw[Zay];exact a
theorem del93F{l}(c:l.length<=1000000)(a:h.get 97=some (.cells 0 (l.flatMap teC))):HSpec Tryz.prog 96 [.sl 97 0 0 l.length 2,.fn 97 [] []] h (tes (flt0 l)) ((h.set 97 (.cells 0 ((delT l).flatMap teC))).set 97 (.dead 0)):=by
 have h1:=HSpec.frameA (del93 l c) (OnlyD.cons (OnlyD.sl rfl) (OnlyD.cons (OnlyD.same rfl) OnlyD.nil)) (OnlyD.sl rfl) (QaX _) (QaX _) a rfl;have hle:(flt0 l).length*2<=((delT l).flatMap teC).length:=by rw[Qdk];simp[delT];omega
 have b:=HSpec.freeze (ds:=(delT l).flatMap teC) h1 (by rw[QaE (by decide)]) (Quc _) hle rfl;have e:((delT l).flatMap teC).take ((flt0 l).length*2)=(flt0 l).flatMap teC:=by rw[QjU];unfold delT;rw[List.take_left]
 rw[e]at b;exact b
theorem Qo3:∀l:List Nat,(u8s l).all AV.one=true|[]=>rfl|x::l=>by show(AV.one _&&(u8s l).all AV.one)=true;rw[Qo3 l];rfl
section
variable{p:Pln}
theorem QrD(h:k<l.length):(u8s l)[k]?=some (.int .u8 ((l.getD k 0:Nat):Int)):=by refine Qjc ?_;rw[Zak h,Zah,Zak h];rfl
theorem QjV(h:POk p):(plnC p).length=152:=by show(u8s p.L++_).length=152;rw[Zaf,Qda,h.L];rfl
theorem QvD(h:POk p)(hk:k<147):(plnC p)[k]?=some (.int .u8 ((p.L.getD k 0:Nat):Int)):=by show(u8s p.L++_)[k]?=_;rw[Za6 (by rw[Qda,h.L];exact hk),QrD (by rw[h.L];exact hk)]
theorem Qfq(h:POk p):(plnC p)[147+k]?=([.fsl (u8s p.X) p.xn 4,.int .i8 p.f0,.int .i8 p.f1,.int .i8 p.f2,.int .i8 p.bd]:List AV)[k]?:=by show(u8s p.L++_)[147+k]?=_;rw[Zbr (by rw[Qda,h.L];omega),Qda,h.L];congr 1;omega
theorem Qnc(h:POk p){m}(hk:k+m<=147):((plnC p).drop k).take m=u8s ((p.L.drop k).take m):=by show((u8s p.L++_).drop k).take m=_;rw[List.drop_append_of_le_length (by rw[Qda,h.L];omega),List.take_append_of_le_length (by rw[ZaQ,Qda,h.L];omega)];simp[u8s,List.map_drop,List.map_take]
theorem QvE(h:POk p)(hk:k+27<=147):((plnC p).drop k).take 27=.int .u8 ((p.L.getD k 0:Nat):Int)::.int .u8 ((p.L.getD (k+1) 0:Nat):Int)::u8s ((p.L.drop (k+2)).take 25):=by
 have a:=h.L;rw[Qnc h hk];have e:(p.L.drop k).take 27=p.L.getD k 0::p.L.getD (k+1) 0::(p.L.drop (k+2)).take 25:=by rw[Zah,Zah,Zak (show k<p.L.length by omega),Zak (show k+1<p.L.length by omega)];rw[Zbv (show k<p.L.length by omega),Za2,Zbv (show k+1<p.L.length by omega),Za2];rfl
 rw[e];rfl
theorem L_lt(h:POk p)(k):p.L.getD k 0<256:=by rw[Zah];cases e:p.L[k]? with|none=>decide|some x=>exact h.L8 x (Zac e)
theorem X_lt(h:POk p)(k):p.X.getD k 0<256:=by rw[Zah];cases e:p.X[k]? with|none=>decide|some x=>exact h.X8 x (Zac e)
theorem pF_lt(h:POk p)(i):-128<=pF p i/\pF p i<128:=by
 unfold pF;split;·exact h.f0
 split;·exact h.f1
 exact h.f2
theorem QjW(h:POk p):(plnC p).all AV.one=true:=by show(u8s p.L++_).all AV.one=true;rw[ZbS,Qo3];rfl
theorem Qec:noRefs (plnC p)=true:=by show noRefs (u8s p.L++_)=true;rw[Qaf,QaR];simp only[noRefs,noRef,QaR];rfl
theorem Qud(F):AV.fsl (evP F 5) 5 5=evsV (fun i=>evOf (F.getD i 0)):=by congr 1
theorem QrE(e):noRef (evsV e)=true:=rfl
theorem Qbb{ch}(l:List (Nat×Aut)):noRefs (l.flatMap (itC ch))=true:=Qa5 (fun x=>by simp only[itC,noRefs,noRef,Qaa,Qag];rfl) l
theorem QaJ{ch}(l):noRef (its ch l)=true:=by simp only[noRef];exact Qbb l
theorem Que:fltN (ST.bitsL (pAll p (pN p))) (SD.part 5 (p.L.getD (91+i) 0))=pW p i:=by unfold fltN pW;apply ZbJ;intro x a;have:=partLt x a;show decide (x∈(List.range 5).filter _)=_;simp[this]
theorem Qby(l:List (Nat×Nat)):noRefs (l.flatMap loC)=true:=Qa5 (fun _=>rfl) l
theorem Qcp(l):noRef (los l)=true:=by simp only[noRef];exact Qby l
theorem QgP(l:List (Nat×Nat)):(l.flatMap loC).length=l.length*2:=Qbe (k:=2) (fun _=>rfl) l
theorem Qa8(l:List (Nat×List (Nat×Nat))):noRefs (l.flatMap exC)=true:=Qa5 (fun x=>by simp only[exC,noRefs,noRef,Qby];rfl) l
theorem QbN(l):noRef (exs l)=true:=by simp only[noRef];exact Qa8 l
theorem QeP(l:List (Nat×List (Nat×Nat))):(l.flatMap exC).length=l.length*2:=Qbe (k:=2) (fun _=>rfl) l
theorem QcJ(l):noRef (tes l)=true:=by simp only[noRef];exact QaX l
theorem QbO(l:List (List (Nat×Int)×Int)):noRefs (l.flatMap coC)=true:=Qa5 (fun x=>by simp only[coC,noRefs,noRef,QaX];rfl) l
theorem Qlo(l):noRef (cos l)=true:=by simp only[noRef];exact QbO l
theorem QdM{ch}{l:List (Nat×Aut)}(h:l[i]?=some x):(l.flatMap (itC ch)).drop (i*5)=.str [ch,UInt8.ofNat (48+x.1)]::sliN x.2.al::.int .i64 (x.2.n:Int)::sliN x.2.ms::egsN x.2.es::(l.drop (i+1)).flatMap (itC ch):=Qba (f:=itC ch) (k:=5) (fun _=>rfl) h
theorem Quf(h:i*4+4<=X.length):((u8s X).drop (i*4)).take 4=[.int .u8 ((X.getD (i*4) 0:Nat):Int),.int .u8 ((X.getD (i*4+1) 0:Nat):Int),.int .u8 ((X.getD (i*4+2) 0:Nat):Int),.int .u8 ((X.getD (i*4+3) 0:Nat):Int)]:=by
 have g:∀k,k<4->X.getD (i*4+k) 0=X[i*4+k]!:=fun k hk=>by rw[Zah,List.getElem!_eq_getElem?_getD];rfl
 apply Zbx;intro j;by_cases a:j<4
 ·rw[List.getElem?_take_of_lt a,ZbF,QrD (by omega)];have:j=0\/j=1\/j=2\/j=3:=by omega
  rcases this with rfl|rfl|rfl|rfl<;>rfl
 rw[ZaF (by rw[Zaq];omega),ZaF (by simp;omega)]
theorem Qa0(c):noRef (celV c)=true:=by rw[celV,noRef,noRefs,noRefs,noRefs,noRefs,noRefs,QrE,QaJ,QaJ,QbN,Qlo];rfl
theorem Qed{s}{a:Aut}:noRefs [.str s,sliN a.al,.int .i64 (a.n:Int),sliN a.ms,egsN a.es]=true:=by simp only[noRefs,noRef,Qaa,Qag];rfl
theorem Qaw{x}(a:noRefs x=true)(b:noRefs y=true):noRefs (x++y)=true:=by rw[Qaf,a,b];rfl
theorem QrF{ch}:List.flatMap (itC ch) [(i,a)]=[.str [ch,UInt8.ofNat (48+i)],sliN a.al,.int .i64 (a.n:Int),sliN a.ms,egsN a.es]:=rfl
theorem Qd4{ch}(l:List (Nat×Aut)):(l.flatMap (itC ch)).length=l.length*5:=Qbe (k:=5) (fun _=>rfl) l
theorem Qs6{i}:pCs p (i+1)=pCs p i++[(i,pA p i)]:=by unfold pCs;rw[ZaK,ZaI];rfl
theorem Qs7{i}:pRs p (i+1)=pRs p i++[(i,pR p i)]:=by unfold pRs;rw[ZaK,ZaI];rfl
theorem QjX{i}:(pCs p i).length=i:=by simp[pCs]
theorem Qo4{i}:(pRs p i).length=i:=by simp[pRs]
theorem Qo5:∀{i:Nat},pAll p i<32|0=>by show 0<32;decide|i+1=>Nat.or_lt_two_pow (n:=5) Qo5 (Nat.mod_lt _ (by decide))
end
theorem Qp0(a):(ST.allV a).cells=[ST.allV a]:=by unfold ST.allV;split<;>rfl
theorem Qs8(a):(ST.allV a).one=true:=by unfold ST.allV;split<;>rfl
theorem Qob(a):noRefs [ST.allV a]=true:=by
 unfold ST.allV;split;·rfl
 simp only[noRefs,noRef,Qaa];rfl
theorem Make26(p)(h:POk p):Ps 42 [plnV p] (celV (mkC p)):=by
 refine Zcm 40 (Ok s42) rfl (by simp only[noRefs,noRef,Qec];rfl) (Qa0 _) ?_;have hlen:=QjV h;have J:=QjW h;have b:=@Qec p;have h5:(plnC p).take 5=u8s (p.L.take 5):=by simpa using Qnc h (k:=0) (m:=5) (by omega)
 have B:=events88 (p.L.take 5) (by rw[Zaq,h.L];rfl) (fun i=>by rw[Zah];cases e:(p.L.take 5)[i]? with|none=>decide|some x=>exact h.L8 x (ZaV (Zac e)));rw[Qud]at B;have n:∀{k},k<147->(plnC p)[k]?=some (.int .u8 ((p.L.getD k 0:Nat):Int)):=fun hk=>QvD h hk;have a5:=n (k:=5) (by omega);have Z:=n (k:=90) (by omega);have R:(plnC p)[147]?=some (.fsl (u8s p.X) p.xn 4):=Qfq h (k:=0);have aF:∀i,i<3->(plnC p)[148+i]?=some (.int .i8 (pF p i)):=by
  intro i hi;have:i=0\/i=1\/i=2:=by omega
  rcases this with rfl|rfl|rfl;·exact Qfq h (k:=1)
  ·exact Qfq h (k:=2)
  exact Qfq h (k:=3)
 have Q:(plnC p)[151]?=some (.int .i8 p.bd):=Qfq h (k:=4);have G:∀{k},k+27<=147->((plnC p).drop k).take 27=_:=fun hk=>QvE h hk;show wS _ _ _ _ _ (argT 0 [.agg (plnC p)]) _ _;generalize plnC p=C at*;have htm:((p.L.getD 5 0:Nat):Int).tmod 3=((p.L.getD 5 0%3:Nat):Int):=by rw[Zbs (Za9 _)];norm_cast
 have hn:(1:Int)+((p.L.getD 5 0%3:Nat):Int)=(pN p:Int):=by unfold pN;omega
 have hn3:=@pN_le p;unfold s42;refine ZcV (Zc3 hlen J h5) ?_;refine cp B ?_;refine ZcV (Zc3 a5 htm hn) ?_;refine Qar 100 (fun i:Nat=>[(1,.ptr 50 0 0),(2,.ptr 51 0 0),(3,.ptr 52 0 0),(4,.ptr 75 0 0),(5,.int .i64 (pN p:Int)),(26,.int .i64 (pN p:Int)),(27,.int .i64 i)]) (fun i=>[(50,.cells 0 C),(51,.cells 0 [.nilsl,.nilsl,.nilsl,.nilsl,.nilsl]),(52,.cells 0 [evsV (fun i=>evOf ((p.L.take 5).getD i 0)),.sl 76 0 0 (pCs p i).length 5,.nilsl,.nilsl,.nilsl]),(75,.cells 0 [ST.allV (pAll p i)]),(76,.cells 0 ((pCs p i).flatMap (itC 99)))]) (fun i=>i<=pN p) (fun i=>pN p-i) 0 0 200 (fun _:Unit=>[(1,.ptr 50 0 0),(2,.ptr 51 0 0),(3,.ptr 52 0 0),(4,.ptr 75 0 0),(5,.int .i64 (pN p:Int))]) (fun _=>[(50,.cells 0 C),(51,.cells 0 [.nilsl,.nilsl,.nilsl,.nilsl,.nilsl]),(52,.cells 0 [evsV (fun i=>evOf ((p.L.take 5).getD i 0)),its 99 (pCs p (pN p)),.nilsl,.nilsl,.nilsl]),(75,.cells 0 [sliN (ST.bitsL (pAll p (pN p)))])]) (fun _=>True) ?_ (Zai _) ?_ ?_;·refine⟨[(50,.blk 40 0),(51,.blk 41 0),(52,.blk 46 0),(75,.blk 48 0),(76,.nil)],rfl,au0,?_,au16⟩;exact Zcw rfl rfl gg (Zcl b) (Zcw rfl rfl gg (Zcl rfl) (Zcw rfl rfl gg (ZcC (Zck rfl) (ZcC (Rn.x4 rfl rfl) (Zcl rfl))) (Zcw rfl rfl gg (Zcl rfl) (Zcx rfl rfl Zcv))))
 ·rintro i hi;by_cases c:i<pN p
  ·have f:(i:Int)<3:=by omega
   have V:=n (k:=6+i) (by omega);have hE:=events16 (p.L.getD (6+i) 0) (L_lt h _);have hU:=ST.union90 (a:=pAll p i) (b:=p.L.getD (6+i) 0) Qo5;have hg:=G (k:=9+i*27) (by omega);have K:=graph91 (SD.part 5 (p.L.getD (6+i) 0)) (p.L.getD (9+i*27) 0) (p.L.getD (9+i*27+1) 0) ((p.L.drop (9+i*27+2)).take 25) (QdT _ _) partLt (L_lt h _) (L_lt h _) (by rw[Zaq,ZaQ,h.L];omega) (fun x hx=>h.L8 x (List.mem_of_mem_drop (ZaV hx)));have hA:mkA (SD.part 5 (p.L.getD (6+i) 0)) (p.L.getD (9+i*27) 0%3) (p.L.getD (9+i*27+1) 0) ((p.L.drop (9+i*27+2)).take 25)=pA p i:=rfl;rw[hA]at K;have hB:pAll p i|||p.L.getD (6+i) 0%32=pAll p (i+1):=rfl;rw[hB]at hU;have a:=@Qs6 p i;have l:=@Qd4 99 (pCs p i);have d:=@QjX p i;refine ZcV (Zc4 c f V hlen) ?_;refine cp hE ?_;refine ZcU ?_;refine cp hU ?_;have w:=QfX (i:=i) (by omega);have m:9+i*27+27<=152:=by omega
   refine ZcV (Zc9 c f hlen w @QeD @Qp0 @Qs8 m hg) ?_;refine cp K ?_;refine ZcV (Zc2 l d) ?_;refine⟨i+1,by omega,by omega,?_⟩;rw[a,Zao,Zaf,d,QrF];refine⟨[(50,.blk 50 0),(51,.blk 51 0),(52,.blk 52 0),(75,.blk 75 0),(76,.blk 76 1)],rfl,au0,?_,au16⟩;exact Zcw rfl rfl gg (Zcl b) (Zcw rfl rfl gg (Zcl rfl) (Zcw rfl rfl gg (ZcC (Zck rfl) (ZcC (Rn.x1 rfl rfl) (Zcl rfl))) (Zcw rfl rfl gg (Zcl (Qob _)) (Zcw rfl rfl gg (Zcl (Qaw (Qbb _) Qed)) Zcv))))
  have e:i=pN p:=by omega
  subst e;have l:=@Qd4 99 (pCs p (pN p));have d:=@QjX p (pN p);refine ZcV c ?_;refine⟨(),?_⟩;refine⟨[(50,.blk 50 0),(51,.blk 51 0),(52,.blk 52 0),(75,.blk 75 0)],rfl,au0,?_,au16⟩;refine Zcw rfl rfl gg (Zcl b) (Zcw rfl rfl gg (Zcl rfl) (Zcw rfl rfl gg (ZcC (Zck rfl) (ZcC (ZcD rfl rfl rfl rfl (Qd4 _) (Zcl (Qbb _))) (Zcl rfl))) (Zcw rfl rfl gg (ZcC ?_ ZcB) Zcv)));unfold ST.allV;split;·rename_i g;rw[g];exact Rn.nilK
  exact Zck (Qab _)
 rintro _ _;have u:((p.L.getD 90 0:Nat):Int).tmod 3=(pM p:Int):=by rw[Zbs (Za9 _)];unfold pM;norm_cast
 have hm2:=@pM_le p;refine ZcV (Zc2 Z u) ?_;refine Qar 100 (fun i:Nat=>[(1,.ptr 50 0 0),(2,.ptr 51 0 0),(3,.ptr 52 0 0),(4,.ptr 75 0 0),(5,.int .i64 (pN p:Int)),(59,.int .i64 (pM p:Int)),(60,.int .i64 i)]) (fun i=>[(50,.cells 0 C),(51,.cells 0 [.nilsl,.nilsl,.nilsl,.nilsl,.nilsl]),(52,.cells 0 [evsV (fun i=>evOf ((p.L.take 5).getD i 0)),its 99 (pCs p (pN p)),.sl 77 0 0 (pRs p i).length 5,.nilsl,.nilsl]),(75,.cells 0 [sliN (ST.bitsL (pAll p (pN p)))]),(77,.cells 0 ((pRs p i).flatMap (itC 114)))]) (fun i=>i<=pM p) (fun i=>pM p-i) 0 2 200 (fun _:Unit=>[(1,.ptr 50 0 0),(2,.ptr 51 0 0),(3,.ptr 52 0 0),(5,.int .i64 (pN p:Int))]) (fun _=>[(50,.cells 0 C),(51,.cells 0 [.nilsl,.nilsl,.nilsl,.nilsl,.nilsl]),(52,.cells 0 [evsV (fun i=>evOf ((p.L.take 5).getD i 0)),its 99 (pCs p (pN p)),its 114 (pRs p (pM p)),.nilsl,.nilsl])]) (fun _=>True) ?_ (Zai _) ?_ ?_;·refine⟨[(50,.blk 50 0),(51,.blk 51 0),(52,.blk 52 0),(75,.blk 75 0),(77,.nil)],rfl,au0,?_,au16⟩;exact Zcw rfl rfl gg (Zcl b) (Zcw rfl rfl gg (Zcl rfl) (Zcw rfl rfl gg (ZcC (Zck rfl) (ZcC (Zck (QaJ _)) (ZcC (Rn.x4 rfl rfl) (Zcl rfl)))) (Zcw rfl rfl gg (ZcC (Zck (Qab _)) ZcB) (Zcx rfl rfl Zcv))))
 ·rintro i hi;by_cases c:i<pM p
  ·have f:(i:Int)<2:=by omega
   have V:=n (k:=91+i) (by omega);have hE:=events89 (p.L.getD (91+i) 0) (L_lt h _);have hg:=G (k:=93+i*27) (by omega);have K:=graph91 (pW p i) (p.L.getD (93+i*27) 0) (p.L.getD (93+i*27+1) 0) ((p.L.drop (93+i*27+2)).take 25) (Qlm _) (pW_lt _) (L_lt h _) (L_lt h _) (by rw[Zaq,ZaQ,h.L];omega) (fun x hx=>h.L8 x (List.mem_of_mem_drop (ZaV hx)));have hA:mkA (pW p i) (p.L.getD (93+i*27) 0%3) (p.L.getD (93+i*27+1) 0) ((p.L.drop (93+i*27+2)).take 25)=pR p i:=rfl;rw[hA]at K;have a:=@Qs7 p i;have l:=@Qd4 114 (pRs p i);have d:=@Qo4 p i;have w:=QfX (i:=i) (by omega);have m:93+i*27+27<=152:=by omega
   have hW:fltN (ST.bitsL (pAll p (pN p))) (SD.part 5 (p.L.getD (91+i) 0))=pW p i:=Que;have U:(ST.bitsL (pAll p (pN p))).length<=1000000:=ZaA (QdI (i:=5)) (by decide);have M:(SD.part 5 (p.L.getD (91+i) 0)).length<=1000000:=ZaA (QdI (i:=5)) (by decide);generalize ST.bitsL (pAll p (pN p))=A at*;refine ZcV (Zc4 c f V hlen) ?_;refine ch (ZcM (b:=98) (by(try simp only[noRefs,Qaa,QaR,noRef,noRefs,Qab,QaX,Zae,Zad])<;>rfl) hE (by repeat(first|exact Fresh.e|exact Zco (by assumption) (by omega)|refine Zcp ?_ (by omega) (by omega))) rfl) ?_;refine ZcU ?_;refine chc (del40F U M gg gg) ?_;rw[hW];refine ZcV (Zc6 c f hlen w m hg) ?_;refine cp K ?_;refine ZcV (Zc2 l d) ?_;refine⟨i+1,by omega,by omega,?_⟩;rw[a,Zao,Zaf,d,QrF];refine⟨[(50,.blk 50 0),(51,.blk 51 0),(52,.blk 52 0),(75,.blk 75 0),(77,.blk 77 1)],rfl,au0,?_,au16⟩;exact Zcw rfl rfl gg (Zcl b) (Zcw rfl rfl gg (Zcl rfl) (Zcw rfl rfl gg (ZcC (Zck rfl) (ZcC (Zck (QaJ _)) (ZcC (Rn.x1 rfl rfl) (Zcl rfl)))) (Zcw rfl rfl gg (ZcC (Zck (Qab _)) ZcB) (Zcw rfl rfl gg (Zcl (Qaw (Qbb _) Qed)) Zcv))))
  have e:i=pM p:=by omega
  subst e;have l:=@Qd4 114 (pRs p (pM p));have d:=@Qo4 p (pM p);refine ZcV c ?_;refine⟨(),?_⟩;refine⟨[(50,.blk 50 0),(51,.blk 51 0),(52,.blk 52 0)],rfl,au0,?_,au16⟩;exact Zcw rfl rfl gg (Zcl b) (Zcw rfl rfl gg (Zcl rfl) (Zcw rfl rfl gg (ZcC (Zck rfl) (ZcC (Zck (QaJ _)) (ZcC (ZcD rfl rfl rfl rfl (Qd4 _) (Zcl (Qbb _))) (Zcl rfl)))) Zcv))
 rintro _ _;refine ZcV R ?_;refine Qar 100 (fun i:Nat=>[(1,.ptr 50 0 0),(2,.ptr 51 0 0),(3,.ptr 52 0 0),(5,.int .i64 (pN p:Int)),(89,.fsl (u8s p.X) p.xn 4),(90,.int .i64 (p.xn:Int)),(91,.int .i64 i)]) (fun i=>[(50,.cells 0 C),(51,.cells 0 [.nilsl,.nilsl,.nilsl,.nilsl,.nilsl]),(52,.cells 0 [evsV (fun i=>evOf ((p.L.take 5).getD i 0)),its 99 (pCs p (pN p)),its 114 (pRs p (pM p)),.sl 78 0 0 (pXs p i).length 2,.nilsl]),(78,.cells 0 ((pXs p i).flatMap exC))]) (fun i=>i<=p.xn/\i<=2) (fun i=>p.xn-i) 0 4 200 (fun _:Unit=>[(1,.ptr 50 0 0),(2,.ptr 51 0 0),(3,.ptr 52 0 0),(5,.int .i64 (pN p:Int))]) (fun _=>[(50,.cells 0 C),(51,.cells 0 [.nilsl,.nilsl,.nilsl,.nilsl,.nilsl]),(52,.cells 0 [evsV (fun i=>evOf ((p.L.take 5).getD i 0)),its 99 (pCs p (pN p)),its 114 (pRs p (pM p)),exs (pXs p (min p.xn 2)),.nilsl])]) (fun _=>True) ?_ ⟨Zai _,Zai _⟩ ?_ ?_;·refine⟨[(50,.blk 50 0),(51,.blk 51 0),(52,.blk 52 0),(78,.nil)],rfl,au0,?_,au16⟩;exact Zcw rfl rfl gg (Zcl b) (Zcw rfl rfl gg (Zcl rfl) (Zcw rfl rfl gg (ZcC (Zck rfl) (ZcC (Zck (QaJ _)) (ZcC (Zck (QaJ _)) (ZcC (Rn.x4 rfl rfl) (Zcl rfl))))) (Zcx rfl rfl Zcv)))
 ·rintro i⟨hi,hi2⟩;have z:=@QeP (pXs p i);have hxx:=@QjS p i;by_cases c:i<p.xn
  ·have hX:=h.X;have h4:=Quf (X:=p.X) (i:=i) (by omega);have hul:i*4+4<=(u8s p.X).length:=by rw[Qda,hX];omega
   have O:4<=((u8s p.X).drop (i*4)).length:=by rw[ZaQ];omega
   by_cases h2:i=2
   ·subst h2;have F:(2:Int)<(p.xn:Int):=by omega
    refine ZcV (Zc4 c h4 O F) ?_;refine⟨(),?_⟩;rw[show min p.xn 2=2 by omega];exact bk7Aq
   have T:¬(i:Int)=2:=by omega
   have w:=QfX (i:=i) (by omega);refine ZcV (Zc5 c h4 O T w) ?_;obtain⟨Y,v⟩:∃Y,Y=[AV.int .u8 ((p.X.getD (i*4) 0:Nat):Int),.int .u8 ((p.X.getD (i*4+1) 0:Nat):Int),.int .u8 ((p.X.getD (i*4+2) 0:Nat):Int),.int .u8 ((p.X.getD (i*4+3) 0:Nat):Int)]:=⟨_,rfl⟩;have t:noRefs Y=true:=by rw[v];rfl
   have hYk:∀k,k<3->Y[k]?=some (.int .u8 ((p.X.getD (i*4+k) 0:Nat):Int)):=by
    intro k hk;have:k=0\/k=1\/k=2:=by omega
    rcases this with rfl|rfl|rfl<;>rw[v]<;>rfl
   have d:=@QjX p (pN p);have hilC:=@Qd4 99 (pCs p (pN p));rw[<-v,d];refine Qar 220 (fun k:Nat=>[(1,.ptr 50 0 0),(2,.ptr 51 0 0),(3,.ptr 52 0 0),(5,.int .i64 (pN p:Int)),(11,.ptr 60 0 0),(12,.ptr 61 0 0),(89,.fsl (u8s p.X) p.xn 4),(90,.int .i64 (p.xn:Int)),(91,.int .i64 i),(106,.int .i64 (pN p:Int)),(107,.int .i64 k)]) (fun k=>[(50,.cells 0 C),(51,.cells 0 [.nilsl,.nilsl,.nilsl,.nilsl,.nilsl]),(52,.cells 0 [evsV (fun i=>evOf ((p.L.take 5).getD i 0)),its 99 (pCs p (pN p)),its 114 (pRs p (pM p)),.sl 78 0 0 (pXs p i).length 2,.nilsl]),(60,.cells 0 Y),(61,.cells 0 [.str [101,UInt8.ofNat (48+i)],.sl 79 0 0 (pLo p i k).length 2]),(78,.cells 0 ((pXs p i).flatMap exC)),(79,.cells 0 ((pLo p i k).flatMap loC))]) (fun k=>k<=pN p) (fun k=>pN p-k) 0 6 300 (fun _:Unit=>[(1,.ptr 50 0 0),(2,.ptr 51 0 0),(3,.ptr 52 0 0),(5,.int .i64 (pN p:Int)),(12,.ptr 61 0 0),(89,.fsl (u8s p.X) p.xn 4),(90,.int .i64 (p.xn:Int)),(91,.int .i64 i)]) (fun _=>[(50,.cells 0 C),(51,.cells 0 [.nilsl,.nilsl,.nilsl,.nilsl,.nilsl]),(52,.cells 0 [evsV (fun i=>evOf ((p.L.take 5).getD i 0)),its 99 (pCs p (pN p)),its 114 (pRs p (pM p)),.sl 78 0 0 (pXs p i).length 2,.nilsl]),(61,.cells 0 [.str [101,UInt8.ofNat (48+i)],los (pLo p i (pN p))]),(78,.cells 0 ((pXs p i).flatMap exC))]) (fun _=>True) ?_ (Zai _) ?_ ?_;·refine⟨[(50,.blk 50 0),(51,.blk 51 0),(52,.blk 52 0),(60,.blk 104 0),(61,.blk 115 0),(78,.blk 78 0),(79,.nil)],rfl,au0,?_,au16⟩;exact Zcw rfl rfl gg (Zcl b) (Zcw rfl rfl gg (Zcl rfl) (Zcw rfl rfl gg (ZcC (Zck rfl) (ZcC (Zck (QaJ _)) (ZcC (Zck (QaJ _)) (ZcC (Rn.x1 rfl rfl) (Zcl rfl))))) (Zcw rfl rfl gg (Zcl t) (Zcw rfl rfl gg (ZcC (Zck rfl) (ZcC (Rn.x4 rfl rfl) ZcB)) (Zcw rfl rfl gg (Zcl (Qa8 _)) (Zcx rfl rfl Zcv))))))
   ·rintro k hk;have E:=@QgP (pLo p i k);have X:=@QjT p i k;by_cases o:k<pN p
    ·have P:(k:Int)<4:=by omega
     have hck:=Qrw (p:=p) o;have r:=QdM (ch:=99) hck;have q:5<=(((pCs p (pN p)).flatMap (itC 99)).drop (k*5)).length:=by rw[r];simp
     have hy:=hYk k (by omega);have hx8:=X_lt h (i*4+k);have hn5:(pA p k).n<=3:=(pA_wf k).n3;have L:((p.X.getD (i*4+k) 0:Nat):Int).tmod (((pA p k).n:Int)+2)=((p.X.getD (i*4+k) 0%((pA p k).n+2):Nat):Int):=by rw[Zbs (Za9 _)];norm_cast
     have H:¬((pA p k).n:Int)+2=0:=by omega
     have hxm:p.X.getD (i*4+k) 0%((pA p k).n+2)<=10:=by have:=Nat.mod_lt (p.X.getD (i*4+k) 0) (show 0<(pA p k).n+2 by omega);omega
     have a:pLo p i (k+1)=if p.X.getD (i*4+k) 0%((pA p k).n+2)<(pA p k).n then pLo p i k++[(k,p.X.getD (i*4+k) 0%((pA p k).n+2))]else pLo p i k:=rfl;by_cases S:p.X.getD (i*4+k) 0%((pA p k).n+2)<(pA p k).n;·rw[if_pos S]at a;have y:List.flatMap loC [(k,p.X.getD (i*4+k) 0%((pA p k).n+2))]=[.int .i64 (k:Int),.int .i64 ((p.X.getD (i*4+k) 0%((pA p k).n+2):Nat):Int)]:=rfl;refine ZcV (Zc9 o P r q hy L H S E) ?_;refine⟨k+1,by omega,by omega,?_⟩;rw[a,Zao,Zaf,y];refine⟨[(50,.blk 50 0),(51,.blk 51 0),(52,.blk 52 0),(60,.blk 60 0),(61,.blk 61 0),(78,.blk 78 0),(79,.blk 79 1)],rfl,au0,?_,au16⟩;exact Zcw rfl rfl gg (Zcl b) (Zcw rfl rfl gg (Zcl rfl) (Zcw rfl rfl gg (ZcC (Zck rfl) (ZcC (Zck (QaJ _)) (ZcC (Zck (QaJ _)) (ZcC (Rn.x1 rfl rfl) (Zcl rfl))))) (Zcw rfl rfl gg (Zcl t) (Zcw rfl rfl gg (ZcC (Zck rfl) (ZcC (Rn.x1 rfl rfl) ZcB)) (Zcw rfl rfl gg (Zcl (Qa8 _)) (Zcw rfl rfl gg (Zcl (Qaw (Qby _) rfl)) Zcv))))))
     rw[if_neg S]at a;refine ZcV (Zc9 o P r q hy L H S E) ?_;refine⟨k+1,by omega,by omega,?_⟩;rw[a];refine⟨[(50,.blk 50 0),(51,.blk 51 0),(52,.blk 52 0),(60,.blk 60 0),(61,.blk 61 0),(78,.blk 78 0),(79,.blk 79 0)],rfl,au0,?_,au16⟩;exact Zcw rfl rfl gg (Zcl b) (Zcw rfl rfl gg (Zcl rfl) (Zcw rfl rfl gg (ZcC (Zck rfl) (ZcC (Zck (QaJ _)) (ZcC (Zck (QaJ _)) (ZcC (Rn.x1 rfl rfl) (Zcl rfl))))) (Zcw rfl rfl gg (Zcl t) (Zcw rfl rfl gg (ZcC (Zck rfl) (ZcC (Rn.x1 rfl rfl) ZcB)) (Zcw rfl rfl gg (Zcl (Qa8 _)) (Zcw rfl rfl gg (Zcl (Qby _)) Zcv))))))
    have e:k=pN p:=by omega
    subst e;refine ZcV o ?_;refine⟨(),?_⟩;refine⟨[(50,.blk 50 0),(51,.blk 51 0),(52,.blk 52 0),(61,.blk 61 0),(78,.blk 78 0)],rfl,au0,?_,au16⟩;exact Zcw rfl rfl gg (Zcl b) (Zcw rfl rfl gg (Zcl rfl) (Zcw rfl rfl gg (ZcC (Zck rfl) (ZcC (Zck (QaJ _)) (ZcC (Zck (QaJ _)) (ZcC (Rn.x1 rfl rfl) (Zcl rfl))))) (Zcw rfl rfl gg (ZcC (Zck rfl) (ZcC (ZcD rfl rfl rfl rfl (QgP _) (Zcl (Qby _))) ZcB)) (Zcw rfl rfl gg (Zcl (Qa8 _)) Zcv))))
   rintro _ _;have a:pXs p (i+1)=if 0<(pLo p i (pN p)).length then pXs p i++[(i,pLo p i (pN p))]else pXs p i:=rfl;have X:=@QjT p i (pN p);by_cases g:0<(pLo p i (pN p)).length;·rw[if_pos g]at a;have I:List.flatMap exC [(i,pLo p i (pN p))]=[.str [101,UInt8.ofNat (48+i)],los (pLo p i (pN p))]:=rfl;refine ZcV (Zc2 g z) ?_;refine⟨i+1,by omega,⟨by omega,by omega⟩,?_⟩;rw[a,Zao,Zaf,I];refine⟨[(50,.blk 50 0),(51,.blk 51 0),(52,.blk 52 0),(78,.blk 78 1)],rfl,au0,?_,au16⟩;exact Zcw rfl rfl gg (Zcl b) (Zcw rfl rfl gg (Zcl rfl) (Zcw rfl rfl gg (ZcC (Zck rfl) (ZcC (Zck (QaJ _)) (ZcC (Zck (QaJ _)) (ZcC (Rn.x1 rfl rfl) (Zcl rfl))))) (Zcw rfl rfl gg (Zcl (Qaw (Qa8 _) (by simp only[noRefs,noRef,Qby];rfl))) Zcv)))
   rw[if_neg g]at a;refine ZcV (Zc2 g z) ?_;refine⟨i+1,by omega,⟨by omega,by omega⟩,?_⟩;rw[a];refine⟨[(50,.blk 50 0),(51,.blk 51 0),(52,.blk 52 0),(78,.blk 78 0)],rfl,au0,?_,au16⟩;exact Zcw rfl rfl gg (Zcl b) (Zcw rfl rfl gg (Zcl rfl) (Zcw rfl rfl gg (ZcC (Zck rfl) (ZcC (Zck (QaJ _)) (ZcC (Zck (QaJ _)) (ZcC (Rn.x1 rfl rfl) (Zcl rfl))))) (Zcw rfl rfl gg (Zcl (Qa8 _)) Zcv)))
  have e:i=p.xn:=by omega
  subst e;refine ZcV c ?_;refine⟨(),?_⟩;rw[show min p.xn 2=p.xn by omega];exact bk7Aq
 rintro _ _;have hb1:=Int.lt_tmod_of_pos p.bd (show(0:Int)<8 by decide);have hb2:=Int.tmod_lt_of_pos p.bd (show(0:Int)<8 by decide);have hbd:=h.bd;have hf0:=h.f0;have hf1:=h.f1;have hf2:=h.f2;refine ZcV Q ?_;refine Qar 240 (fun i:Nat=>[(1,.ptr 50 0 0),(2,.ptr 51 0 0),(3,.ptr 52 0 0),(15,.ptr 62 0 0),(157,.int .i64 (pN p:Int)),(158,.int .i64 i)]) (fun i=>[(50,.cells 0 C),(51,.cells 0 [.nilsl,.nilsl,.nilsl,.nilsl,.nilsl]),(52,.cells 0 [evsV (fun i=>evOf ((p.L.take 5).getD i 0)),its 99 (pCs p (pN p)),its 114 (pRs p (pM p)),exs (pXs p (min p.xn 2)),.nilsl]),(62,.cells 0 [.str [107],.sl 97 0 0 (pT p i).length 2,.int .i64 (p.bd.tmod 8)]),(97,.cells 0 ((pT p i).flatMap teC))]) (fun i=>i<=pN p) (fun i=>pN p-i) 0 8 300 (fun _:Unit=>[(2,.ptr 51 0 0),(3,.ptr 52 0 0),(15,.ptr 62 0 0)]) (fun _=>[(51,.cells 0 [.nilsl,.nilsl,.nilsl,.nilsl,.nilsl]),(52,.cells 0 [evsV (fun i=>evOf ((p.L.take 5).getD i 0)),its 99 (pCs p (pN p)),its 114 (pRs p (pM p)),exs (pXs p (min p.xn 2)),.nilsl]),(62,.cells 0 [.str [107],.sl 97 0 0 (pT p (pN p)).length 2,.int .i64 (p.bd.tmod 8)]),(97,.cells 0 ((pT p (pN p)).flatMap teC))]) (fun _=>True) ?_ (Zai _) ?_ ?_;·refine⟨[(50,.blk 50 0),(51,.blk 51 0),(52,.blk 52 0),(62,.blk 205 0),(97,.nil)],rfl,au0,?_,au16⟩;exact Zcw rfl rfl gg (Zcl b) (Zcw rfl rfl gg (Zcl rfl) (Zcw rfl rfl gg (ZcC (Zck rfl) (ZcC (Zck (QaJ _)) (ZcC (Zck (QaJ _)) (ZcC (Zck (QbN _)) (Zcl rfl))))) (Zcw rfl rfl gg (ZcC (Zck rfl) (ZcC (Rn.x4 rfl rfl) (Zcl rfl))) (Zcx rfl rfl Zcv))))
 ·rintro i hi;have htl:=@Qdk (pT p i);have htx:=@Qna p i;by_cases c:i<pN p
  ·have f:(i:Int)<3:=by omega
   have ha:=aF i (by omega);have hFb:-128<=pF p i/\pF p i<128:=pF_lt h i;have a:pT p (i+1)=if pF p i=0 then pT p i else pT p i++[(i,(pF p i).tmod 4)]:=rfl;by_cases g:pF p i=0;·rw[if_pos g]at a;refine ZcV (Zc5 c f hlen ha g) ?_;refine⟨i+1,by omega,by omega,?_⟩;rw[a];refine⟨[(50,.blk 50 0),(51,.blk 51 0),(52,.blk 52 0),(62,.blk 62 0),(97,.blk 97 0)],rfl,au0,?_,au16⟩;exact Zcw rfl rfl gg (Zcl b) (Zcw rfl rfl gg (Zcl rfl) (Zcw rfl rfl gg (ZcC (Zck rfl) (ZcC (Zck (QaJ _)) (ZcC (Zck (QaJ _)) (ZcC (Zck (QbN _)) (Zcl rfl))))) (Zcw rfl rfl gg (ZcC (Zck rfl) (ZcC (Rn.x1 rfl rfl) (Zcl rfl))) (Zcw rfl rfl gg (Zcl (QaX _)) Zcv))))
   rw[if_neg g]at a;have N:List.flatMap teC [(i,(pF p i).tmod 4)]=[.int .i64 (i:Int),.int .i64 ((pF p i).tmod 4)]:=rfl;refine ZcV (Zc6 c f hlen ha g htl) ?_;refine⟨i+1,by omega,by omega,?_⟩;rw[a,Zao,Zaf,N];refine⟨[(50,.blk 50 0),(51,.blk 51 0),(52,.blk 52 0),(62,.blk 62 0),(97,.blk 97 1)],rfl,au0,?_,au16⟩;exact Zcw rfl rfl gg (Zcl b) (Zcw rfl rfl gg (Zcl rfl) (Zcw rfl rfl gg (ZcC (Zck rfl) (ZcC (Zck (QaJ _)) (ZcC (Zck (QaJ _)) (ZcC (Zck (QbN _)) (Zcl rfl))))) (Zcw rfl rfl gg (ZcC (Zck rfl) (ZcC (Rn.x1 rfl rfl) (Zcl rfl))) (Zcw rfl rfl gg (Zcl (Qaw (QaX _) rfl)) Zcv))))
  have e:i=pN p:=by omega
  subst e;refine ZcV c ?_;refine⟨(),?_⟩;refine⟨[(51,.blk 51 0),(52,.blk 52 0),(62,.blk 62 0),(97,.blk 97 0)],rfl,au0,?_,au16⟩;exact Zcw rfl rfl gg (Zcl rfl) (Zcw rfl rfl gg (ZcC (Zck rfl) (ZcC (Zck (QaJ _)) (ZcC (Zck (QaJ _)) (ZcC (Zck (QbN _)) (Zcl rfl))))) (Zcw rfl rfl gg (ZcC (Zck rfl) (ZcC (Rn.x1 rfl rfl) (Zcl rfl))) (Zcw rfl rfl gg (Zcl (QaX _)) Zcv)))
 rintro _ _;have hT0:flt0 (pT p (pN p))=pT0 p:=rfl;have hpt:=@Qna p (pN p);refine ZcU ?_;refine chc (del93F (l:=pT p (pN p)) (by omega) gg) ?_;rw[hT0];have htl0:(pT0 p).length<=3:=ZaA (Za7 _ _) (by omega);by_cases g:0<(pT0 p).length;·have s:pKs p=[(pT0 p,p.bd.tmod 8)]:=if_pos g;refine ZcV g ?_;refine⟨.inr trivial,_,rfl,?_⟩;refine Rn.agg (ZcC (Zck rfl) (ZcC (Zck (QaJ _)) (ZcC (Zck (QaJ _)) (ZcC (Zck (QbN _)) (ZcC ?_ ZcB)))));show Rn 0 π0 _ (cos (pKs p)) _;rw[s];exact ZcE (b:=310) rfl rfl (ZcC (Zck rfl) (ZcC (Zck (QcJ _)) (ZcC (Zck rfl) ZcB)))
 have s:pKs p=[]:=if_neg g;refine ZcV g ?_;refine⟨.inr trivial,_,rfl,?_⟩;refine Rn.agg (ZcC (Zck rfl) (ZcC (Zck (QaJ _)) (ZcC (Zck (QaJ _)) (ZcC (Zck (QbN _)) (ZcC ?_ ZcB)))));show Rn 0 π0 _ (cos (pKs p)) _;rw[s];exact Rn.nilK
end Go.AM.SU
namespace Go.AM.SN
open Go.Proofs Go.AM.SD Go.AM.SE Go.AM.SO
variable{K S X v:AV}{i:Int}{ks:List (List (Nat×Int)×Int)}{xs:List (Nat×List (Nat×Nat))}{cs ds:List AV}{s:List UInt8}{f:Nat}{x:Nat×List (Nat×Nat)}{w:World}
noncomputable section
def is0:AV->Bool|.int .i64 n=>decide (n=0)|_=>false
theorem QvF:∀u,is0 u=true->u=.int .i64 0:=by intro u h;unfold is0 at h;grind
def nameR(s:List UInt8)(f:Nat)(X K:AV)(i:Int):Bool:=callR ansB noOrc SK.ft.get (exR ansB noOrc SK.ft.get 1000) (.c .pure) 197 [.str s,.fn f [] [.fptr [.any,X,K],.fptr [.int .i64 i]]] .e 64 (fun u _ _=>is0 u)
theorem Qs9(h:nameR s f X K i=true):Ps 197 [.str s,.fn f [] [.fptr [.any,X,K],.fptr [.int .i64 i]]] (.int .i64 0):=Qb7 (t:=SK.ft) SK.ft_ok QdH (d:=1000) is0 QvF h
theorem e0_1:nameR [101,48] 196 (.fsl [.str [101,48],.any] 1 2) .any 0=true:=by kernel_rfl
theorem e1_1:nameR [101,49] 196 (.fsl [.str [101,49],.any] 1 2) .any 0=true:=by kernel_rfl
theorem e0_2:nameR [101,48] 196 (.fsl [.str [101,48],.any,.str [101,49],.any] 2 2) .any 0=true:=by kernel_rfl
theorem e1_2a:nameR [101,49] 196 (.fsl [.str [101,48],.fsl [.any,.any] 1 2,.str [101,49],.any] 2 2) .any 1=true:=by kernel_rfl
theorem e1_2b:nameR [101,49] 196 (.fsl [.str [101,48],.fsl [.any,.any,.any,.any] 2 2,.str [101,49],.any] 2 2) .any 1=true:=by kernel_rfl
theorem e1_2c:nameR [101,49] 196 (.fsl [.str [101,48],.fsl [.any,.any,.any,.any,.any,.any] 3 2,.str [101,49],.any] 2 2) .any 1=true:=by kernel_rfl
theorem k_1:nameR [107] 199 .any (.fsl [.str [107],.any,.any] 1 3) 0=true:=by kernel_rfl
def Wk(x y:AV):Prop:=∀(ok:Okc)(c:Ctx ok)(w:World)(v:Value),VRel c w x v->VRel c w y v
def WkL:List AV->List AV->Prop|[],[]=>True|x::xs,y::a=>Wk x y/\WkL xs a|_,_=>False
theorem Wk.refl(x):Wk x x:=fun _ _ _ _ h=>h
theorem Wk.any{x}:Wk x .any:=fun _ _ _ _ _=>by simp[VRel]
theorem WkL.rels{ok}{c:Ctx ok}:∀{xs ys:List AV}{vs:List Value},WkL xs ys->VRels c w xs vs->VRels c w ys vs|[],[],_,_,a=>a|[],_::_,_,h,_=>h.elim|_::_,[],_,h,_=>h.elim|x::xs,y::ys,vs,h,a=>by simp only[VRels]at a⊢;obtain⟨v,b,rfl,h1,d⟩:=a;exact⟨v,b,rfl,h.1 _ c w v h1,WkL.rels h.2 d⟩
theorem WkL.pre{ok}{c:Ctx ok}:∀{xs ys:List AV}{vs:List Value},WkL xs ys->VPre c w xs vs->VPre c w ys vs|[],[],_,_,a=>a|[],_::_,_,h,_=>h.elim|_::_,[],_,h,_=>h.elim|x::xs,y::ys,vs,h,a=>by simp only[VPre]at a⊢;obtain⟨v,b,rfl,h1,d⟩:=a;exact⟨v,b,rfl,h.1 _ c w v h1,WkL.pre h.2 d⟩
theorem WkL.length:∀{xs ys:List AV},WkL xs ys->xs.length=ys.length|[],[],_=>rfl|[],_::_,h=>h.elim|_::_,[],h=>h.elim|x::xs,y::ys,h=>by simp[WkL.length h.2]
theorem Wk.fsl{len sz}(h:WkL cs ds):Wk (.fsl cs len sz) (.fsl ds len sz):=fun _ c w v b=>by
 simp only[VRel]at b⊢;have m:=h.length;rcases b with⟨h1,rfl,a⟩|⟨k,off,cap,C,e,g,h1,a,l,f,d,i⟩;·grind
 exact .inr ⟨k,off,cap,C,e,g,h1,a,by omega,f,d,h.pre i⟩
theorem Wk.fptr(h:WkL cs ds):Wk (.fptr cs) (.fptr ds):=fun _ c w v a=>by simp only[VRel]at a⊢;obtain⟨d,off,C,e,b,h1,i,f,g⟩:=a;exact⟨d,off,C,e,b,h1,i,f,h.pre g⟩
theorem Wk.fn{xs ys us vs}(h1:WkL xs ys)(g:WkL us vs):Wk (.fn f xs us) (.fn f ys vs):=fun _ c w v a=>by simp only[VRel]at a⊢;obtain⟨d,b,rfl,g1,g2⟩:=a;exact⟨d,b,rfl,h1.rels g1,g.rels g2⟩
theorem PSpec.wk{args bs}(a:WkL args bs)(b:noRefs args=true)(hp:Ps f bs v):Ps f args v:=SE.PSpec.weak (fun _ c w d _ h=>a.rels h) b hp
theorem nameW{X' K'}(h:nameR s f X' K' i=true)(b:Wk X X')(a:Wk K K')(c:noRefs [S,X,K]=true):Ps 197 [.str s,.fn f [] [.fptr [S,X,K],.fptr [.int .i64 i]]] (.int .i64 0):=by refine PSpec.wk (bs:=[.str s,.fn f [] [.fptr [.any,X',K'],.fptr [.int .i64 i]]]) ⟨Wk.refl _,Wk.fn trivial ⟨Wk.fptr ⟨Wk.any,b,a,trivial⟩,Wk.refl _,trivial⟩,trivial⟩ ?_ (Qs9 h);simp_all[noRefs,noRef]
theorem nameX{i:Nat}(c:xs[i]?=some x)(m:xs.length<=2)(s:(xs.map (·.1)).Pairwise (·<·))(k:∀x∈xs,x.1<2)(g:∀x∈xs,x.2≠[]/\x.2.length<=3)(d:noRefs [S,exs xs,K]=true):Ps 197 [.str [101,UInt8.ofNat (48+x.1)],.fn 196 [] [.fptr [S,exs xs,K],.fptr [.int .i64 (i:Int)]]] (.int .i64 0):=by match xs,m with
 |[],_=>simp at c|[(a,f)],_=>
  have hi:i=0:=by grind
  subst hi;simp at c;subst c;have l:=k (a,f) (by simp);have:a=0\/a=1:=by omega
  rcases this with rfl|rfl;·exact nameW e0_1 (Wk.fsl ⟨Wk.refl _,Wk.any,trivial⟩) Wk.any d
  ·exact nameW e1_1 (Wk.fsl ⟨Wk.refl _,Wk.any,trivial⟩) Wk.any d|[(a,f),(b,o)],_=>
  have l:=k (a,f) (by simp);have u:=k (b,o) (by simp);have n:a<b:=by simpa using s
  dsimp only at l u;obtain rfl:a=0:=by omega
  obtain rfl:b=1:=by omega
  have hi:i=0\/i=1:=by grind
  rcases hi with rfl|rfl;·simp at c;subst c;exact nameW e0_2 (Wk.fsl ⟨Wk.refl _,Wk.any,Wk.refl _,Wk.any,trivial⟩) Wk.any d
  ·simp at c;subst c;obtain⟨v,t⟩:=g (0,f) (by simp);match f,v,t with|[],h,_=>exact absurd rfl h|[p],_,_=>exact nameW e1_2a (Wk.fsl ⟨Wk.refl _,Wk.fsl ⟨Wk.any,Wk.any,trivial⟩,Wk.refl _,Wk.any,trivial⟩) Wk.any d|[p,q],_,_=>exact nameW e1_2b (Wk.fsl ⟨Wk.refl _,Wk.fsl ⟨Wk.any,Wk.any,Wk.any,Wk.any,trivial⟩,Wk.refl _,Wk.any,trivial⟩) Wk.any d|[p,q,r],_,_=>exact nameW e1_2c (Wk.fsl ⟨Wk.refl _,Wk.fsl ⟨Wk.any,Wk.any,Wk.any,Wk.any,Wk.any,Wk.any,trivial⟩,Wk.refl _,Wk.any,trivial⟩) Wk.any d
theorem nameK{x}(b:ks=[x])(a:noRefs [S,X,cos ks]=true):Ps 197 [.str [107],.fn 199 [] [.fptr [S,X,cos ks],.fptr [.int .i64 0]]] (.int .i64 0):=by subst b;exact nameW k_1 Wk.any (Wk.fsl ⟨Wk.refl _,Wk.any,Wk.any,trivial⟩) a
end
end Go.AM.SN
namespace Go.AM.SO
open Go.Proofs Go.AM.SD Go.AM.SE
theorem great190(n)(h1:-65536<=n)(a:n<=65536):Ps 253 [.int .i64 n] (.bool false):=by
 refine Zcn 64 (Ok s253) rfl rfl rfl ?_;have g1:¬n< -65536:=by omega
 have g2:¬65536<n:=by omega
 unfold s253;refine ZcR (Zc2 g1 g2) ?_;exact⟨.inr trivial,_,rfl,rfl⟩
abbrev cdC(S:List Nat)(xs:List (Nat×List (Nat×Nat)))(ks:List (List (Nat×Int)×Int)):List AV:=[sliN S,exs xs,cos ks]
abbrev cdV(S:List Nat)(xs:List (Nat×List (Nat×Nat)))(ks:List (List (Nat×Int)×Int)):AV:=.agg (cdC S xs ks)
theorem Qcd{S}{xs}{ks}:noRefs (cdC S xs ks)=true:=by rw[cdC,noRefs,noRefs,noRefs,Qab,SU.QbN,SU.Qlo];rfl
theorem QjY{l:List (Nat×Nat)}{i}{x}(h:l[i]?=some x):(l.flatMap loC).drop (i*2)=.int .i64 (x.1:Int)::.int .i64 (x.2:Int)::(l.drop (i+1)).flatMap loC:=Qba (f:=loC) (k:=2) (fun _=>rfl) h
theorem pw_at{l:List Nat}(h:l.Pairwise (·<·)){i}{x y}(b:l[i]?=some x)(a:l[i+1]?=some y):x<y:=by
 have hi:i+1<l.length:=by
  rcases ZbG (i+1) l.length with h|h;·exact h
  rw[ZaF h]at a;cases a
 rw[Zak (by omega)]at b;rw[Zak hi]at a;cases b;cases a;exact Zbf.1 h i (i+1) (by omega) hi (Nat.lt_succ_self _)
theorem _root_.Go.AM.au20{p:Prop}(h:p:=by repeat(first|exact Zct|(refine Zcu ?_ ?_;·(first|exact Zcj|exact Rn.x1 rfl rfl|exact Rn.x2 rfl rfl|exact Rn.x3 rfl rfl|exact Rn.x4 rfl rfl|exact Rn.x5 rfl|exact Rn.x6 rfl|exact Rn.x7 rfl|(refine ZcF ?_ ?_;(first|rfl|(rw[ZaG];rfl));(first|rfl|(simp only[noRef,noRefs,SD.Qaa,SD.Qab,SD.Qaf,SD.Qag,SD.Qah,SD.Qai,SD.Qaj,SD.Qal,SD.Qan,SD.Qaq,SE.QaR,SE.Qam,SE.Qao,SE.Qap,SE.Qav,SE.Qaz,SO.QaO,SO.Qau,SO.Qay,SU.Qa8,SU.QaX,SU.QbO,SU.Qbb,SU.Qby,Zad,Zae,Zag];done)))|(refine Rn.fn ?_ ?_<;>(repeat'(first|exact ZcB|refine ZcC ?_ ?_|exact Zck rfl|exact Rn.x6 rfl|exact Rn.x2 rfl rfl|exact Rn.x5 rfl|exact Rn.x1 rfl rfl))))))):p:=h
theorem excl103(S)(xs)(ks)(x)(hS:S.length<=8)(A:∀s∈S,s<=4096)(Q:x.2.length<=1000)(r:x.2≠[])(hp:(x.2.map (·.1)).Pairwise (·<·))(H:∀l∈x.2,∃n,S[l.1]?=some n/\l.2<n):Ps 198 [cdV S xs ks,.agg (exC x)] (.int .i64 0):=by
 obtain⟨t,l⟩:=x;dsimp only at Q r hp H;have hex:exC (t,l)=[.str [101,UInt8.ofNat (48+t)],los l]:=rfl;rw[hex];have a:=@Qcd S xs ks;have b:noRefs [.str [101,UInt8.ofNat (48+t)],los l]=true:=by rw[noRefs,noRefs,SU.Qcp];rfl
 refine Zcn 64 (Ok s198) rfl (by rw[noRefs,noRefs,noRef,noRef,a,b];rfl) rfl ?_;have u:¬(l.length:Int)=0:=by have:=List.length_pos_iff.2 r;omega
 have K:=SU.QgP l;unfold s198;refine ZcR u ?_;refine QaC 100 (fun i:Nat=>[(2,.ptr 50 0 0),(3,.ptr 51 0 0),(12,los l),(13,.int .i64 l.length),(14,.int .i64 i)]) (fun _=>[(50,.cells 0 (cdC S xs ks)),(51,.cells 0 [.str [101,UInt8.ofNat (48+t)],los l])]) (fun i=>i<=l.length) (fun i=>l.length-i) 0 ⟨[(50,.blk 64 0),(51,.blk 65 0)],rfl,au0,?_,au20⟩ (Zai _) ?_;·exact Zcw rfl rfl gg (Zcl a) (Zcw rfl rfl gg (Zcl b) Zcv)
 rintro i hi;by_cases d:i<l.length
 ·obtain⟨⟨c,s⟩,g⟩:=Qak d;obtain⟨n,m,B⟩:=H _ (Zac g);dsimp only at m B;have o:c<S.length:=by
   rcases ZbG c S.length with h|h;·exact h
   rw[ZaF h]at m;cases m
  have M:=A n (Zac m);have k:=QjY g;have p:2<=((l.flatMap loC).drop (i*2)).length:=by rw[k];simp
  have h1:¬(c:Int)<0:=by omega
  have F:¬(S.length:Int)<=(c:Int):=by omega
  have G:¬(s:Int)<0:=by omega
  have E:¬(n:Int)<=(s:Int):=by omega
  cases i with|zero=>
   have w:¬(0:Int)<((0:Nat):Int):=by omega
   refine ZcR (Zda d k p w h1 F G E (QaH m) o) ?_;refine⟨1,by omega,by omega,?_⟩;refine⟨[(50,.blk 50 0),(51,.blk 51 0)],rfl,au0,?_,au20⟩;exact Zcw rfl rfl gg (Zcl a) (Zcw rfl rfl gg (Zcl b) Zcv)|succ j=>
   obtain⟨⟨C,R⟩,f⟩:=Qak (l:=l) (i:=j) (by omega);have q:=QjY f;have P:C<c:=pw_at hp (i:=j) (by rw[Zaz,f];rfl) (by rw[Zaz,g];rfl);have w:(0:Int)<((j+1:Nat):Int):=by omega
   have N:¬(c:Int)<=(C:Int):=by omega
   have I:((j+1:Nat):Int)-1=(j:Int):=by omega
   have O:j<l.length:=by omega
   have hle:((j+1:Nat):Int)<(l.length:Int):=by omega
   have v:((j+1:Nat):Int).toNat=j+1:=by omega
   have y:0<=((j+1:Nat):Int):=by omega
   generalize L:((j+1:Nat):Int)=J at*;simp(disch:=first|omega|(simp only[lenW]<;>omega))only[d,hle,v,y,k,q,p,w,h1,F,G,E,N,I,O,QaH m,o,wV,simprocAttr];refine⟨j+2,by omega,by omega,?_⟩;have z:J+1=((j+2:Nat):Int):=by omega
   rw[z];exact bMOt5
 refine ZcR d ?_;exact⟨.inr trivial,_,rfl,rfl⟩
theorem cons105(S)(xs)(ks)(x)(hS:S.length<=8)(O:x.1.length<=1000)(m:x.1≠[])(hp:(x.1.map (·.1)).Pairwise (·<·))(E:∀l∈x.1,l.1<S.length/\l.2≠0/\-65536<=l.2/\l.2<=65536)(C:-65536<=x.2/\x.2<=65536):Ps 200 [cdV S xs ks,.agg (coC x)] (.int .i64 0):=by
 obtain⟨l,o⟩:=x;dsimp only at O m hp E C;have hex:coC (l,o)=[.str [107],tes l,.int .i64 o]:=rfl;rw[hex];have a:=@Qcd S xs ks;have b:noRefs [.str [107],tes l,.int .i64 o]=true:=by rw[noRefs,noRefs,SU.QcJ];rfl
 refine Zcn 64 (Ok s200) rfl (by rw[noRefs,noRefs,noRef,noRef,a,b];rfl) rfl ?_;have z:¬(l.length:Int)=0:=by have:=List.length_pos_iff.2 m;omega
 have K:=SU.Qdk l;have u:=great190 o C.1 C.2;unfold s200;refine ZcR z ?_;refine QaC 100 (fun i:Nat=>[(2,.ptr 50 0 0),(3,.ptr 51 0 0),(12,tes l),(13,.int .i64 l.length),(14,.int .i64 i)]) (fun _=>[(50,.cells 0 (cdC S xs ks)),(51,.cells 0 [.str [107],tes l,.int .i64 o])]) (fun i=>i<=l.length) (fun i=>l.length-i) 0 ⟨[(50,.blk 64 0),(51,.blk 65 0)],rfl,au0,?_,au20⟩ (Zai _) ?_;·exact Zcw rfl rfl gg (Zcl a) (Zcw rfl rfl gg (Zcl b) Zcv)
 rintro i hi;by_cases d:i<l.length
 ·obtain⟨⟨c,s⟩,h⟩:=Qak d;obtain⟨A,g,r,p⟩:=E _ (Zac h);dsimp only at A g r p;have k:=SU.QdL h;have q:2<=((l.flatMap teC).drop (i*2)).length:=by rw[k];simp
  have h1:¬(c:Int)<0:=by omega
  have G:¬(S.length:Int)<=(c:Int):=by omega
  have t:=great190 s r p;cases i with|zero=>
   have v:¬(0:Int)<((0:Nat):Int):=by omega
   refine ZcR (Zc7 d k q v h1 G g) ?_;refine cp t ?_;refine ZcQ ?_;refine⟨1,by omega,by omega,?_⟩;refine⟨[(50,.blk 50 0),(51,.blk 51 0)],rfl,au0,?_,au20⟩;exact Zcw rfl rfl gg (Zcl a) (Zcw rfl rfl gg (Zcl b) Zcv)|succ j=>
   obtain⟨⟨F,P⟩,f⟩:=Qak (l:=l) (i:=j) (by omega);have n:=SU.QdL f;have I:F<c:=pw_at hp (i:=j) (by rw[Zaz,f];rfl) (by rw[Zaz,h];rfl);have v:(0:Int)<((j+1:Nat):Int):=by omega
   have H:¬(c:Int)<=(F:Int):=by omega
   have L:((j+1:Nat):Int)-1=(j:Int):=by omega
   have M:j<l.length:=by omega
   have hle:((j+1:Nat):Int)<(l.length:Int):=by omega
   have B:((j+1:Nat):Int).toNat=j+1:=by omega
   have w:0<=((j+1:Nat):Int):=by omega
   generalize N:((j+1:Nat):Int)=J at*;refine ZcR (Zde d hle B w k n q v h1 G g H L M) ?_;refine cp t ?_;refine ZcQ ?_;refine⟨j+2,by omega,by omega,?_⟩;have y:J+1=((j+2:Nat):Int):=by omega
   rw[y];exact bMOt5
 refine ZcR d ?_;refine cp u ?_;refine ZcQ ?_;exact⟨.inr trivial,_,rfl,rfl⟩
end Go.AM.SO
namespace Go.AM.SQ
open Go.Proofs
set_option maxHeartbeats 4000000
noncomputable section
def cf:YA.Cf:={most:=.pure,always:=[197].map fun k=>(k,.heap)}
def s156:SFn:=by
 refine(?f:YA.Yt Tryz.prog cf 156 [[0,2],[15,16,17],[1,18],[2,18,19],[],[23,24,25],[4,26,27,28],[1,20,21,22,30,29,41,40,39,38,31],[2,31,32],[20,21,22,30,29,41,40,39,38,33,34,35,36,37],[1,42],[2,42,43],[],[47,48,49,50],[5,51],[7,52,53,54,55],[56],[1,44,45,46,6,8,57,58],[2,6,8,57,59,60,61],[62],[1,44,45,46,9,63,64],[2,9,63,65],[44,45,46,66],[],[70,71,72,73],[10,74],[12,75,76,77,78],[79],[1,67,68,69,11,13,80,81],[2,11,13,80,82,83,84],[85],[1,67,68,69,14,86,87],[2,14,86,88],[1,67,68,69]]) ?s ?h;case h=>exact YA.rr
 exact fun s _=>s
end
end Go.AM.SQ
namespace Go.AM.SO
open Go.Proofs Go.AM.SD Go.AM.SE
variable{c:Cel}{cap:List AV}{K i:Nat}{x:Nat×List (Nat×Nat)}{α:Type}{l:List α}{q:α->Bool}{f:α->List AV}
def szs(c:Cel):List Nat:=c.cs.map (·.2.n)
theorem WfCel.comp(h:WfCel c)(b:x∈c.xs):∀l∈x.2,∃n,(szs c)[l.1]?=some n/\l.2<n:=fun l a=>by obtain⟨y,h1,d⟩:=(h.xl x b).2.2 l a;exact⟨y.2.n,by unfold szs;rw[Zaz,h1];rfl,d⟩
theorem WfCel.xlen(h:WfCel c)(a:x∈c.xs):x.2.length<=3:=by
 have h1:=Qa4 c.cs.length (x.2.map (·.1)) (by rw[ZaO];exact(h.xl x a).2.1.imp fun h=>by omega) (fun y d=>by
  obtain⟨l,b,rfl⟩:=Zap.1 d;obtain⟨z,h1,_⟩:=(h.xl x a).2.2 l b;rcases ZbG l.1 c.cs.length with h|h;·exact h
  rw[ZaF h]at h1;cases h1);rw[Zav]at h1;exact ZaA h1 h.c3
theorem WfCel.klen(h:WfCel c){x}(a:x∈c.ks):x.1.length<=3:=by have h1:=Qa4 c.cs.length (x.1.map (·.1)) (by rw[ZaO];exact(h.kl x a).2.1.imp fun h=>by omega) (fun y d=>by obtain⟨l,b,rfl⟩:=Zap.1 d;exact((h.kl x a).2.2.1 l b).1);rw[Zav]at h1;exact ZaA h1 h.c3
theorem WfCel.slen(h:WfCel c):(szs c).length=c.cs.length:=by simp[szs]
theorem WfCel.sz(h:WfCel c):∀s∈szs c,1<=s/\s<=3:=fun s b=>by obtain⟨x,a,rfl⟩:=Zap.1 b;exact⟨(h.ca x a).pos,(h.ca x a).n3⟩
theorem QjZ{l:List (Nat×List (Nat×Nat))}(h:l[i]?=some x):(l.flatMap exC).drop (i*2)=.str [101,UInt8.ofNat (48+x.1)]::los x.2::(l.drop (i+1)).flatMap exC:=Qba (f:=exC) (k:=2) (fun _=>rfl) h
theorem Qj0{l:List (List (Nat×Int)×Int)}{x}(h:l[i]?=some x):(l.flatMap coC).drop (i*3)=.str [107]::tes x.1::.int .i64 x.2::(l.drop (i+1)).flatMap coC:=Qba (f:=coC) (k:=3) (fun _=>rfl) h
theorem QgQ(l:List (List (Nat×Int)×Int)):(l.flatMap coC).length=l.length*3:=Qbe (k:=3) (fun _=>rfl) l
theorem conds32(c)(h:WfCel c):Ps 156 [cdV (szs c) c.xs c.ks] (.int .i64 0):=by
 have a:=@Qcd (szs c) c.xs c.ks;refine Zcn 64 (Ok SQ.s156) rfl (by rw[noRefs,noRef,a];rfl) rfl ?_;have B:=h.slen;have E:=h.c3;have r:=h.x2;have v:=h.k1;have g1:¬(8:Int)<((szs c).length:Int):=by omega
 have g2:¬(32:Int)<(c.xs.length:Int):=by omega
 have g3:¬(32:Int)<(c.ks.length:Int):=by omega
 have w:∀x∈c.xs,x.2≠[]/\x.2.length<=3:=fun x g=>⟨(h.xl x g).1,h.xlen g⟩;unfold SQ.s156;refine Zc1 g1 ?_;refine Qar 100 (fun i:Nat=>[(1,.ptr 50 0 0),(20,sliN (szs c)),(21,.int .i64 (szs c).length),(22,.int .i64 i)]) (fun _=>[(50,.cells 0 (cdC (szs c) c.xs c.ks))]) (fun i=>i<=(szs c).length) (fun i=>(szs c).length-i) 0 0 140 (fun _:Unit=>[(1,.ptr 50 0 0)]) (fun _=>[(50,.cells 0 (cdC (szs c) c.xs c.ks))]) (fun _=>True) ⟨[(50,.blk 64 0)],rfl,au0,?_,au20⟩ (Zai _) ?_ ?_;·exact Zcw rfl rfl gg (Zcl a) Zcv
 ·rintro i hi;by_cases b:i<(szs c).length
  ·obtain⟨s,o⟩:=Qak b;obtain⟨H,z⟩:=h.sz s (Zac o);have q1:¬(s:Int)<1:=by omega
   have q2:¬(4096:Int)<(s:Int):=by omega
   refine Zc1 (Zc4 b (QaH o) @q1 @q2) ?_;exact bAnq4
  exact b05mY
 rintro _ _;refine Zc1 (Zc2 g2 g3) ?_;refine Qar 200 (fun i:Nat=>[(1,.ptr 50 0 0),(44,exs c.xs),(45,.int .i64 c.xs.length),(46,.int .i64 i)]) (fun _=>[(50,.cells 0 (cdC (szs c) c.xs c.ks))]) (fun i=>i<=c.xs.length) (fun i=>c.xs.length-i) 0 2 240 (fun _:Unit=>[(1,.ptr 50 0 0)]) (fun _=>[(50,.cells 0 (cdC (szs c) c.xs c.ks))]) (fun _=>True) ⟨[(50,.blk 50 0)],rfl,au0,?_,au20⟩ (Zai _) ?_ ?_;·exact Zcw rfl rfl gg (Zcl a) Zcv
 ·rintro i hi;by_cases b:i<c.xs.length
  ·obtain⟨x,g⟩:=Qak b;have d:=Zac g;have f:=QjZ g;have k:2<=((c.xs.flatMap exC).drop (i*2)).length:=by rw[f];simp
   have p:=SN.nameX g r h.xn.1 h.xn.2 w a;have n:=excl103 (szs c) c.xs c.ks x (by omega) (fun s o=>by have:=h.sz s o;omega) (by have:=h.xlen d;omega) (h.xl x d).1 (h.xl x d).2.1 (h.comp d);have hex:exC x=[.str [101,UInt8.ofNat (48+x.1)],los x.2]:=rfl;rw[hex]at n;refine Zc1 (Zc3 b f k) ?_;refine SU.chc (ZcI (ZcL (Zcq _) (ZcL (FrzTo.fn ZcK (ZcL (ZcH (g:=0) (cs:=cdC (szs c) c.xs c.ks) gg (Zcr _)) (ZcL (ZcH (g:=0) (cs:=[.int .i64 (i:Int)]) gg (Zcr _)) ZcK))) ZcK)) p rfl) ?_;refine Zc0 ?_;refine cp n ?_;refine Zc0 ?_;exact bAnq4
  exact b05mY
 rintro _ _;refine Zc0 ?_;refine QaC 300 (fun i:Nat=>[(1,.ptr 50 0 0),(67,cos c.ks),(68,.int .i64 c.ks.length),(69,.int .i64 i)]) (fun _=>[(50,.cells 0 (cdC (szs c) c.xs c.ks))]) (fun i=>i<=c.ks.length) (fun i=>c.ks.length-i) 0 ⟨[(50,.blk 50 0)],rfl,au0,?_,au20⟩ (Zai _) ?_;·exact Zcw rfl rfl gg (Zcl a) Zcv
 rintro i hi;by_cases b:i<c.ks.length
 ·obtain⟨x,g⟩:=Qak b;have q:i=0:=by omega
  subst q;have d:=Zac g;have f:=Qj0 g;rw[Nat.zero_mul]at f;have k:3<=(c.ks.flatMap coC).length:=by rw[QgQ];omega
  have u:c.ks=[x]:=by match hk:c.ks,g,v with|[y],g,_=>simp at g;rw[g]
  have p:=SN.nameK (S:=sliN (szs c)) (X:=exs c.xs) u a;obtain⟨F,G,A,K,I⟩:=h.kl x d;have n:=cons105 (szs c) c.xs c.ks x (by omega) (by have:=h.klen d;omega) F G (fun l C=>by obtain⟨q1,q2,L,J⟩:=A l C;exact⟨by omega,q2,by omega,by omega⟩) ⟨by omega,by omega⟩;have hex:coC x=[.str [107],tes x.1,.int .i64 x.2]:=rfl;rw[hex]at n;have m:(0:Int)<(c.ks.length:Int):=by omega
  rw[ZaX]at f;have t:List.take 3 (c.ks.flatMap coC)=[.str [107],tes x.1,.int .i64 x.2]:=by rw[f];rfl
  refine Zc1 (Zc4 b m t k) ?_;refine SU.chc (ZcI (ZcL (Zcq _) (ZcL (FrzTo.fn ZcK (ZcL (ZcH (g:=0) (cs:=cdC (szs c) c.xs c.ks) gg (Zcr _)) (ZcL (ZcH (g:=0) (cs:=[.int .i64 0]) gg (Zcr _)) ZcK))) ZcK)) p rfl) ?_;refine Zc0 ?_;refine cp n ?_;refine Zc0 ?_;refine⟨1,by omega,by omega,?_⟩;refine⟨[(50,.blk 50 0)],rfl,au0,?_,au20⟩;exact Zcw rfl rfl gg (Zcl a) Zcv
 refine Zc1 b ?_;exact⟨.inr trivial,_,rfl,rfl⟩
theorem _root_.Go.AM.ZcX{p q A:Prop}(a:A)(k:q)(h:A->p=q:=by intro a;conv=>lhs;simp(disch:=first|omega|exact PairsOK.mk rfl|(simp only[lenW]<;>omega))only[a,Zan,wW,wV,simprocAttr]):p:=h a▸k
theorem Qc0(hf:∀x,(f x).all AV.one=true):∀l:List α,(l.flatMap f).all AV.one=true|[]=>rfl|x::l=>by rw[Zay,ZbS,hf,Qc0 hf l];rfl
theorem clone148(l)(f:l.length<=1000)(c:l≠[]):Ps 201 [los l] (los l):=by
 refine Zcm 100 (Ok s201) rfl (by rw[noRefs,SU.Qcp];rfl) (SU.Qcp _) ?_;have d:aEqN false (los l)=.ret (.bool false):=by match l,c with|x::l,_=>rfl
 have a:(l.flatMap loC).all AV.one=true:=Qc0 (fun _=>rfl) l;have b:=SU.QgP l;unfold s201;refine Zc1 (Zc3 d a b) ?_;exact⟨.inr trivial,_,rfl,ZcE rfl b (Zcl (SU.Qby _))⟩
theorem clone149(l)(f:l.length<=1000)(c:l≠[]):Ps 202 [tes l] (tes l):=by
 refine Zcm 100 (Ok s202) rfl (by rw[noRefs,SU.QcJ];rfl) (SU.QcJ _) ?_;have d:aEqN false (tes l)=.ret (.bool false):=by match l,c with|x::l,_=>rfl
 have a:(l.flatMap teC).all AV.one=true:=Qc0 (fun _=>rfl) l;have b:=SU.Qdk l;unfold s202;refine Zc1 (Zc3 d a b) ?_;exact⟨.inr trivial,_,rfl,ZcE rfl b (Zcl (SU.QaX _))⟩
theorem take_succ'{x}(h:l[i]?=some x):l.take (i+1)=l.take i++[x]:=by rw[ZaZ,h];rfl
theorem QvG:List.flatMap exC [x]=[.str [101,UInt8.ofNat (48+x.1)],los x.2]:=rfl
theorem QvH{x}:List.flatMap coC [x]=[.str [107],tes x.1,.int .i64 x.2]:=rfl
theorem conds85(c)(h:WfCel c):Ps 157 [celV c] (cdV (szs c) c.xs c.ks):=by
 have g:noRefs [evsV c.ev,its 99 c.cs,its 114 c.rs,exs c.xs,cos c.ks]=true:=by have:=SU.Qa0 c;rwa[celV,noRef]at this
 refine Zcm 64 (Ok s157) rfl (by rw[noRefs,SU.Qa0];rfl) (by rw[noRef];exact Qcd) ?_;have v:=h.c3;have w:=h.x2;have u:=h.k1;have t:=@SU.Qd4 99 c.cs;have s:=SU.QeP c.xs;have y:=QgQ c.ks;unfold s157;refine Zc0 ?_;refine Qar 100 (fun i:Nat=>[(1,.ptr 50 0 0),(2,.ptr 51 0 0),(3,.ptr 52 0 0),(12,its 99 c.cs),(13,.int .i64 c.cs.length),(14,.int .i64 i)]) (fun i=>[(50,.cells 0 [evsV c.ev,its 99 c.cs,its 114 c.rs,exs c.xs,cos c.ks]),(51,.cells 0 [.nilsl,.nilsl,.nilsl]),(52,.cells 0 [.sl 76 0 0 (szs c|>.take i).length 1,.nilsl,.nilsl]),(76,.cells 0 (ints (nz ((szs c).take i))))]) (fun i=>i<=c.cs.length) (fun i=>c.cs.length-i) 0 0 160 (fun _:Unit=>[(1,.ptr 50 0 0),(2,.ptr 51 0 0),(3,.ptr 52 0 0)]) (fun _=>[(50,.cells 0 [evsV c.ev,its 99 c.cs,its 114 c.rs,exs c.xs,cos c.ks]),(51,.cells 0 [.nilsl,.nilsl,.nilsl]),(52,.cells 0 [sliN (szs c),.nilsl,.nilsl])]) (fun _=>True) ⟨[(50,.blk 64 0),(51,.blk 65 0),(52,.blk 67 0),(76,.nil)],rfl,au0,?_,au20⟩ (Zai _) ?_ ?_;·exact Zcw rfl rfl gg (Zcl g) (Zcw rfl rfl gg (Zcl rfl) (Zcw rfl rfl gg (ZcC (Rn.x4 rfl rfl) (Zcl rfl)) (Zcx rfl rfl Zcv)))
 ·rintro i hi;by_cases a:i<c.cs.length
  ·obtain⟨x,n⟩:=Qak a;have d:=SU.QdM (ch:=99) n;have m:5<=((c.cs.flatMap (itC 99)).drop (i*5)).length:=by rw[d];simp
   have q:(szs c)[i]?=some x.2.n:=by unfold szs;rw[Zaz,n];rfl
   have f:=take_succ' q;have b:((szs c).take i).length=i:=by rw[Zaq,h.slen];omega
   have r:=@SU.Qed [99,UInt8.ofNat (48+x.1)] x.2;refine Zc1 (Zc4 a d m b) ?_;refine⟨i+1,by omega,by omega,?_⟩;rw[f,Zaf,QaQ,QaF,b];refine⟨[(50,.blk 50 0),(51,.blk 51 0),(52,.blk 52 0),(76,.blk 76 1)],rfl,au0,?_,au20⟩;exact Zcw rfl rfl gg (Zcl g) (Zcw rfl rfl gg (Zcl rfl) (Zcw rfl rfl gg (ZcC (Rn.x1 rfl rfl) (Zcl rfl)) (Zcw rfl rfl gg (Zcl (SU.Qaw (Qaa _) rfl)) Zcv)))
  have e:i=c.cs.length:=by omega
  subst e;have p:(szs c).take c.cs.length=szs c:=by rw[<-h.slen,Zan]
  refine Zc1 (Zc2 a p) ?_;refine⟨(),?_⟩;refine⟨[(50,.blk 50 0),(51,.blk 51 0),(52,.blk 52 0)],rfl,au0,?_,au20⟩;exact Zcw rfl rfl gg (Zcl g) (Zcw rfl rfl gg (Zcl rfl) (Zcw rfl rfl gg (ZcC (ZcD rfl rfl rfl rfl (by simp[ints]) (Zcl (Qaa _))) (Zcl rfl)) Zcv))
 rintro _ _;refine Zc0 ?_;refine Qar 200 (fun i:Nat=>[(1,.ptr 50 0 0),(2,.ptr 51 0 0),(3,.ptr 52 0 0),(28,exs c.xs),(29,.int .i64 c.xs.length),(30,.int .i64 i)]) (fun i=>[(50,.cells 0 [evsV c.ev,its 99 c.cs,its 114 c.rs,exs c.xs,cos c.ks]),(51,.cells 0 [.nilsl,.nilsl,.nilsl]),(52,.cells 0 [sliN (szs c),.sl 77 0 0 (c.xs.take i).length 2,.nilsl]),(77,.cells 0 ((c.xs.take i).flatMap exC))]) (fun i=>i<=c.xs.length) (fun i=>c.xs.length-i) 0 2 260 (fun _:Unit=>[(1,.ptr 50 0 0),(2,.ptr 51 0 0),(3,.ptr 52 0 0)]) (fun _=>[(50,.cells 0 [evsV c.ev,its 99 c.cs,its 114 c.rs,exs c.xs,cos c.ks]),(51,.cells 0 [.nilsl,.nilsl,.nilsl]),(52,.cells 0 [sliN (szs c),exs c.xs,.nilsl])]) (fun _=>True) ⟨[(50,.blk 50 0),(51,.blk 51 0),(52,.blk 52 0),(77,.nil)],rfl,au0,?_,au20⟩ (Zai _) ?_ ?_;·exact Zcw rfl rfl gg (Zcl g) (Zcw rfl rfl gg (Zcl rfl) (Zcw rfl rfl gg (ZcC (Zck (Qab _)) (ZcC (Rn.x4 rfl rfl) (Zcl rfl))) (Zcx rfl rfl Zcv)))
 ·rintro i hi;by_cases a:i<c.xs.length
  ·obtain⟨x,n⟩:=Qak a;have l:=Zac n;have d:=QjZ n;have m:2<=((c.xs.flatMap exC).drop (i*2)).length:=by rw[d];simp
   have f:=take_succ' n;have b:(c.xs.take i).length=i:=by rw[Zaq];omega
   have o:=clone148 x.2 (by have:=h.xlen l;omega) (h.xl x l).1;have k:=SU.QeP (c.xs.take i);rw[b]at k;refine Zc1 (Zc4 a d m b) ?_;refine cp o ?_;refine Zc1 k ?_;refine⟨i+1,by omega,by omega,?_⟩;rw[f,Zaf,Zao,b,QvG];refine⟨[(50,.blk 50 0),(51,.blk 51 0),(52,.blk 52 0),(77,.blk 77 1)],rfl,au0,?_,au20⟩;exact Zcw rfl rfl gg (Zcl g) (Zcw rfl rfl gg (Zcl rfl) (Zcw rfl rfl gg (ZcC (Zck (Qab _)) (ZcC (Rn.x1 rfl rfl) (Zcl rfl))) (Zcw rfl rfl gg (Zcl (SU.Qaw (SU.Qa8 _) (by rw[noRefs,noRefs,SU.Qcp];rfl))) Zcv)))
  have e:i=c.xs.length:=by omega
  subst e;refine ZcX a ?_;refine⟨(),?_⟩;refine⟨[(50,.blk 50 0),(51,.blk 51 0),(52,.blk 52 0)],rfl,au0,?_,au20⟩;exact Zcw rfl rfl gg (Zcl g) (Zcw rfl rfl gg (Zcl rfl) (Zcw rfl rfl gg (ZcC (Zck (Qab _)) (ZcC (ZcD rfl rfl rfl rfl (SU.QeP _) (Zcl (SU.Qa8 _))) (Zcl rfl))) Zcv))
 rintro _ _;refine Zc0 ?_;refine Qar 300 (fun i:Nat=>[(2,.ptr 51 0 0),(3,.ptr 52 0 0),(47,cos c.ks),(48,.int .i64 c.ks.length),(49,.int .i64 i)]) (fun i=>[(51,.cells 0 [.nilsl,.nilsl,.nilsl]),(52,.cells 0 [sliN (szs c),exs c.xs,.sl 78 0 0 (c.ks.take i).length 3]),(78,.cells 0 ((c.ks.take i).flatMap coC))]) (fun i=>i<=c.ks.length) (fun i=>c.ks.length-i) 0 4 360 (fun _:Unit=>[(2,.ptr 51 0 0),(3,.ptr 52 0 0)]) (fun _=>[(51,.cells 0 [.nilsl,.nilsl,.nilsl]),(52,.cells 0 [sliN (szs c),exs c.xs,cos c.ks])]) (fun _=>True) ⟨[(51,.blk 51 0),(52,.blk 52 0),(78,.nil)],rfl,au0,?_,au20⟩ (Zai _) ?_ ?_;·exact Zcw rfl rfl gg (Zcl rfl) (Zcw rfl rfl gg (ZcC (Zck (Qab _)) (ZcC (Zck (SU.QbN _)) (ZcC (Rn.x4 rfl rfl) ZcB))) (Zcx rfl rfl Zcv))
 ·rintro i hi;by_cases a:i<c.ks.length
  ·obtain⟨x,n⟩:=Qak a;have l:=Zac n;have d:=Qj0 n;have m:3<=((c.ks.flatMap coC).drop (i*3)).length:=by rw[d];simp
   have f:=take_succ' n;have b:(c.ks.take i).length=i:=by rw[Zaq];omega
   have o:=clone149 x.1 (by have:=h.klen l;omega) (h.kl x l).1;have k:=QgQ (c.ks.take i);rw[b]at k;refine Zc1 (Zc4 a d m b) ?_;refine cp o ?_;refine Zc1 k ?_;refine⟨i+1,by omega,by omega,?_⟩;rw[f,Zaf,Zao,b,QvH];refine⟨[(51,.blk 51 0),(52,.blk 52 0),(78,.blk 78 1)],rfl,au0,?_,au20⟩;exact Zcw rfl rfl gg (Zcl rfl) (Zcw rfl rfl gg (ZcC (Zck (Qab _)) (ZcC (Zck (SU.QbN _)) (ZcC (Rn.x1 rfl rfl) ZcB))) (Zcw rfl rfl gg (Zcl (SU.Qaw (SU.QbO _) (by rw[noRefs,noRefs,SU.QcJ];rfl))) Zcv))
  have e:i=c.ks.length:=by omega
  subst e;refine ZcX a ?_;refine⟨(),?_⟩;refine⟨[(51,.blk 51 0),(52,.blk 52 0)],rfl,au0,?_,au20⟩;exact Zcw rfl rfl gg (Zcl rfl) (Zcw rfl rfl gg (ZcC (Zck (Qab _)) (ZcC (Zck (SU.QbN _)) (ZcC (ZcD rfl rfl rfl rfl (QgQ _) (Zcl (SU.QbO _))) ZcB))) Zcv)
 rintro _ _;refine Zc0 ?_;refine⟨.inr trivial,_,rfl,?_⟩;exact Zck (by rw[noRef];exact Qcd)
def idxQ{α:Type}(q:α->Bool)(l:List α):Int:=if l.any q then(l.findIdx q:Int)else-1
theorem Qd5(h:∀x∈l,q x=false):idxQ q l=-1:=by unfold idxQ;rw[if_neg];rw[Zby];rintro⟨x,b,a⟩;rw[h x b]at a;cases a
theorem Qfr{x}(a:l[i]?=some x)(c:q x=true)(d:∀(j:Nat)y,j<i->l[j]?=some y->q y=false):idxQ q l=i:=by
 have b:i<l.length:=by
  rcases ZbG i l.length with h|h;·exact h
  rw[ZaF h]at a;cases a
 have h1:l.any q=true:=Zby.2 ⟨x,Zac a,c⟩;have g:l.findIdx q=i:=by rw[Zcc b];refine⟨by rw[Zak b]at a;cases a;exact c,fun j f=>d j l[j] f (Zak (by omega))⟩
 unfold idxQ;rw[if_pos h1,g]
theorem Qo6{α}{q}{l:List α}:decide (0<=idxQ q l)=l.any q:=by
 unfold idxQ;cases h:l.any q;·simp
 simp
theorem QbP(h:noRefs cap=true):noRef (.fn K [] cap)=true:=by simp only[noRef,noRefs,h];rfl
theorem index110(q:Nat->Bool)(l:List Nat)(r:l.length<=1000000)(hc:noRefs cap=true)(hk:∀x∈l,Ps K (.int .i64 (x:Int)::cap) (.bool (q x))):Ps 151 [sliN l,.fn K [] cap] (.int .i64 (idxQ q l)):=by
 refine Zcn 64 (Ok s151) rfl (by rw[noRefs,noRefs,QbP hc,(Qab _)];rfl) rfl ?_;have c:=QbP (K:=K) hc;have n:=(show(ints (nz l)).length=l.length*1 by simp[ints]);unfold s151;refine Zc1 @Zas ?_;refine QaC 100 (fun i:Nat=>[(0,sliN l),(1,.fn K [] cap),(7,.int .i64 l.length),(8,.int .i64 i)]) (fun _=>[]) (fun i=>i<=l.length/\∀(j:Nat)y,j<i->l[j]?=some y->q y=false) (fun i=>l.length-i) 0 ?_ ⟨Zai _,fun j y k=>absurd k (ZaD _)⟩ ?_;·exact⟨[],rfl,Zcs,Zcv,Zcu (Zck (Qab _)) (Zcu (Zck c) (Zcu (Zck rfl) (Zcu (Zck rfl) Zct)))⟩
 rintro i⟨hi,m⟩;by_cases a:i<l.length
 ·obtain⟨x,b⟩:=Qak a;have h:=hk x (Zac b);have d:=QaH b;have f:1<=(List.drop (i*1) (ints (nz l))).length:=by rw[ZaQ,n];omega
  cases g:q x
  ·rw[g]at h;refine Zc1 (Zc5 a d f @Zbn @Zas) ?_;refine⟨_,by simpa using h,?_⟩;refine Zc1 @Zas ?_;refine⟨i+1,by omega,⟨by omega,fun j y k o=>?_⟩,?_⟩
   ·by_cases e:j=i;·subst e;rw[b]at o;cases o;exact g
    exact m j y (by omega) o
   exact⟨[],rfl,Zcs,Zcv,Zcu (Zck (Qab _)) (Zcu (Zck c) (Zcu (Zck rfl) (Zcu (Zck rfl) Zct)))⟩
  rw[g]at h;refine Zc1 (Zc5 a d f @Zbn @Zas) ?_;refine⟨_,by simpa using h,?_⟩;refine Zc1 @Zas ?_;refine⟨.inr trivial,_,rfl,?_⟩;rw[Qfr b g m];rfl
 refine Zc1 (Zc2 a @Zas) ?_;refine⟨.inr trivial,_,rfl,?_⟩;rw[Qd5 fun x b=>by obtain⟨j,k,p⟩:=Za4 b;exact m j x (by omega) (by rw[Zak k,p])];rfl
theorem contains36(q:Nat->Bool)(l:List Nat)(a:l.length<=1000000)(hc:noRefs cap=true)(hk:∀x∈l,Ps K (.int .i64 (x:Int)::cap) (.bool (q x))):Ps 144 [sliN l,.fn K [] cap] (.bool (l.any q)):=by
 refine Zcn 64 (Ok s144) rfl (by rw[noRefs,noRefs,QbP hc,Qab];rfl) rfl ?_;unfold s144;refine Zc1 @Zas ?_;refine cp (index110 q l a hc hk) ?_;have e:=@Qo6 Nat q l;cases h:l.any q;·rw[h,decide_eq_false_iff_not]at e;refine Zc1 (Zc2 e @Zas) ?_;exact⟨.inr trivial,_,rfl,rfl⟩
 rw[h,decide_eq_true_eq]at e;refine Zc1 (Zc2 e @Zas) ?_;exact⟨.inr trivial,_,rfl,rfl⟩
theorem ge166(x:Nat):Ps 192 [.int .i64 (x:Int),.fptr [.int .i64 5]] (.bool (decide (5<=x))):=by refine Zcn 64 (Ok s192) rfl rfl rfl ?_;have e:decide ((5:Int)<=(x:Int))=decide (5<=x):=decide_eq_decide.2 (by omega);unfold s192;refine Zc1 (Zc2 e @Zas) ?_;exact⟨.inr trivial,_,rfl,rfl⟩
end Go.AM.SO
namespace Go.AM.SR
open Go.Proofs
set_option maxHeartbeats 4000000
noncomputable section
def cf:YA.Cf:={most:=.pure,always:=[144].map fun k=>(k,.heap)}
def s154:SFn:=by
 refine(?f:YA.Yt Tryz.prog cf 154 [[0,1,8],[11,12,13,14],[2,3,4,5,10],[10,16,17,18,19],[2,3,4,5,15],[8,3,15,20,21,22],[23,24,25],[26],[2,4,5,9,27,28],[8,9,27,30,31,32,33],[2,4,5,29],[29,35,36,37,38],[2,4,5,34],[5,34,40,41,42,43,44],[2,4,39],[2,4,39,46,47,48,49,50,51],[45],[45]]) ?s ?h;case h=>exact YA.rr
 exact fun s _=>s
end
end Go.AM.SR
namespace Go.AM.SO
open Go.Proofs Go.AM.SD Go.AM.SE
variable{a:Aut}{c:Cel}{h:Heap}{n:Int}{l:List (Nat×Aut)}{A B b:List Nat}{i m:Nat}{π:Nat->Option Src}{x:Nat×Aut}{s:UInt8}
theorem QrG(hA:A.Pairwise (·<·))(c:B.Pairwise (·<·))(h:∀x∈A,x∈B):mrg (fun a b=>a&&!b) A B=[]:=by rw[List.eq_nil_iff_forall_not_mem];intro x d;obtain⟨h1,f⟩:=(Qb9 hA c).1 d;simp at h1;exact h1.2 (h x h1.1)
theorem QgR(h:WfA a):a.al.length<=32:=Qa4 32 a.al (by rw[ZaO];exact h.al.imp fun h=>by omega) h.al5
abbrev nmsB(l:List (List UInt8)):Blk:=.map 0 (mapS yes l)
theorem item83(i)(a)(B)(names)(h:WfI a)(s:Ps 165 [.str i] (.bool true))(m:i∉names)(t:names.length<=100)(n:B.Pairwise (·<·))(k:B.length<=1000000)(p:∀x∈a.al,x∈B):HSpec Tryz.prog 154 [.agg [.str i,sliN a.al,.int .i64 (a.n:Int),sliN a.ms,egsN a.es],.int .i64 5,sliN B,.map 68 0] (hp [(68,nmsB names)]) (.int .i64 0) (hp [(68,nmsB (names++[i]))]):=by
 have q:=QgR h.wf;have f:a.es.length<=1000000:=ZaA h.el (by decide);have u:=check112 a h.wf f;have r:=isCanon60 a h.wf f h.can;have o:=h.pos;have l:¬(a.n:Int)=0:=by omega
 have d:=contains36 (K:=192) (cap:=[.fptr [.int .i64 5]]) (fun x=>decide (5<=x)) a.al (by omega) rfl (fun x _=>ge166 x);have g:a.al.any (fun x=>decide (5<=x))=false:=by rw[List.any_eq_false];intro x v;have:=h.a5 x v;simp;omega
 rw[g]at d;have b:=subset167 a.al B (by omega) k;rw[QrG h.wf.al n p]at b;have c:Ps 193 [sliN a.al,sliN B] (.bool true):=b;refine HSpec.QuZ (m:=69) 100 (Ok SR.s154) rfl rfl rfl ?_;unfold SR.s154;refine Zc0 ?_;refine cp s ?_;refine Zc0 ?_;refine QgM gg m ?_;refine Zc0 ?_;refine QeO gg m (by omega) ?_;refine Zc1 @Qim ?_;refine cp u ?_;refine Zc0 ?_;refine cp r ?_;refine Zc1 l ?_;refine SU.chc (ZcI (ZcL (Zcq _) (ZcL (FrzTo.fn ZcK (ZcL (ZcH (g:=0) (cs:=[.int .i64 5]) gg (Zcr _)) ZcK)) ZcK)) d rfl) ?_;refine Zc0 ?_;refine cp c ?_;refine Zc0 ?_;refine⟨.inr trivial,_,rfl,rfl,?_⟩;refine⟨[(68,.nil)],rfl,au0,?_,au20⟩;exact ZcA rfl gg (RnM.mapS fun _ _=>Zck rfl) Zcv
theorem item83F(b)(a)(B)(names)(hw:WfI a)(m:Ps 165 [.str b] (.bool true))(g:b∉names)(f:names.length<=100)(k:B.Pairwise (·<·))(d:B.length<=1000000)(i:∀x∈a.al,x∈B)(c:h.get 68=some (nmsB names)):HSpec Tryz.prog 154 [.agg [.str b,sliN a.al,.int .i64 (a.n:Int),sliN a.ms,egsN a.es],.int .i64 5,sliN B,.map 68 0] h (.int .i64 0) (h.set 68 (nmsB (names++[b]))):=by
 have hm:∀(l:List (List UInt8)),∀e∈mapS yes l,noRef e.1=true/\noRef e.2=true:=fun l e he=>by unfold mapS at he;obtain⟨x,_,rfl⟩:=Zap.1 he;exact⟨rfl,rfl⟩
 exact HSpec.frameM (item83 b a B names hw m g f k d i) (OnlyD.cons (OnlyD.same (by rw[noRef];exact SU.Qed)) (OnlyD.cons (OnlyD.same rfl) (OnlyD.cons (OnlyD.same (Qab _)) (OnlyD.cons (OnlyD.map rfl) OnlyD.nil)))) (OnlyD.same rfl) (hm _) (hm _) c rfl
def uUp(l:List (Nat×Aut)):List Nat:=l.foldl (fun out x=>mrg (fun a b=>a||b) out x.2.al) []
theorem Qg7:∀{l:List (Nat×Aut)}{out:List Nat},out.Pairwise (·<·)->(∀x∈l,x.2.al.Pairwise (·<·))->(l.foldl (fun out x=>mrg (fun a b=>a||b) out x.2.al) out).Pairwise (·<·)/\∀e,e∈l.foldl (fun out x=>mrg (fun a b=>a||b) out x.2.al) out↔e∈out\/∃y∈l,e∈y.2.al
 |[],out,h,_=>⟨h,fun e=>by simp⟩|x::l,out,h,f=>by
  have d:=f x (by simp);obtain⟨h1,g⟩:=Qg7 (l:=l) (QcP (k:=fun a b=>a||b) h d) fun y i=>f y (by simp[i]);refine⟨h1,fun e=>?_⟩;rw[ZaR,g e,Qb9 h d];simp only[Zax,exists_eq_or_imp,Zbh,decide_eq_true_eq];constructor
  ·rintro(⟨c,_⟩|c)
   ·rcases c with c|c;·exact .inl c
    exact .inr (.inl c)
   exact .inr (.inr c)
  rintro(c|c|c);·exact .inl ⟨.inl c,.inl c⟩
  ·exact .inl ⟨.inr c,.inr c⟩
  exact .inr c
theorem QfY(h:∀x∈l,WfI x.2):(uUp l).Pairwise (·<·):=(Qg7 (by simp) fun x a=>(h x a).wf.al).1
theorem Qg8(h:∀x∈l,WfI x.2){e}:e∈uUp l↔∃y∈l,e∈y.2.al:=by have:=(Qg7 (l:=l) (out:=[]) (by simp) fun x a=>(h x a).wf.al).2 e;simpa[uUp]using this
theorem Qj1(h:∀x∈l,WfI x.2):(uUp l).length<=5:=by refine Qa4 5 _ (by rw[ZaO];exact(QfY h).imp fun h=>by omega) fun x a=>?_;obtain⟨y,b,he⟩:=(Qg8 h).1 a;exact(h y b).a5 x he
theorem Qta(h:l[i]?=some x):uUp (l.take (i+1))=mrg (fun a b=>a||b) (uUp (l.take i)) x.2.al:=by unfold uUp;rw[take_succ' h,Za8];rfl
def nmsI(ch:UInt8)(l:List (Nat×Aut)):List (List UInt8):=l.map fun x=>[ch,UInt8.ofNat (48+x.1)]
theorem Qnd{ch}(h:l[i]?=some x):nmsI ch (l.take (i+1))=nmsI ch (l.take i)++[[ch,UInt8.ofNat (48+x.1)]]:=by unfold nmsI;rw[take_succ' h,ZaI];rfl
theorem Qug{a b}(c:a<10)(d:b<10)(h:UInt8.ofNat (48+a)=UInt8.ofNat (48+b)):a=b:=by have:=congrArg UInt8.toNat h;simp at this;omega
theorem Qji(h:l.map (·.1)=List.range l.length)(a:l[i]?=some x):x.1=i/\i<l.length:=by
 have hi:i<l.length:=by
  rcases ZbG i l.length with h|h;·exact h
  rw[ZaF h]at a;cases a
 have h1:(l.map (·.1))[i]?=some x.1:=by rw[Zaz,a];rfl
 rw[h,Zbw hi]at h1;cases h1;exact⟨rfl,hi⟩
theorem Qo7{ch:UInt8}(h:l.map (·.1)=List.range l.length)(k:l.length<=9)(b:l[i]?=some x):[ch,UInt8.ofNat (48+x.1)]∉nmsI ch (l.take i):=by intro hm;obtain⟨y,d,he⟩:=Zap.1 hm;obtain⟨j,c,a⟩:=Za4 d;rw[Zaq]at c;rw[List.getElem_take]at a;obtain⟨n,m⟩:=Qji h b;obtain⟨f,g⟩:=Qji h (i:=j) (x:=y) (by rw[<-a];exact Zak (by omega));have:=Qug (a:=y.1) (b:=x.1) (by omega) (by omega) (by simpa using he);omega
theorem QrH{a b}(c:a≠b):[a,s]∉nmsI b l:=by intro hm;obtain⟨y,d,he⟩:=Zap.1 hm;simp at he;exact c he.1.symm
theorem Qjg(h:i<3):Ps 165 [.str [99,UInt8.ofNat (48+i)]] (.bool true):=by
 have:i=0\/i=1\/i=2:=by omega
 rcases this with rfl|rfl|rfl;·exact SP.Qt2
 ·exact SP.Qt3
 exact SP.Qt4
theorem QrI(h:i<2):Ps 165 [.str [114,UInt8.ofNat (48+i)]] (.bool true):=by
 have:i=0\/i=1:=by omega
 rcases this with rfl|rfl;·exact SP.Qt5
 exact SP.Qt6
theorem Qg9:RnM m π h (mapS yes []) []:=trivial
theorem Qbv(c:Cel):noRefs [evsV c.ev,its 99 c.cs,its 114 c.rs,exs c.xs,cos c.ks]=true:=by have:=SU.Qa0 c;rwa[celV,noRef]at this
theorem check21(c)(h:WfCel c):Ps 98 [celV c] (.int .i64 0):=by
 have a:=Qbv c;refine Zcn 64 (Ok s98) rfl (by rw[noRefs,SU.Qa0];rfl) rfl ?_;have z:=check82 c.ev h.ev;have B:=h.c0;have E:=h.c3;have C:=h.r2;have g1:¬(c.cs.length:Int)=0:=by omega
 have g2:¬(8:Int)<(c.cs.length:Int):=by omega
 have g3:¬(12:Int)<(c.cs.length:Int)+(c.rs.length:Int):=by omega
 have v:=conds85 c h;have s:=conds32 c h;unfold s98;refine Zc0 ?_;refine cp z ?_;refine Zc1 (Zc3 g1 g2 g3) ?_;refine Qar 140 (fun i:Nat=>[(1,.ptr 50 0 0),(5,.map 68 0),(6,.sl 76 0 0 i 1),(7,.nilsl),(41,.int .i64 5),(42,.int .i64 i)]) (fun i=>[(50,.cells 0 [evsV c.ev,its 99 c.cs,its 114 c.rs,exs c.xs,cos c.ks]),(68,nmsB []),(76,.cells 0 (ints (nz (List.range i))))]) (fun i=>i<=5) (fun i=>5-i) 0 1 180 (fun _:Unit=>[(1,.ptr 50 0 0),(5,.map 68 0),(6,sliN (List.range 5)),(7,sliN [])]) (fun _=>[(50,.cells 0 [evsV c.ev,its 99 c.cs,its 114 c.rs,exs c.xs,cos c.ks]),(68,nmsB [])]) (fun _=>True) ?_ (Zai _) ?_ ?_;·refine⟨[(50,.blk 64 0),(68,.blk 90 0),(76,.nil)],rfl,au0,?_,au20⟩;exact Zcw rfl rfl gg (Zcl a) (Zcy rfl rfl gg Qg9 (Zcx rfl rfl Zcv))
 ·rintro i hi;by_cases b:i<5
  ·have q:(i:Int)<5:=by omega
   have r:(ints (nz (List.range i))).length=i:=by simp[ints]
   refine Zc1 (Zc3 q @ZbV r) ?_;refine⟨i+1,by omega,by omega,?_⟩;rw[ZaK,QaQ,QaF];refine⟨[(50,.blk 50 0),(68,.blk 68 0),(76,.blk 76 1)],rfl,au0,?_,au20⟩;exact Zcw rfl rfl gg (Zcl a) (Zcy rfl rfl gg Qg9 (Zcw rfl rfl gg (Zcl (SU.Qaw (Qaa _) rfl)) Zcv))
  have e:i=5:=by omega
  subst e;refine Zc0 ?_;refine⟨(),[(50,.blk 50 0),(68,.blk 68 0)],rfl,Zcs,?_,?_⟩;·exact Zcw rfl rfl gg (Zcl a) (Zcy rfl rfl gg Qg9 Zcv)
  exact Zcu (Rn.x2 rfl rfl) (Zcu (Rn.x3 rfl rfl) (Zcu (Rn.fz (b:=76) (g:=0) gg rfl rfl rfl (Zcl rfl)) (Zcu Rn.nilK Zct)))
 rintro _ _;refine Zc0 ?_;refine Qar 240 (fun i:Nat=>[(1,.ptr 50 0 0),(5,.map 68 0),(6,sliN (List.range 5)),(7,sliN (uUp (c.cs.take i))),(51,its 99 c.cs),(52,.int .i64 c.cs.length),(53,.int .i64 i)]) (fun i=>[(50,.cells 0 [evsV c.ev,its 99 c.cs,its 114 c.rs,exs c.xs,cos c.ks]),(68,nmsB (nmsI 99 (c.cs.take i)))]) (fun i=>i<=c.cs.length) (fun i=>c.cs.length-i) 0 3 280 (fun _:Unit=>[(1,.ptr 50 0 0),(5,.map 68 0),(7,sliN (uUp c.cs))]) (fun _=>[(50,.cells 0 [evsV c.ev,its 99 c.cs,its 114 c.rs,exs c.xs,cos c.ks]),(68,nmsB (nmsI 99 c.cs))]) (fun _=>True) ?_ (Zai _) ?_ ?_;·refine⟨[(50,.blk 50 0),(68,.blk 68 0)],rfl,au0,?_,au20⟩;exact Zcw rfl rfl gg (Zcl a) (Zcy rfl rfl gg Qg9 Zcv)
 ·rintro i hi;by_cases b:i<c.cs.length
  ·obtain⟨x,f⟩:=Qak b;have m:=Zac f;have l:=SU.QdM (ch:=99) f;have o:5<=((c.cs.flatMap (itC 99)).drop (i*5)).length:=by rw[l];simp
   have g:=h.ca x m;have u:=Qji h.cn f;have n:(nmsI 99 (c.cs.take i)).length<=100:=by simp[nmsI];omega
   have t:=Qjg (i:=x.1) (by omega);have k:=Qo7 (ch:=99) h.cn (by omega) f;have d:(uUp (c.cs.take i)).length<=1000000:=by have:=Qj1 (l:=c.cs.take i) fun y A=>h.ca y (ZaV A);omega
   have w:=union84 (uUp (c.cs.take i)) x.2.al d (by have:=QgR g.wf;omega);rw[<-Qta f]at w;have p:=Qnd (ch:=99) f;refine Zc1 (Zc3 b l o) ?_;refine SU.chc (item83F _ _ _ _ g t k n Zbz (by decide) (fun e he=>Zat.2 (g.a5 e he)) gg) ?_;refine Zc0 ?_;refine cp w ?_;refine Zc0 ?_;refine⟨i+1,by omega,by omega,?_⟩;rw[p];exact ba7cu
  have e:i=c.cs.length:=by omega
  subst e;refine ZcX b ?_;refine⟨(),?_⟩;exact ba7cu
 rintro _ _;refine Zc0 ?_;refine Qar 340 (fun i:Nat=>[(1,.ptr 50 0 0),(5,.map 68 0),(7,sliN (uUp c.cs)),(74,its 114 c.rs),(75,.int .i64 c.rs.length),(76,.int .i64 i)]) (fun i=>[(50,.cells 0 [evsV c.ev,its 99 c.cs,its 114 c.rs,exs c.xs,cos c.ks]),(68,nmsB (nmsI 99 c.cs++nmsI 114 (c.rs.take i)))]) (fun i=>i<=c.rs.length) (fun i=>c.rs.length-i) 0 5 380 (fun _:Unit=>[(1,.ptr 50 0 0)]) (fun _=>[(50,.cells 0 [evsV c.ev,its 99 c.cs,its 114 c.rs,exs c.xs,cos c.ks])]) (fun _=>True) ?_ (Zai _) ?_ ?_;·rw[show nmsI 99 c.cs++nmsI 114 (c.rs.take 0)=nmsI 99 c.cs by simp[nmsI]];refine⟨[(50,.blk 50 0),(68,.blk 68 0)],rfl,au0,?_,au20⟩;exact Zcw rfl rfl gg (Zcl a) (Zcy rfl rfl gg (RnM.mapS fun _ _=>Zck rfl) Zcv)
 ·rintro i hi;by_cases b:i<c.rs.length
  ·obtain⟨x,f⟩:=Qak b;have m:=Zac f;have l:=SU.QdM (ch:=114) f;have o:5<=((c.rs.flatMap (itC 114)).drop (i*5)).length:=by rw[l];simp
   have g:=h.ra x m;have u:=Qji h.rn f;have n:(nmsI 99 c.cs++nmsI 114 (c.rs.take i)).length<=100:=by simp[nmsI];omega
   have t:=QrI (i:=x.1) (by omega);have k:[114,UInt8.ofNat (48+x.1)]∉nmsI 99 c.cs++nmsI 114 (c.rs.take i):=by
    intro hm;rcases ZaE.1 hm with hm|hm;·exact QrH (by decide) hm
    exact Qo7 (ch:=114) h.rn (by omega) f hm
   have d:(uUp c.cs).length<=1000000:=by have:=Qj1 (l:=c.cs) h.ca;omega
   have p:=Qnd (ch:=114) f;refine Zc1 (Zc3 b l o) ?_;refine SU.chc (item83F _ _ _ _ g t k n (QfY h.ca) d (fun e he=>(Qg8 h.ca).2 (h.rsub x m e he)) gg) ?_;refine Zc0 ?_;refine⟨i+1,by omega,by omega,?_⟩;rw[p,<-ZaN];exact ba7cu
  exact b05mY
 rintro _ _;refine Zc0 ?_;refine cp v ?_;refine Zc0 ?_;refine cp s ?_;refine Zc0 ?_;exact⟨.inr trivial,_,rfl,rfl⟩
theorem u8_wf(h:(Lit.int .u8 n).wf=true):0<=n/\n<256:=by grind[Lit.wf,IntKind.min,IntKind.max,IntKind.signed,IntKind.bits]
theorem i8_wf(h:(Lit.int .i8 n).wf=true):-128<=n/\n<128:=by grind[Lit.wf,IntKind.min,IntKind.max,IntKind.signed,IntKind.bits]
def u8O:Ty->Bool|.int k=>k==.u8|.arr _ t=>u8O t|.st t=>u8O t|.unit=>true|.pair a b=>u8O a&&u8O b|_=>false
theorem QfZ{a}:u8s (a++b)=u8s a++u8s b:=by simp[u8s]
theorem Qcv:∀(t:Ty),u8O t=true->∀(d:t.D),t.wf d->∃l:List Nat,l.length=t.sz/\(∀x∈l,x<256)/\t.cells d=u8s l
 |.int k,h,d,hw=>by
  have:k=.u8:=by grind[u8O]
  subst this;have:=u8_wf hw;refine⟨[Int.toNat d],rfl,by simp;omega,?_⟩;show[AV.int .u8 d]=[AV.int .u8 ((Int.toNat d:Nat):Int)];grind|.bool,h,_,_=>by cases h|.str,h,_,_=>by cases h|.sl _,h,_,_=>by cases h|.st t,h,d,hw=>Qcv t h d hw|.unit,_,_,_=>⟨[],rfl,by simp,rfl⟩|.pair a b,h,d,hw=>by simp only[u8O,Zab]at h;obtain⟨l,h1,g,i⟩:=Qcv a h.1 d.1 hw.1;obtain⟨m,g1,g2,g3⟩:=Qcv b h.2 d.2 hw.2;refine⟨l++m,by rw[Zaf,h1,g1];rfl,fun x c=>(ZaE.1 c).elim (g x) (g2 x),?_⟩;show a.cells d.1++b.cells d.2=_;rw[i,g3,QfZ]|.arr n t,h,d,hw=>by
  obtain⟨f,c⟩:=hw;have key:∀l:List t.D,(∀x∈l,t.wf x)->∃r:List Nat,r.length=l.length*t.sz/\(∀x∈r,x<256)/\l.flatMap t.cells=u8s r:=by intro l;induction l with|nil=>intro _;exact⟨[],by simp,by simp,rfl⟩|cons a l o=>intro f;obtain⟨r,g1,g2,g3⟩:=o fun y p=>f y (by simp[p]);obtain⟨m,h1,g,i⟩:=Qcv t h a (f a (by simp));refine⟨m++r,by grind,fun x c=>(ZaE.1 c).elim (g x) (g2 x),?_⟩;rw[Zay,g3,i,QfZ]
  obtain⟨r,g1,g2,g3⟩:=key d c;refine⟨r,by rw[g1];show List.length d*t.sz=n*t.sz;rw[f],g2,g3⟩
abbrev tyTo:Ty:=.arr 5 (.arr 5 (.int .u8))
abbrev tyGr:Ty:=.st (.pair (.int .u8) (.pair (.int .u8) (.pair tyTo .unit)))
abbrev tyPln:Ty:=.st (.pair (.arr 5 (.int .u8)) (.pair (.int .u8) (.pair (.arr 3 (.int .u8)) (.pair (.arr 3 tyGr) (.pair (.int .u8) (.pair (.arr 2 (.int .u8)) (.pair (.arr 2 tyGr) (.pair (.sl (.arr 4 (.int .u8))) (.pair (.arr 3 (.int .i8)) (.pair (.int .i8) .unit))))))))))
variable{d:tyPln.D}
theorem QvI(h:tyPln.wf d):∃p:Pln,POk p/\p.xn<=9223372036854775807/\tyPln.val d=plnV p:=by
 obtain⟨a,b,c,g,e,f,k,x,y,z,u⟩:=d;obtain⟨h1,C,w,v,s,B,t,q,A,o,_⟩:=h;dsimp only at h1 C w v s B t q A o;obtain⟨X,a1,b1,c1⟩:=Qcv (.arr 5 (.int .u8)) rfl _ h1;obtain⟨E,a2,b2,c2⟩:=Qcv (.int .u8) rfl _ C;obtain⟨R,a3,b3,T⟩:=Qcv (.arr 3 (.int .u8)) rfl _ w;obtain⟨H,a4,b4,N⟩:=Qcv (.arr 3 tyGr) rfl _ v;obtain⟨P,a5,b5,K⟩:=Qcv (.int .u8) rfl _ s;obtain⟨F,I,b6,G⟩:=Qcv (.arr 2 (.int .u8)) rfl _ B;obtain⟨Y,Z,b7,O⟩:=Qcv (.arr 2 tyGr) rfl _ t;obtain⟨r,q⟩:=q;obtain⟨L,V,b8,M⟩:=Qcv (.arr (List.length x) (.arr 4 (.int .u8))) rfl x ⟨rfl,q⟩;obtain⟨Q,n⟩:=A;obtain⟨i,l,m,rfl⟩:∃i l m,y=[i,l,m]:=by match y,Q with|[i,l,m],_=>exact⟨i,l,m,rfl⟩
 have J:=i8_wf (n i (by simp));have S:=i8_wf (n l (by simp));have w2:=i8_wf (n m (by simp));have U:=i8_wf o;refine⟨⟨X++E++R++H++P++F++Y,L,List.length x,i,l,m,z⟩,⟨?_,?_,V,b8,J,S,w2,U⟩,r,?_⟩;·simp only[Zaf,a1,a2,a3,a4,a5,I,Z];rfl
 ·grind
 show AV.agg (tyPln.cells _)=_;congr 1;show(Ty.arr 5 (.int .u8)).cells a++((Ty.int .u8).cells b++((Ty.arr 3 (.int .u8)).cells c++((Ty.arr 3 tyGr).cells g++((Ty.int .u8).cells e++((Ty.arr 2 (.int .u8)).cells f++((Ty.arr 2 tyGr).cells k++([.fsl ((Ty.arr (List.length x) (.arr 4 (.int .u8))).cells x) (List.length x) 4]++((Ty.arr 3 (.int .i8)).cells [i,l,m]++((Ty.int .i8).cells z++[])))))))))=_;rw[c1,c2,T,N,K,G,O,M];simp only[plnC,QfZ,ZaN];rfl
def itN(x:List UInt8×Aut):List AV:=[.str x.1,sliN x.2.al,.int .i64 (x.2.n:Int),sliN x.2.ms,egsN x.2.es]
abbrev itsN(l:List (List UInt8×Aut)):AV:=.fsl (l.flatMap itN) l.length 5
def nmL'(ch:UInt8)(l:List (Nat×Aut)):List (List UInt8×Aut):=l.map fun x=>([ch,UInt8.ofNat (48+x.1)],x.2)
theorem Qjj{ch}:its ch l=itsN (nmL' ch l):=by
 unfold nmL';have:(l.map fun x=>([ch,UInt8.ofNat (48+x.1)],x.2)).flatMap itN=l.flatMap (itC ch):=by rw[List.flatMap_map];rfl
 rw[itsN,this,Zav]
theorem Qa9(l:List (List UInt8×Aut)):noRefs (l.flatMap itN)=true:=Qa5 (fun x=>by simp only[itN,noRefs,noRef,Qaa,Qag];rfl) l
theorem Qdm(l):noRef (itsN l)=true:=by simp only[noRef];exact Qa9 l
theorem QgS(l:List (List UInt8×Aut)):(l.flatMap itN).length=l.length*5:=Qbe (k:=5) (fun _=>rfl) l
theorem Qo8{l:List (List UInt8×Aut)}{x}(h:l[i]?=some x):(l.flatMap itN).drop (i*5)=.str x.1::sliN x.2.al::.int .i64 (x.2.n:Int)::sliN x.2.ms::egsN x.2.es::(l.drop (i+1)).flatMap itN:=Qba (f:=itN) (k:=5) (fun _=>rfl) h
def evl(e:Nat->Evt):List (List UInt8×Evt):=(List.range 5).map fun i=>([UInt8.ofNat (97+i)],e i)
def evN(x:List UInt8×Evt):List AV:=[.str x.1,.bool x.2.c,.bool x.2.o,.bool x.2.f,.int .i64 (x.2.flt:Int)]
abbrev evNV(x:List UInt8×Evt):AV:=.agg [.str x.1,.bool x.2.c,.bool x.2.o,.bool x.2.f,.int .i64 (x.2.flt:Int)]
abbrev evsN(l:List (List UInt8×Evt)):AV:=.fsl (l.flatMap evN) l.length 5
theorem Qha(e):evsV e=evsN (evl e):=rfl
theorem Qdn(l:List (List UInt8×Evt)):noRefs (l.flatMap evN)=true:=Qa5 (fun x=>rfl) l
theorem Qin{l:List (List UInt8×Evt)}{x}(h:l[i]?=some x):(l.flatMap evN).drop (i*5)=.str x.1::.bool x.2.c::.bool x.2.o::.bool x.2.f::.int .i64 (x.2.flt:Int)::(l.drop (i+1)).flatMap evN:=Qba (f:=evN) (k:=5) (fun _=>rfl) h
def vrI(ch:UInt8)(x:Nat×Aut):List UInt8×Int:=([ch,UInt8.ofNat (48+x.1)],(x.2.n:Int)-1)
def vrsL(c:Cel):List (List UInt8×Int):=c.cs.map (vrI 99)++c.rs.map (vrI 114)
theorem Qio:(vrsL c).length=c.cs.length+c.rs.length:=by simp[vrsL]
theorem Qfs(h:WfCel c):(vrsL c).length<=5:=by have:=h.c3;have:=h.r2;rw[Qio];omega
theorem QcA(h:WfCel c):∀x∈vrsL c,0<=x.2/\x.2<=2:=by
 intro x b;rcases ZaE.1 b with b|b;·obtain⟨y,a,rfl⟩:=Zap.1 b;have h1:=(h.ca y a).pos;have d:=(h.ca y a).n3;show 0<=((y.2.n:Nat):Int)-1/\((y.2.n:Nat):Int)-1<=2;omega
 obtain⟨y,a,rfl⟩:=Zap.1 b;have h1:=(h.ra y a).pos;have d:=(h.ra y a).n3;show 0<=((y.2.n:Nat):Int)-1/\((y.2.n:Nat):Int)-1<=2;omega
def szV(n:Int)(l:List (List UInt8×Int)):Int:=l.foldl (fun n x=>n*(x.2+1)) n
theorem QrJ:∀{l:List (List UInt8×Int)}{n m:Int},(∀x∈l,0<=x.2/\x.2<=2)->1<=n->n<=m->1<=szV n l/\szV n l<=m*3^l.length
 |[],n,m,_,h1,d=>by simp[szV];omega|x::l,n,m,h,h1,d=>by
  have f:=h x (by simp);have b:1<=n*(x.2+1)/\n*(x.2+1)<=m*3:=by
   have:x.2=0\/x.2=1\/x.2=2:=by omega
   rcases this with e|e|e<;>rw[e]<;>omega
  have a:=QrJ (l:=l) (fun y c=>h y (by simp[c])) b.1 b.2;refine⟨a.1,?_⟩;rw[ZaC,Int.pow_succ,Int.mul_comm (3^l.length) 3,<-Int.mul_assoc];exact a.2
theorem QdN{l:List (List UInt8×Int)}{x}(h:l[i]?=some x):szV 1 (l.take (i+1))=szV 1 (l.take i)*(x.2+1):=by unfold szV;rw[take_succ' h,Za8];rfl
theorem Qbs{l:List (List UInt8×Int)}(h:∀x∈l,0<=x.2/\x.2<=2)(c:l.length<=5)(i):1<=szV 1 (l.take i)/\szV 1 (l.take i)<=243:=by
 have a:=QrJ (l:=l.take i) (n:=1) (m:=1) (fun x b=>h x (ZaV b)) (by decide) (by decide);refine⟨a.1,Int.le_trans a.2 ?_⟩;have hk:(l.take i).length<=5:=by rw[Zaq];omega
 generalize(l.take i).length=k at hk;have:k=0\/k=1\/k=2\/k=3\/k=4\/k=5:=by omega
 rcases this with rfl|rfl|rfl|rfl|rfl|rfl<;>decide
theorem Qo9(h:WfCel c):1<=szV 1 (vrsL c)/\szV 1 (vrsL c)<=243:=by have:=Qbs (QcA h) (Qfs h) (vrsL c).length;rwa[Zan]at this
end Go.AM.SO
namespace Go.AM.VL
open Go.Proofs
set_option maxHeartbeats 4000000
noncomputable section
def cf:YA.Cf:={most:=.pure,always:=[180,235].map fun k=>(k,.heap)}
def s55:SFn:=by
 refine(?f:YA.Yt Tryz.prog cf 55 [[2],[0,3,4]]) ?s ?h;case h=>exact YA.rr
 exact fun s _=>s
def s60:SFn:=by
 refine(?f:YA.Yt Tryz.prog cf 60 [[6],[0,1,2,7,8,9,10]]) ?s ?h;case h=>exact YA.rr
 exact fun s _=>s
def s125:SFn:=by
 refine(?f:YA.Yt Tryz.prog cf 125 [[2],[8],[],[9,10,11],[12],[],[15,16,17],[18,21,22,23,24,25],[26,27,28,29,30,31],[32,35,36,37,38,39,40,41,42,43,44,45,46],[33,34],[7,19,20],[5,6,47],[13,14],[0,3,4,48]]) ?s ?h;case h=>exact YA.rr
 exact fun s _=>s
def s126:SFn:=by
 refine(?f:YA.Yt Tryz.prog cf 126 [[6],[15,16],[],[],[],[17,18,19],[20,23,24,25,26,27,32,33],[42,43,44,45,46,47,48,49,50,51,52,53,54,55,56,57],[42,21,22],[0,11,41,40,34,35,39,38,36,37,31,30,28,29],[58,59,60],[61],[],[64,65,66],[67,70,71,106],[68,69],[14,107,108,109,110,111],[13,112],[113,114,115,116,117,118,119,120],[113,62,63],[1,2,7,8,9,10,105,96,104,97,98,99,103,102,100,101,95,84,94,93,88,92,91,89,90,87,85,86,83,77,82,81,80,78,79,76,75,74,72,73,12,121]]) ?s ?h;case h=>exact YA.rr
 exact fun s _=>s
def s180:SFn:=by
 refine(?f:YA.Yt Tryz.prog cf 180 [[8],[],[10,11,12],[13,16,17,18,19,24,25],[0,1,2,3,9,31,29,30,28,26,27,23,22,20,21,32],[8,32,14,15],[0,1,2,3,9,31,29,30,28,26,27,23,22,20,21]]) ?s ?h;case h=>exact YA.rr
 exact fun s _=>s
def s181:SFn:=by
 refine(?f:YA.Yt Tryz.prog cf 181 [[],[1,13,14,15,16,17,18,19],[],[20,21,22],[23,26,27,28,29,30,31,32,33,34,35],[36,37,38,39,40,41,42,43],[44,45,46,47,48],[49,50,51,52,53,54,55,56],[23,57,58,59,60,61,62,63,64,65,66],[67,68,69,70,71,72,73,74],[75,76,77,78,79],[80,81,82,83,84,85,86,87],[23,24,25],[0,2,3,4,11,12,88]]) ?s ?h;case h=>exact YA.rr
 exact fun s _=>s
def s235:SFn:=by
 refine(?f:YA.Yt Tryz.prog cf 235 [[0,8],[],[10,11,12],[13,16,17,18,19,20,26,27],[1,2,3,4,9,33,28,32,31,29,30,25,24,23,21,22,34],[8,34,14,15],[1,2,3,4,9,33,28,32,31,29,30,25,24,23,21,22]]) ?s ?h;case h=>exact YA.rr
 exact fun s _=>s
end
end Go.AM.VL
namespace Go.AM.SO
open Go.Proofs Go.AM.SD Go.AM.SE
variable{b:Bxn}{h:Int}{A L:List (List Int)}{v:List (List UInt8×Int)}{c l:List Bool}{bs:List Bxn}{t:List Int}{x:List UInt8×Int}{i k m n:Nat}
abbrev liV(L:List (List Int)):AV:=.fsl (L.map sli) L.length 1
theorem QaD(L:List (List Int)):noRefs (L.map sli)=true:=by induction L with|nil=>rfl|cons x L a=>rw[ZaL,noRefs,Qah,a];rfl
theorem QbD(L):noRef (liV L)=true:=by rw[noRef];exact QaD L
theorem Qbu(h:L[i]?=some t):((L.map sli).drop i).head?=some (sli t):=by rw[ZbB,Zaz,h];rfl
def domE(h:Int)(t:List Int):List (List Int):=(List.range (h+1).toNat).map fun n=>t++[((n:Nat):Int)]
def domS(L:List (List Int))(h:Int):List (List Int):=L.flatMap (domE h)
def dom(v:List (List UInt8×Int)):List (List Int):=v.foldl (fun L x=>domS L x.2) [[]]
theorem QeQ(h:v[i]?=some x):dom (v.take (i+1))=domS (dom (v.take i)) x.2:=by unfold dom;rw[take_succ' h,Za8];rfl
def domP(L:List (List Int))(h:Int)(k n:Nat):List (List Int):=(L.take k).flatMap (domE h)++(List.range n).map fun j=>L.getD k []++[((j:Nat):Int)]
theorem Qjk:domP L h k 0=domS (L.take k) h:=by simp[domP,domS]
theorem Qlp(hk:L[k]?=some t):domP L h k (n+1)=domP L h k n++[t++[((n:Nat):Int)]]:=by unfold domP;rw[ZaK,ZaI,<-ZaN,QaA hk];rfl
theorem Qne(hk:L[k]?=some t):domP L h k (h+1).toNat=domS (L.take (k+1)) h:=by unfold domP domS;rw[take_succ' hk,Zao,QaA hk];simp[domE]
theorem Qnf{L}{h}(b:0<=h):((domS L h).length:Int)=L.length*(h+1):=by unfold domS;induction L with|nil=>simp|cons t L a=>
 rw[Zay,Zaf,ZaG,a];have:((domE h t).length:Int)=h+1:=by simp[domE];omega
 rw[this,ZaC,ZaG,Int.add_mul];simp[Int.add_comm]
theorem Qen(h:∀x∈v,0<=x.2/\x.2<=2)(i):i<=v.length->((dom (v.take i)).length:Int)=szV 1 (v.take i):=by induction i with|zero=>intro _;rfl|succ i b=>intro hi;obtain⟨x,a⟩:=Qak (l:=v) (i:=i) (by omega);have:=h x (Zac a);rw[QeQ a,QdN a,Qnf this.1,b (by omega)]
theorem QeR:∀(i:Nat),i<=v.length->∀t∈dom (v.take i),t.length=i|0,_,t,a=>by have:t∈([[]]:List (List Int)):=a;simp at this;subst this;rfl|i+1,hi,t,a=>by obtain⟨x,b⟩:=Qak (l:=v) (i:=i) (by omega);rw[QeQ b]at a;obtain⟨u,hu,hm⟩:=Zbt.1 a;obtain⟨n,_,rfl⟩:=Zap.1 hm;rw[Zaf,QeR i (by omega) u hu];rfl
theorem Qng(a:0<=h/\h<=2)(d:n<=(h+1).toNat):(domP L h k n).length<=L.length*3+3:=by
 have h1:=@Qnf (L.take k) h a.1;have b:(domP L h k n).length=(domS (L.take k) h).length+n:=by simp[domP,domS]
 have c:(L.take k).length<=L.length:=by rw[Zaq];omega
 have f:((L.take k).length:Int)*(h+1)<=L.length*3:=by
  have:h=0\/h=1\/h=2:=by omega
  rcases this with rfl|rfl|rfl<;>omega
 omega
theorem _root_.Go.AM.au21{p:Prop}(h:p:=by repeat(first|exact Zct|(refine Zcu ?_ ?_;·(first|exact Zcj|exact Rn.x1 rfl rfl|exact Rn.x2 rfl rfl|exact Rn.x3 rfl rfl|exact Rn.x4 rfl rfl|exact Rn.x5 rfl|exact Rn.x6 rfl|exact Rn.x7 rfl|(refine ZcF ?_ ?_;(first|rfl|(rw[ZaG];rfl));(first|rfl|(simp only[noRef,noRefs,SD.Qaa,SD.Qab,SD.Qaf,SD.Qag,SD.Qah,SD.Qai,SD.Qaj,SD.Qal,SD.Qan,SD.Qaq,SE.QaR,SE.Qam,SE.Qao,SE.Qap,SE.Qav,SE.Qaz,SO.Qa9,SO.QaD,SO.QaO,SO.Qau,SO.Qay,SO.Qdn,SU.Qa8,SU.QaX,SU.QbO,SU.Qbb,SU.Qby,Zad,Zae,Zag];done)))|(refine Rn.fn ?_ ?_<;>(repeat'(first|exact ZcB|refine ZcC ?_ ?_|exact Zck rfl|exact Rn.x6 rfl|exact Rn.x2 rfl rfl|exact Rn.x5 rfl|exact Rn.x1 rfl rfl))))))):p:=h
theorem _root_.Go.AM.au22{p:Prop}(h:p:=by repeat'(first|exact Zcv|(refine Zcl ?_;first|rfl|(simp only[noRef,noRefs,SD.Qaa,SD.Qab,SD.Qaf,SD.Qag,SD.Qah,SD.Qai,SD.Qaj,SD.Qal,SD.Qan,SD.Qaq,SE.QaR,SE.Qam,SE.Qao,SE.Qap,SE.Qav,SE.Qaz,SO.Qa9,SO.QaD,SO.QaO,SO.Qau,SO.Qay,SO.Qdn,SU.Qa8,SU.QaX,SU.QbO,SU.Qbb,SU.Qby,Zad,Zae,Zag];done))|exact ZcJ rfl|exact ZcB|exact(True.intro:RnM _ _ _ [] [])|refine ZcC ?_ ?_|(refine Zck ?_;first|rfl|(simp only[noRef,noRefs,SD.Qaa,SD.Qab,SD.Qaf,SD.Qag,SD.Qah,SD.Qai,SD.Qaj,SD.Qal,SD.Qan,SD.Qaq,SE.QaR,SE.Qam,SE.Qao,SE.Qap,SE.Qav,SE.Qaz,SO.Qa9,SO.QaD,SO.QaO,SO.Qau,SO.Qay,SO.Qdn,SU.Qa8,SU.QaX,SU.QbO,SU.Qbb,SU.Qby,Zad,Zae,Zag];done))|exact Rn.x1 rfl rfl|exact Rn.x2 rfl rfl|exact Rn.x3 rfl rfl|exact Rn.x4 rfl rfl|exact Rn.x5 rfl|exact Rn.x6 rfl|exact Rn.x7 rfl|refine Zcx rfl rfl ?_|refine Zcw rfl rfl rfl ?_ ?_|refine Zcy rfl rfl rfl ?_ ?_|refine Zcz rfl rfl ?_ ?_|refine ZcA rfl rfl ?_ ?_)):p:=h
theorem domain125(v:List (List UInt8×Int))(A:v.length<=5)(f:∀x∈v,0<=x.2/\x.2<=2):Ps 125 [vrsV v] (liV (dom v)):=by
 refine Zcm 64 (Ok VL.s125) rfl (by rw[noRefs,QaN];rfl) (QbD _) ?_;unfold VL.s125;refine Zc0 ?_;refine QaC 100 (fun i:Nat=>[(0,vrsV v),(3,liV (dom (v.take i))),(4,.int .i64 i)]) (fun _=>[]) (fun i=>i<=v.length) (fun i=>v.length-i) 0 ?_ (Zai _) ?_;·exact⟨[],rfl,Zcs,Zcv,Zcu (Zck (QaN v)) (Zcu (Rn.fz (b:=65) (g:=0) gg rfl rfl rfl (ZcC Rn.nilK ZcB)) au21)⟩
 rintro i hi;by_cases a:i<v.length
 ·obtain⟨x,q⟩:=Qak a;have c:=Qb0 q;have d:4<=((v.flatMap vrC).drop (i*4)).length:=by rw[c];simp
  have p:=f x (Zac q);have s:=QeQ q;have F:(dom (v.take i)).length<=243:=by have h1:=Qen f i hi;have G:=Qbs f A i;omega
  have o:∀t∈dom (v.take i),t.length<=5:=fun t g=>by rw[QeR i hi t g];omega
  generalize dom (v.take i)=L at*;refine Zc1 a ?_;refine Qar 140 (fun k:Nat=>[(0,vrsV v),(3,liV L),(4,.int .i64 i),(5,.sl 76 0 0 (domP L x.2 k 0).length 1),(6,.int .i64 k)]) (fun k=>[(76,.cells 0 ((domP L x.2 k 0).map sli))]) (fun k=>k<=L.length) (fun k=>L.length-k) 0 2 300 (fun _:Unit=>[(0,vrsV v),(4,.int .i64 i),(5,liV (domS L x.2))]) (fun _=>[]) (fun _=>True) ?_ (Zai _) ?_ ?_;·refine⟨[(76,.nil)],rfl,au0,?_,au21⟩;exact Zcx rfl rfl Zcv
  ·rintro k hk;by_cases b:k<L.length
   ·obtain⟨t,g⟩:=Qak b;have E:=o t (Zac g);refine Zc1 (Zc4 a b c d) ?_;refine QaC 200 (fun n:Nat=>[(0,vrsV v),(3,liV L),(4,.int .i64 i),(5,.sl 76 0 0 (domP L x.2 k n).length 1),(6,.int .i64 k),(7,.int .i64 n)]) (fun n=>[(76,.cells 0 ((domP L x.2 k n).map sli))]) (fun n=>n<=(x.2+1).toNat) (fun n=>(x.2+1).toNat-n) 0 ?_ (Zai _) ?_;·refine⟨[(76,.blk 76 0)],rfl,au0,?_,au21⟩;exact Zcw rfl rfl gg (Zcl (QaD _)) Zcv
    rintro n B;have y:=Qng (L:=L) (k:=k) p B;by_cases l:(n:Int)<=x.2
    ·have h:(ints t).all AV.one=true:=by simp[ints,AV.one]
     have m:(ints t).length=t.length:=by simp[ints]
     have u:((domP L x.2 k n).map sli).length=(domP L x.2 k n).length*1:=by simp
     refine Zc1 (Zc9 a b c d l (Qbu g) h m u) ?_;refine⟨n+1,by omega,by omega,?_⟩;rw[Qlp g,Zaf,ZaI];refine⟨[(76,.blk 76 1)],rfl,au0,?_,au21⟩;exact Zcw rfl rfl gg (RnL.append (Zcl (QaD _)) (RnL.one (ZcD (b:=208) (g:=2) gg rfl rfl (by simp) (by simp[ints]) (RnL.eq (by simp[ints]) (Qaa _))))) Zcv
    have w:n=(x.2+1).toNat:=by omega
    have r:=Qne (h:=x.2) g;refine Zc1 (Zc5 a b c d l) ?_;refine⟨k+1,by omega,by omega,?_⟩;rw[Qjk,<-r,<-w];refine⟨[(76,.blk 76 0)],rfl,au0,?_,au21⟩;exact Zcw rfl rfl gg (Zcl (QaD _)) Zcv
   have C:k=L.length:=by omega
   subst C;have r:domP L x.2 L.length 0=domS L x.2:=by rw[Qjk,Zan]
   refine Zc1 b ?_;rw[r];refine⟨(),?_⟩;exact⟨[],rfl,Zcs,Zcv,Zcu (Zck (QaN v)) (Zcu (Zck rfl) (Zcu (Rn.fz (b:=76) (g:=0) gg rfl rfl (by simp) (Zcl (QaD _))) Zct))⟩
  rintro _ _;refine Zc0 ?_;refine⟨i+1,by omega,by omega,?_⟩;rw[s];exact⟨[],rfl,au0,au22,au21⟩
 have z:i=v.length:=by omega
 subst z;refine ZcX a ?_;exact⟨.inr trivial,_,rfl,Zck (QbD _)⟩
abbrev boV(l:List Bool):AV:=.fsl (l.map AV.bool) l.length 1
theorem QaB(l:List Bool):noRefs (l.map AV.bool)=true:=by induction l with|nil=>rfl|cons x l a=>rw[ZaL,noRefs,a];rfl
theorem QaW{b}(h:l[i]?=some b):((l.map AV.bool).drop i).head?=some (.bool b):=by rw[ZbB,Zaz,h];rfl
def perQ(b:Bxn)(A:List (List Int))(t c:List Bool)(i:Nat):Bool:=c.getD i false&&(!t.getD i false&&inB b (A.getD i []))
def perB(b:Bxn)(A:List (List Int))(t c:List Bool):Bool:=!(List.range A.length).any (perQ b A t c)
theorem Qp1{t}(hi:i<A.length)(h:perQ b A t c i=true):perB b A t c=false:=by unfold perB;rw[Zby.2 ⟨i,Zat.2 hi,h⟩];rfl
theorem QrK{t}(h:∀i,i<A.length->perQ b A t c i=false):perB b A t c=true:=by unfold perB;rw[List.any_eq_false.2 fun i hi=>by rw[h i (Zat.1 hi)];decide];rfl
theorem _root_.Go.AM.au23{p:Prop}(h:p:=by repeat'(first|exact Zcv|(refine Zcl ?_;first|rfl|(simp only[noRef,noRefs,SD.Qaa,SD.Qab,SD.Qaf,SD.Qag,SD.Qah,SD.Qai,SD.Qaj,SD.Qal,SD.Qan,SD.Qaq,SE.QaR,SE.Qam,SE.Qao,SE.Qap,SE.Qav,SE.Qaz,SO.Qa9,SO.QaB,SO.QaD,SO.QaO,SO.Qau,SO.Qay,SO.Qdn,SU.Qa8,SU.QaX,SU.QbO,SU.Qbb,SU.Qby,Zad,Zae,Zag];done))|exact ZcJ rfl|exact ZcB|exact(True.intro:RnM _ _ _ [] [])|refine ZcC ?_ ?_|(refine Zck ?_;first|rfl|(simp only[noRef,noRefs,SD.Qaa,SD.Qab,SD.Qaf,SD.Qag,SD.Qah,SD.Qai,SD.Qaj,SD.Qal,SD.Qan,SD.Qaq,SE.QaR,SE.Qam,SE.Qao,SE.Qap,SE.Qav,SE.Qaz,SO.Qa9,SO.QaB,SO.QaD,SO.QaO,SO.Qau,SO.Qay,SO.Qdn,SU.Qa8,SU.QaX,SU.QbO,SU.Qbb,SU.Qby,Zad,Zae,Zag];done))|exact Rn.x1 rfl rfl|exact Rn.x2 rfl rfl|exact Rn.x3 rfl rfl|exact Rn.x4 rfl rfl|exact Rn.x5 rfl|exact Rn.x6 rfl|exact Rn.x7 rfl|refine Zcx rfl rfl ?_|refine Zcw rfl rfl rfl ?_ ?_|refine Zcy rfl rfl rfl ?_ ?_|refine Zcz rfl rfl ?_ ?_|refine ZcA rfl rfl ?_ ?_)):p:=h
theorem _root_.Go.AM.au24{p:Prop}(h:p:=by repeat(first|exact Zct|(refine Zcu ?_ ?_;·(first|exact Zcj|exact Rn.x1 rfl rfl|exact Rn.x2 rfl rfl|exact Rn.x3 rfl rfl|exact Rn.x4 rfl rfl|exact Rn.x5 rfl|exact Rn.x6 rfl|exact Rn.x7 rfl|(refine ZcF ?_ ?_;(first|rfl|(rw[ZaG];rfl));(first|rfl|(simp only[noRef,noRefs,SD.Qaa,SD.Qab,SD.Qaf,SD.Qag,SD.Qah,SD.Qai,SD.Qaj,SD.Qal,SD.Qan,SD.Qaq,SE.QaR,SE.Qam,SE.Qao,SE.Qap,SE.Qav,SE.Qaz,SO.Qa9,SO.QaB,SO.QaD,SO.QaO,SO.Qau,SO.Qay,SO.Qdn,SU.Qa8,SU.QaX,SU.QbO,SU.Qbb,SU.Qby,Zad,Zae,Zag];done)))|(refine Rn.fn ?_ ?_<;>(repeat'(first|exact ZcB|refine ZcC ?_ ?_|exact Zck rfl|exact Rn.x6 rfl|exact Rn.x2 rfl rfl|exact Rn.x5 rfl|exact Rn.x1 rfl rfl))))))):p:=h
theorem permitted235(b)(A:List (List Int))(t c)(hA:A.length<=1000)(ht:t.length=A.length)(hc:c.length=A.length)(hm:m<=1000)(hl:b.lo.length=m)(hh:b.hi.length=m)(hel:∀a∈A,a.length=m):Ps 235 [bxV b,liV A,boV t,boV c] (.bool (perB b A t c)):=by
 refine Zcn 64 (Ok VL.s235) rfl (by simp only[noRefs,noRef,Qaa,QaD,QaB];rfl) rfl ?_;unfold VL.s235;refine Zc0 ?_;refine QaC 100 (fun i:Nat=>[(1,liV A),(2,boV t),(3,boV c),(4,.ptr 51 0 0),(9,.int .i64 i)]) (fun _=>[(51,.cells 0 [sli b.lo,sli b.hi])]) (fun i=>i<=A.length/\∀j,j<i->perQ b A t c j=false) (fun i=>A.length-i) 0 ⟨[(51,.blk 64 0)],rfl,au0,au23,au24⟩ ⟨Zai _,fun j hj=>absurd hj (ZaD _)⟩ ?_;rintro i⟨hi,hb⟩;by_cases hlt:i<A.length
 ·obtain⟨a,ha⟩:=Qak hlt;obtain⟨p,hp⟩:=Qak (l:=t) (i:=i) (by omega);obtain⟨q,hq⟩:=Qak (l:=c) (i:=i) (by omega);have hlp:i<t.length:=by omega
  have hlq:i<c.length:=by omega
  have hla:=hel a (Zac ha);have hw:=within87 b a (by omega) (by omega) (by omega);have hQ:perQ b A t c i=(q&&(!p&&inB b a)):=by unfold perQ;rw[QaA ha,QaA hp,QaA hq]
  cases q with
  |false=>refine Zc1 (Zc6 hlt hlp hlq (Qbu ha) (QaW hp) (QaW hq)) ?_;exact⟨i+1,by omega,⟨by omega,fun j hj=>by
   by_cases e:j=i;·subst e;rw[hQ];rfl
   ·exact hb j (by omega)⟩,⟨[(51,.blk 51 0)],rfl,au0,au23,au24⟩⟩
  |true=>cases p with|true=>refine Zc1 (Zc6 hlt hlp hlq (Qbu ha) (QaW hp) (QaW hq)) ?_;exact⟨i+1,by omega,⟨by omega,fun j hj=>by
   by_cases e:j=i;·subst e;rw[hQ];rfl
   ·exact hb j (by omega)⟩,⟨[(51,.blk 51 0)],rfl,au0,au23,au24⟩⟩|false=>cases h0:inB b a with|true=>rw[h0]at hw hQ;refine Zc1 (Zc6 hlt hlp hlq (Qbu ha) (QaW hp) (QaW hq)) ?_;refine cp hw ?_;refine Zc0 ?_;exact⟨.inr trivial,_,rfl,by rw[Qp1 hlt hQ];rfl⟩|false=>rw[h0]at hw hQ;refine Zc1 (Zc6 hlt hlp hlq (Qbu ha) (QaW hp) (QaW hq)) ?_;refine cp hw ?_;refine Zc0 ?_;exact⟨i+1,by omega,⟨by omega,fun j hj=>by
    by_cases e:j=i;·subst e;rw[hQ];rfl
    ·exact hb j (by omega)⟩,⟨[(51,.blk 51 0)],rfl,au0,au23,au24⟩⟩
 ·refine Zc1 hlt ?_;exact⟨.inr trivial,_,rfl,by rw[QrK fun j hj=>hb j (by omega)];rfl⟩
def cvQ(bs:List Bxn)(lf:List Bool)(k:Int)(t:List Int)(i:Nat):Bool:=!decide ((i:Int)=k)&&(lf.getD i false&&inB (bs.getD i bx0) t)
def cvB(bs:List Bxn)(lf:List Bool)(k:Int)(t:List Int):Bool:=(List.range bs.length).any (cvQ bs lf k t)
theorem Qnh{lf}{k}(hi:i<bs.length)(h:cvQ bs lf k t i=true):cvB bs lf k t=true:=by unfold cvB;exact Zby.2 ⟨i,Zat.2 hi,h⟩
theorem Qlq{lf}{k}(h:∀i,i<bs.length->cvQ bs lf k t i=false):cvB bs lf k t=false:=by unfold cvB;exact List.any_eq_false.2 fun i hi=>by rw[h i (Zat.1 hi)];decide
theorem covered180(bs:List Bxn)(lf)(k)(t:List Int)(v:bs.length<=1000)(hf:lf.length=bs.length)(u:t.length<=1000)(m:∀b∈bs,b.lo.length=t.length/\b.hi.length=t.length):Ps 180 [bxsV bs,boV lf,.int .i64 k,sli t] (.bool (cvB bs lf k t)):=by
 refine Zcn 64 (Ok VL.s180) rfl (by simp only[noRefs,noRef,Qaa,Qau,QaB];rfl) rfl ?_;unfold VL.s180;refine Zc0 ?_;refine QaC 100 (fun i:Nat=>[(0,bxsV bs),(1,boV lf),(2,.int .i64 k),(3,sli t),(9,.int .i64 i)]) (fun _=>[]) (fun i=>i<=bs.length/\∀j,j<i->cvQ bs lf k t j=false) (fun i=>bs.length-i) 0 ⟨[],rfl,au0,au23,au24⟩ ⟨Zai _,fun j n=>absurd n (ZaD _)⟩ ?_;rintro i⟨hi,p⟩;by_cases a:i<bs.length
 ·obtain⟨b,o⟩:=Qak a;obtain⟨q,h⟩:=Qak (l:=lf) (i:=i) (by omega);have c:i<lf.length:=by omega
  have f:=Qfl o;have g:2<=((bs.flatMap bxC).drop (i*2)).length:=by rw[f];simp
  obtain⟨r,s⟩:=m b (Zac o);have hw:=within87 b t r s (by omega);have d:cvQ bs lf k t i=(!decide ((i:Int)=k)&&(q&&inB b t)):=by unfold cvQ;rw[QaA o,QaA h]
  have up:cvQ bs lf k t i=false->∀j,j<i+1->cvQ bs lf k t j=false:=fun l j n=>by
   by_cases e:j=i;·subst e;exact l
   exact p j (by omega)
  by_cases hk:(i:Int)=k;·subst hk;rw[decide_eq_true rfl]at d;refine Zc1 (Zc2 a c) ?_;exact⟨i+1,by omega,⟨by omega,up d⟩,⟨[],rfl,au0,au23,au24⟩⟩
  rw[decide_eq_false hk]at d;cases q with|false=>refine Zc1 (Zc4 a c hk (QaW h)) ?_;exact⟨i+1,by omega,⟨by omega,up d⟩,⟨[],rfl,au0,au23,au24⟩⟩|true=>cases l:inB b t with|true=>rw[l]at hw d;refine Zc1 (Zc6 a c hk (QaW h) f g) ?_;refine cp hw ?_;refine Zc0 ?_;exact⟨.inr trivial,_,rfl,by rw[Qnh a d];rfl⟩|false=>rw[l]at hw d;refine Zc1 (Zc6 a c hk (QaW h) f g) ?_;refine cp hw ?_;refine Zc0 ?_;exact⟨i+1,by omega,⟨by omega,up d⟩,⟨[],rfl,au0,au23,au24⟩⟩
 refine Zc1 a ?_;exact⟨.inr trivial,_,rfl,by rw[Qlq fun j n=>p j (by omega)];rfl⟩
end Go.AM.SO
