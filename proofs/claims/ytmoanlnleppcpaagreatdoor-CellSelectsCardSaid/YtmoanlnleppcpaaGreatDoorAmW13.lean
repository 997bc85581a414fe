/- A part of the proof of CellSelectsCardSaid: lemmas on the way (AmCm, AmCs, AmCt, AmCu, AmCi, AmCk, AmCl, AmCn, AmCv, AmCw, AmCyc, AmCyd, AmCyb, AmCye, AmCyf, AmCyh, AmCyg, AmCyi, AmCyj, AmGb, AmGc, AmGe, AmXc). Conditions: none of ours. -/
import Derived.Test.YtmoanlnleppcpaaGreatDoorProg
import Derived.KernelRfl
import Derived.Test.YtmoanlnleppcpaaGreatDoorAmW12
set_option linter.unusedSectionVars false
set_option maxHeartbeats 32000000
set_option maxRecDepth 100000
set_option linter.unusedVariables false
set_option linter.unusedSimpArgs false
namespace Go.AM.SO
open Go.Proofs Go.AM.SD Go.AM.SE
structure Cel where
 ev:Nat->Evt
 cs:List (Nat×Aut)rs:List (Nat×Aut)xs:List (Nat×List (Nat×Nat))ks:List (List (Nat×Int)×Int)
def itC(ch:UInt8)(x:Nat×Aut):List AV:=[.str [ch,UInt8.ofNat (48+x.1)],sliN x.2.al,.int .i64 (x.2.n:Int),sliN x.2.ms,egsN x.2.es]
def loC(x:Nat×Nat):List AV:=[.int .i64 (x.1:Int),.int .i64 (x.2:Int)]
abbrev los(l:List (Nat×Nat)):AV:=.fsl (l.flatMap loC) l.length 2
def exC(x:Nat×List (Nat×Nat)):List AV:=[.str [101,UInt8.ofNat (48+x.1)],los x.2]
def teC(x:Nat×Int):List AV:=[.int .i64 (x.1:Int),.int .i64 x.2]
abbrev tes(l:List (Nat×Int)):AV:=.fsl (l.flatMap teC) l.length 2
def coC(x:List (Nat×Int)×Int):List AV:=[.str [107],tes x.1,.int .i64 x.2]
abbrev its(ch:UInt8)(l:List (Nat×Aut)):AV:=.fsl (l.flatMap (itC ch)) l.length 5
abbrev exs(l:List (Nat×List (Nat×Nat))):AV:=.fsl (l.flatMap exC) l.length 2
abbrev cos(l:List (List (Nat×Int)×Int)):AV:=.fsl (l.flatMap coC) l.length 3
abbrev celV(c:Cel):AV:=.agg [evsV c.ev,its 99 c.cs,its 114 c.rs,exs c.xs,cos c.ks]
structure WfI(a:Aut):Prop where
 wf:WfA a
 pos:0<a.n
 n3:a.n<=3
 can:restr a (fun _=>true)=a
 el:a.es.length<=25
structure WfCel(c:Cel):Prop where
 ev:∀i,i<5->(c.ev i).Ok
 c0:0<c.cs.length
 c3:c.cs.length<=3
 r2:c.rs.length<=2
 x2:c.xs.length<=2
 k1:c.ks.length<=1
 cn:c.cs.map (·.1)=List.range c.cs.length
 rn:c.rs.map (·.1)=List.range c.rs.length
 xn:(c.xs.map (·.1)).Pairwise (·<·)/\∀x∈c.xs,x.1<2
 ca:∀x∈c.cs,WfI x.2
 ra:∀x∈c.rs,WfI x.2
 rsub:∀x∈c.rs,∀e∈x.2.al,∃y∈c.cs,e∈y.2.al
 xl:∀x∈c.xs,x.2≠[]/\(x.2.map (·.1)).Pairwise (·<·)/\∀l∈x.2,∃y,c.cs[l.1]?=some y/\l.2<y.2.n
 kl:∀x∈c.ks,x.1≠[]/\(x.1.map (·.1)).Pairwise (·<·)/\(∀t∈x.1,t.1<c.cs.length/\t.2≠0/\-4<t.2/\t.2<4)/\-8<x.2/\x.2<8
theorem Qmq{l:List Nat}(h:l.Pairwise (·<·)){p q:Nat}(a:p<q)(b:q<l.length):l.getD p 0<l.getD q 0:=by grind[Za5]
theorem partLt{n b:Nat}:∀x∈SD.part n b,x<n:=fun x a=>(QjE.1 a).1
theorem Qpo{al:List Nat}{st mk:Nat}{T:List Nat}(d:al.Pairwise (·<·))(k:∀x∈al,x<5):WfA (gRaw al st mk T):=by
 have n:=QeK (st:=st) (mk:=mk) (T:=T) (Qbf d k);have a:=n.esn;have b:=n.n5;unfold gRaw at a b⊢;split;·exact⟨d,k,by simp,by simp,by simp,by simp,by simp,by simp⟩
 rename_i f;rw[if_neg f]at a b;have s:∀i,∀e∈gRow al (1+st%5) T i al.length,e.1=i/\∃j,j<al.length/\e.2.1=al.getD j 0:=fun i e he=>by unfold gRow at he;obtain⟨j,t,hm⟩:=List.mem_filterMap.1 he;unfold gEd at hm;grind
 refine⟨d,k,b,Qde _ _,partLt,?_,a,fun e he=>?_⟩
 ·show(gPre _ _ _ _).Pairwise _;unfold gPre;refine Qcp (fun i _=>?_) (List.pairwise_lt_range.imp fun o x u y m=>.inl ?_)
  ·unfold gRow;refine List.Pairwise.filterMap _ (R:=fun j l=>j<l/\l<al.length) ?_ (List.pairwise_lt_range.imp_of_mem fun _ r h=>⟨h,ZaT.1 r⟩);rintro x y⟨g,m⟩p hp q c;unfold gEd at hp c;split at hp
   ·split at c;·cases hp;cases c;exact .inr ⟨rfl,Qmq d g m⟩
    cases c
   cases hp
  grind
 grind[gPre]
theorem Qpp{al:List Nat}{st mk:Nat}{T:List Nat}(b:al.Pairwise (·<·))(a:∀x∈al,x<5):restr (mkA al st mk T) (fun _=>true)=mkA al st mk T:=by have h:=Qpo (st:=st) (mk:=mk) (T:=T) b a;show restr (canon _) _=canon _;grind[QkR,QkP]
theorem Qj2{es:List Ed}{s:Nat}:∀{L:List Nat}{out:List Nat},out.length<=(L.foldl (fEv es s) out).length|[],out=>ZaG _|e::L,out=>by rw[Za1];refine ZaI ?_ (Qj2 (L:=L));grind[fEv]
theorem QnI{al:List Nat}{es:List Ed}:∀(k i:Nat)(out:List Nat),out.length<=(fQ al es k i out).length
 |0,_,_=>ZaG _|k+1,i,out=>by
  unfold fQ;split;·exact ZaI Qj2 (QnI k (i+1) _)
  omega
theorem QlH{al:List Nat}{st mk:Nat}{T:List Nat}(a:al.Pairwise (·<·))(b:∀x∈al,x<5)(i:st<3):WfI (mkA al st mk T):=by
 have d:=QeK (st:=st) (mk:=mk) (T:=T) (Qbf a b);have e:gRaw al st mk T=⟨al,1+st%5,SD.part (1+st%5) mk,gPre al (1+st%5) T (1+st%5)⟩:=if_neg (by omega);have c:(gRaw al st mk T).n<=3:=by grind
 have hf:(found (gRaw al st mk T)).length<=(gRaw al st mk T).n:=QaN _ _ (QeG d.esn).1.nd (QeG d.esn).1.lt;have h1:=Qgy (gRaw al st mk T) (found (gRaw al st mk T)) (found (gRaw al st mk T)).length;refine⟨QpT a b,?_,ZaI hf c,Qpp a b,?_⟩
 ·show 0<(found (gRaw al st mk T)).length;have g:0<(gRaw al st mk T).n:=by grind
  unfold found;rw[if_pos g];exact ZaZ (by simp) (QnI _ _ _)
 have h:(mkA al st mk T).es.length=(cPre (gRaw al st mk T) (found (gRaw al st mk T)) (found (gRaw al st mk T)).length).length:=rfl;rw[h];have f:(gRaw al st mk T).al.length<=5:=by simp_all[Qbf]
 refine ZaI h1 (ZaI (Nat.mul_le_mul (ZaI hf c) f) (by decide))
structure Pln where
 L:List Nat
 X:List Nat
 xn:Nat
 f0:Int
 f1:Int
 f2:Int
 bd:Int
structure POk(p:Pln):Prop where
 L:p.L.length=147
 L8:∀x∈p.L,x<256
 X:p.X.length=p.xn*4
 X8:∀x∈p.X,x<256
 f0:-128<=p.f0/\p.f0<128
 f1:-128<=p.f1/\p.f1<128
 f2:-128<=p.f2/\p.f2<128
 bd:-128<=p.bd/\p.bd<128
abbrev plnC(p:Pln):List AV:=u8s p.L++[.fsl (u8s p.X) p.xn 4,.int .i8 p.f0,.int .i8 p.f1,.int .i8 p.f2,.int .i8 p.bd]
abbrev plnV(p:Pln):AV:=.agg (plnC p)
variable(p:Pln)
def pN:Nat:=1+p.L.getD 5 0%3
def pM:Nat:=p.L.getD 90 0%3
def pA(i:Nat):Aut:=mkA (SD.part 5 (p.L.getD (6+i) 0)) (p.L.getD (9+i*27) 0%3) (p.L.getD (9+i*27+1) 0) ((p.L.drop (9+i*27+2)).take 25)
def pAll:Nat->Nat|0=>0|i+1=>pAll i|||p.L.getD (6+i) 0%32
def pW(i:Nat):List Nat:=(SD.part 5 (p.L.getD (91+i) 0)).filter fun x=>(pAll p (pN p)).testBit x
def pR(i:Nat):Aut:=mkA (pW p i) (p.L.getD (93+i*27) 0%3) (p.L.getD (93+i*27+1) 0) ((p.L.drop (93+i*27+2)).take 25)
def pCs(n:Nat):List (Nat×Aut):=(List.range n).map fun i=>(i,pA p i)
def pRs(n:Nat):List (Nat×Aut):=(List.range n).map fun i=>(i,pR p i)
def pLo(i:Nat):Nat->List (Nat×Nat)|0=>[]|k+1=>if p.X.getD (i*4+k) 0%((pA p k).n+2)<(pA p k).n then pLo i k++[(k,p.X.getD (i*4+k) 0%((pA p k).n+2))]else pLo i k
def pXs:Nat->List (Nat×List (Nat×Nat))|0=>[]|i+1=>if 0<(pLo p i (pN p)).length then pXs i++[(i,pLo p i (pN p))]else pXs i
def pF(i:Nat):Int:=if i=0 then p.f0 else if i=1 then p.f1 else p.f2
def pT:Nat->List (Nat×Int)|0=>[]|i+1=>if pF p i=0 then pT i else pT i++[(i,(pF p i).tmod 4)]
def pT0:List (Nat×Int):=(pT p (pN p)).filter fun t=>!(decide (t.2=0))
def pKs:List (List (Nat×Int)×Int):=if 0<(pT0 p).length then[(pT0 p,p.bd.tmod 8)]else[]
def mkC:Cel:=⟨fun i=>evOf ((p.L.take 5).getD i 0),pCs p (pN p),pRs p (pM p),pXs p (min p.xn 2),pKs p⟩
variable{p}
theorem pN_le:1<=pN p/\pN p<=3:=by unfold pN;omega
theorem pM_le:pM p<=2:=by unfold pM;omega
theorem Qiy(i:Nat):(pW p i).Pairwise (·<·):=(Qde _ _).filter _
theorem pW_lt(i:Nat):∀x∈pW p i,x<5:=fun x a=>partLt x (ZbD.1 a).1
theorem pA_wf(i:Nat):WfI (pA p i):=QlH (Qde _ _) partLt (by omega)
theorem pR_wf(i:Nat):WfI (pR p i):=QlH (Qiy i) (pW_lt i) (by omega)
theorem QnJ{al:List Nat}{st mk:Nat}{T:List Nat}:(mkA al st mk T).al=al:=by show(gRaw al st mk T).al=al;grind[gRaw]
theorem Qhg{i:Nat}:∀{n:Nat},∀x∈pLo p i n,x.1<n/\x.2<(pA p x.1).n
 |0,x,h=>by cases h|n+1,x,h=>by
  unfold pLo at h;split at h
  ·rename_i hc;rcases Zbf.1 h with h|h;·have:=Qhg x h;omega
   simp_all
  have:=Qhg x h;omega
theorem QeL{i:Nat}:∀{n:Nat},((pLo p i n).map (·.1)).Pairwise (·<·)
 |0=>by simp[pLo]|n+1=>by
  unfold pLo;split;·rw[ZaQ,Zbm];refine⟨QeL,by simp,fun x c y a=>?_⟩;simp at a;subst a;obtain⟨z,b,rfl⟩:=Zas.1 c;exact(Qhg z b).1
  exact QeL
theorem Qfs:∀{n:Nat},∀x∈pXs p n,x.1<n/\x.2=pLo p x.1 (pN p)/\x.2≠[]
 |0,x,h=>by cases h|n+1,x,h=>by
  unfold pXs at h;split at h
  ·rename_i hc;rcases Zbf.1 h with h|h;·have:=Qfs x h;grind
   grind
  have:=Qfs x h;grind
theorem QeM:∀{n:Nat},((pXs p n).map (·.1)).Pairwise (·<·)
 |0=>by simp[pXs]|n+1=>by
  unfold pXs;split;·rw[ZaQ,Zbm];refine⟨QeM,by simp,fun x c y a=>?_⟩;simp at a;subst a;obtain⟨z,b,rfl⟩:=Zas.1 c;exact(Qfs z b).1
  exact QeM
theorem QhB:∀{n:Nat},(pXs p n).length<=n|0=>by simp[pXs]|n+1=>by have:=@QhB n;grind[pXs]
theorem QhC{i:Nat}:∀{n:Nat},(pLo p i n).length<=n|0=>by simp[pLo]|n+1=>by have:=@QhC i n;grind[pLo]
theorem Qj3:∀{n:Nat},(pT p n).length<=n|0=>by simp[pT]|n+1=>by have:=@Qj3 n;grind[pT]
theorem pT_lt:∀{n:Nat},∀x∈pT p n,x.1<n/\-4<x.2/\x.2<4
 |0,x,h=>by cases h|n+1,x,h=>by
  unfold pT at h;split at h;·have:=pT_lt x h;omega
  rcases Zbf.1 h with h|h;·have:=pT_lt x h;omega
  grind
theorem Qft:∀{n:Nat},((pT p n).map (·.1)).Pairwise (·<·)
 |0=>by simp[pT]|n+1=>by
  unfold pT;split;·exact Qft
  rw[ZaQ,Zbm];refine⟨Qft,by simp,fun x c y a=>?_⟩;simp at a;subst a;obtain⟨z,b,rfl⟩:=Zas.1 c;exact(pT_lt z b).1
theorem Qj4{e:Nat}:∀{n:Nat},(pAll p n).testBit e=true->e<5->∃i,i<n/\(p.L.getD (6+i) 0).testBit e=true
 |0,h,_=>by simp[pAll]at h|n+1,h,a=>by
  unfold pAll at h;rw[Nat.testBit_or,Zbc]at h;rcases h with h|h;·obtain⟨i,hi,h⟩:=Qj4 h a;grind
  rw[show 32=2^5 from rfl,Nat.testBit_mod_two_pow]at h;grind
theorem QnK{n i:Nat}(h:i<n):(pCs p n)[i]?=some (i,pA p i):=by simp_all[pCs]
theorem Qp0:WfCel (mkC p):=by
 have h1:=@pN_le p;have r:=@pM_le p;have hc:(pCs p (pN p)).length=pN p:=by simp[pCs]
 have s:(pRs p (pM p)).length=pM p:=by simp[pRs]
 have a:=@QhB p (min p.xn 2);refine⟨fun i _=>Qpn _,?_,?_,?_,?_,?_,?_,?_,⟨QeM,fun x a=>?_⟩,fun x a=>?_,fun x a=>?_,fun x a e he=>?_,fun x a=>?_,fun x a=>?_⟩;·show 0<(pCs p (pN p)).length;omega
 ·show(pCs p (pN p)).length<=3;omega
 ·show(pRs p (pM p)).length<=2;omega
 ·show(pXs p _).length<=2;omega
 ·show(pKs p).length<=1;grind[pKs]
 ·show(pCs p (pN p)).map (·.1)=List.range (pCs p (pN p)).length;simp_all[pCs,Function.comp_def]
 ·show(pRs p (pM p)).map (·.1)=List.range (pRs p (pM p)).length;simp_all[pRs,Function.comp_def]
 ·have:=(Qfs x a).1;omega
 ·obtain⟨i,_,rfl⟩:=Zas.1 (show x∈pCs p (pN p)from a);exact pA_wf i
 ·obtain⟨i,_,rfl⟩:=Zas.1 (show x∈pRs p (pM p)from a);exact pR_wf i
 ·obtain⟨i,_,rfl⟩:=Zas.1 (show x∈pRs p (pM p)from a);dsimp only at he;rw[show(pR p i).al=pW p i from QnJ]at he;obtain⟨c,d⟩:=ZbD.1 he;obtain⟨j,n,d⟩:=Qj4 d (partLt e c);refine⟨(j,pA p j),Zas.2 ⟨j,ZaT.2 n,rfl⟩,?_⟩;simp_all[pA,QnJ,QjE]
 ·obtain⟨_,g,c⟩:=Qfs x a;refine⟨c,by grind[QeL],fun l f=>?_⟩;rw[g]at f;obtain⟨h,o⟩:=Qhg l f;exact⟨_,QnK h,o⟩
 have b:x∈pKs p:=a;unfold pKs at b;split at b
 ·rename_i m;simp at b;subst b;refine⟨List.ne_nil_of_length_pos m,?_,fun t k=>?_,?_,?_⟩;·exact(Qft (n:=pN p)).sublist (List.Sublist.map _ (List.filter_sublist))
  ·obtain⟨q,g⟩:=ZbD.1 (show t∈pT0 p from k);have c:=pT_lt t q;simp_all[mkC]
  ·grind
  grind
 cases b
end Go.AM.SO
namespace Go.AM.SU
open Go.Proofs
set_option maxHeartbeats 4000000
noncomputable section
def cf:YA.Cf:={always:=[38,185].map fun k=>(k,.pure)}
def s26:SFn:=⟨192,[.cell 2 (some 5)],(.seq (.region [Zz 1 (.box .dyn (.t 0)) [],Zz 2 (.alloc .dyn (.agg [.nilsl,.nilsl,.nilsl,.nilsl,.nilsl])) []] [] [0]) (.seq (.region [Zf 17 0 1 [],Zw 18 5 17 [0],Zz 19 (.call .pure (.f 88) [(.t 18)]) [1],Zz 20 (.build [.nilsl,.nilsl,.nilsl,.nilsl,.nilsl] [(0,1,(.t 19))]) [2],Zz 3 (.alloc .dyn (.agg [.nilsl,.nilsl,.nilsl,.nilsl,.nilsl])) [],Zs 5 3 20 (Za [4,3,2] 5)] [] [17,18,19,20]) (.seq (.region [Zz 4 (.alloc .dyn .nilsl) []] [] []) (.seq (.region [Zf 21 5 1 [],Zl 22 21 [0],Zz 23 (.bin .rem (.t 22) (.c (.int .u8 3))) [1],Zz 24 (.conv .i64 (.t 23)) [2],Zz 25 (.bin .add (.c (.int .i64 1)) (.t 24)) [3],Zm 5 25 (Za [4] 5)] [] [21,22,23,24,25]) (.seq (.seq (.region [Zm 26 5 [],Zz 27 (.mov (.c (.int .i64 0))) []] [] []) (.block 0 (.loop (.seq (.region [Zb 28 .lss 27 26 []] [] []) (.seq (.cond (.t 28) .skip (.exit 0)) (.seq (.block 1 (.seq (.region [Zm 29 27 [],Zm 6 29 [0,0]] [] [28,29]) (.seq (.region [Zm 30 6 [],Zf 31 6 1 [],Zz 32 (.iaddr (some 3) 1 (.t 31) (.t 30)) [1,0],Zl 33 32 [2],Zz 34 (.call .pure (.f 89) [(.t 33)]) [3],Zm 7 34 (Za [4,4] 5)] [] [30,31,32,33,34]) (.seq (.region [Zl 35 4 [],Zm 36 7 [],Zz 37 (.call .pure (.f 90) [(.t 35),(.t 36)]) [0,1],Zs 1 4 37 [2,2,0,1,2]] [] [35,36,37]) (.region [Zf 38 1 3 [],Zl 39 38 [0],Zm 40 6 [],Zz 41 (.bin .add (.c (.int .i64 48)) (.t 40)) [2],Zz 42 (.conv .i32 (.t 41)) [3],Zz 43 (.convS (.t 42)) [4],Zz 44 (.bin .add (.c (.str [99])) (.t 43)) [5],Zm 45 7 [],Zm 46 6 [],Zf 47 9 1 [],Zz 48 (.iaddr (some 3) 27 (.t 47) (.t 46)) [9,8],Zw 49 27 48 [10],Zz 50 (.call .pure (.f 91) [(.t 45),(.t 49),(.c (.int .i64 3))]) [7,11],Zz 51 (.build [(.str []),.nilsl,(.int .i64 0),.nilsl,.nilsl] [(0,1,(.t 44)),(1,4,(.t 50))]) [6,12],Zz 52 (.bslice false .dyn 5 1 [(.str []),.nilsl,(.int .i64 0),.nilsl,.nilsl] [(0,5,(.t 51))]) [13],Zz 53 (.append .dyn 5 96 (.t 39) (.t 52)) [1,14,12],Zf 54 1 3 (Za [] 16),Zs 1 54 53 (Za [16,15,15] 16)] [] [6,7,38,39,40,41,42,43,44,45,46,47,48,49,50,51,52,53,54]))))) (.region [Zz 55 (.bin .add (.t 27) (.c (.int .i64 1))) [],Zm 27 55 [0]] [] [55]))))))) (.seq (.seq (.region [Zf 56 90 1 [],Zl 57 56 [0],Zz 58 (.bin .rem (.t 57) (.c (.int .u8 3))) [1],Zz 59 (.conv .i64 (.t 58)) [2],Zz 60 (.mov (.c (.int .i64 0))) []] [] [26,27,56,57,58]) (.block 2 (.loop (.seq (.region [Zb 61 .lss 60 59 []] [] []) (.seq (.cond (.t 61) .skip (.exit 2)) (.seq (.block 3 (.seq (.region [Zm 62 60 [],Zm 8 62 [0,0]] [] [61,62]) (.seq (.region [Zm 63 8 [],Zf 64 91 1 [],Zz 65 (.iaddr (some 2) 1 (.t 64) (.t 63)) [1,0],Zl 66 65 [2],Zz 67 (.call .heap (.f 89) [(.t 66)]) [3],Zz 68 (.mkfn 92 [] [(.t 4)]) [],Zz 69 (.call .heap (.f 40) [(.t 67),(.t 68)]) [4,5,4],Zm 9 69 (Za [6,6] 7)] [] [63,64,65,66,67,68,69]) (.region [Zf 70 2 3 [],Zl 71 70 [0],Zm 72 8 [],Zz 73 (.bin .add (.c (.int .i64 48)) (.t 72)) [2],Zz 74 (.conv .i32 (.t 73)) [3],Zz 75 (.convS (.t 74)) [4],Zz 76 (.bin .add (.c (.str [114])) (.t 75)) [5],Zm 77 9 [],Zm 78 8 [],Zf 79 93 1 [],Zz 80 (.iaddr (some 2) 27 (.t 79) (.t 78)) [9,8],Zw 81 27 80 [10],Zz 82 (.call .pure (.f 91) [(.t 77),(.t 81),(.c (.int .i64 3))]) [7,11],Zz 83 (.build [(.str []),.nilsl,(.int .i64 0),.nilsl,.nilsl] [(0,1,(.t 76)),(1,4,(.t 82))]) [6,12],Zz 84 (.bslice false .dyn 5 1 [(.str []),.nilsl,(.int .i64 0),.nilsl,.nilsl] [(0,5,(.t 83))]) [13],Zz 85 (.append .dyn 5 96 (.t 71) (.t 84)) [1,14,12],Zf 86 2 3 (Za [] 16),Zs 1 86 85 (Za [16,15,15] 16)] [] [8,9,70,71,72,73,74,75,76,77,78,79,80,81,82,83,84,85,86])))) (.region [Zz 87 (.bin .add (.t 60) (.c (.int .i64 1))) [],Zm 60 87 [0]] [] [87]))))))) (.seq (.seq (.region [Zf 88 147 1 [],Zl 89 88 [0],Zv 90 89 [1],Zz 91 (.mov (.c (.int .i64 0))) []] [] [4,59,60,88]) (.block 4 (.loop (.seq (.region [Zb 92 .lss 91 90 []] [] []) (.seq (.cond (.t 92) .skip (.exit 4)) (.seq (.block 5 (.seq (.region [Zm 93 91 [],Zi 94 4 89 91 [],Zw 95 4 94 [1],Zz 11 (.alloc .dyn (.agg [(.int .u8 0),(.int .u8 0),(.int .u8 0),(.int .u8 0)])) [],Zm 10 93 [0,0,1,2,3],Zs 4 11 95 (Za [3,2,4] 5)] [] [92,93,94,95]) (.seq (.seq (.region [Zm 96 10 [],Zz 97 (.bin .eql (.t 96) (.c (.int .i64 2))) [0]] [] [96]) (.cond (.t 97) (.exit 4) .skip)) (.seq (.region [Zm 98 10 [],Zz 99 (.bin .add (.c (.int .i64 48)) (.t 98)) [0],Zz 100 (.conv .i32 (.t 99)) [1],Zz 101 (.convS (.t 100)) [2],Zz 102 (.bin .add (.c (.str [101])) (.t 101)) [3],Zz 103 (.build [(.str []),.nilsl] [(0,1,(.t 102))]) [4],Zz 12 (.alloc .dyn (.agg [(.str []),.nilsl])) [],Zs 2 12 103 (Za [6,5] 7)] [] [10,97,98,99,100,101,102,103]) (.seq (.seq (.region [Zf 104 1 3 [],Zl 105 104 [0],Zv 106 105 [1],Zz 107 (.mov (.c (.int .i64 0))) []] [] [104,105]) (.block 6 (.loop (.seq (.region [Zb 108 .lss 107 106 []] [] []) (.seq (.cond (.t 108) .skip (.exit 6)) (.seq (.block 7 (.seq (.region [Zm 109 107 [],Zm 13 109 [0,0]] [] [108,109]) (.seq (.region [Zf 110 1 3 [],Zl 111 110 [0],Zm 112 13 [],Zi 113 5 111 112 [1,2],Zf 114 1 113 [3],Zf 115 1 114 [4],Zl 116 115 [5],Zm 14 116 (Za [6] 7)] [] [110,111,112,113,114,115,116]) (.seq (.region [Zm 117 13 [],Zz 118 (.iaddr (some 4) 1 (.t 11) (.t 117)) [0],Zl 119 118 [1],Zz 120 (.conv .i64 (.t 119)) [2],Zm 121 14 [],Zz 122 (.bin .add (.t 121) (.c (.int .i64 2))) [4],Zb 123 .rem 120 122 [3,5],Zm 124 14 [],Zb 125 .lss 123 124 [6,7]] [] [117,118,119,120,121,122,123,124]) (.cond (.t 125) (.region [Zf 126 1 12 [],Zl 127 126 [0],Zm 128 13 [],Zm 129 13 [],Zz 130 (.iaddr (some 4) 1 (.t 11) (.t 129)) [3],Zl 131 130 [4],Zz 132 (.conv .i64 (.t 131)) [5],Zm 133 14 [],Zz 134 (.bin .add (.t 133) (.c (.int .i64 2))) [7],Zb 135 .rem 132 134 [6,8],Zz 136 (.build [(.int .i64 0),(.int .i64 0)] [(0,1,(.t 128)),(1,1,(.t 135))]) [2,9],Zz 137 (.bslice false .dyn 2 1 [(.int .i64 0),(.int .i64 0)] [(0,2,(.t 136))]) [10],Zz 138 (.append .dyn 2 16 (.t 127) (.t 137)) [1,11],Zf 139 1 12 (Za [] 13),Zs 1 139 138 (Za [13,12,12] 13)] [] [13,14,125,126,127,128,129,130,131,132,133,134,135,136,137,138,139]) .skip))))) (.region [Zz 140 (.bin .add (.t 107) (.c (.int .i64 1))) [],Zm 107 140 [0]] [] [13,14,125,140]))))))) (.seq (.region [Zf 141 1 12 [],Zl 142 141 [0],Zv 143 142 [1],Zz 144 (.bin .gtr (.t 143) (.c (.int .i64 0))) [2]] [] [11,106,107,141,142,143]) (.cond (.t 144) (.region [Zf 145 3 3 [],Zl 146 145 [0],Zw 147 2 12 [],Zz 148 (.bslice false .dyn 2 1 [(.str []),.nilsl] [(0,2,(.t 147))]) [2],Zz 149 (.append .dyn 2 40 (.t 146) (.t 148)) [1,3],Zf 150 3 3 (Za [] 5),Zs 1 150 149 (Za [5,4,4] 5)] [] [12,144,145,146,147,148,149,150]) .skip))))))) (.region [Zz 151 (.bin .add (.t 91) (.c (.int .i64 1))) [],Zm 91 151 [0]] [] [12,144,151]))))))) (.seq (.region [Zf 152 151 1 [],Zl 153 152 [0],Zz 154 (.conv .i64 (.t 153)) [1],Zz 155 (.bin .rem (.t 154) (.c (.int .i64 8))) [2],Zz 156 (.build [(.str []),.nilsl,(.int .i64 0)] [(0,1,(.c (.str [107]))),(2,1,(.t 155))]) [3],Zz 15 (.alloc .dyn (.agg [(.str []),.nilsl,(.int .i64 0)])) [],Zs 3 15 156 (Za [5,4] 6)] [] [89,90,91,152,153,154,155,156]) (.seq (.seq (.region [Zm 157 5 [],Zz 158 (.mov (.c (.int .i64 0))) []] [] [5]) (.block 8 (.loop (.seq (.region [Zb 159 .lss 158 157 []] [] []) (.seq (.cond (.t 159) .skip (.exit 8)) (.seq (.block 9 (.seq (.region [Zm 160 158 [],Zm 16 160 [0,0]] [] [159,160]) (.seq (.region [Zm 161 16 [],Zf 162 148 1 [],Zz 163 (.iaddr (some 3) 1 (.t 162) (.t 161)) [1,0],Zl 164 163 [2],Zz 165 (.bin .neq (.t 164) (.c (.int .i8 0))) [3]] [] [161,162,163,164]) (.cond (.t 165) (.region [Zf 166 1 15 [],Zl 167 166 [0],Zm 168 16 [],Zm 169 16 [],Zf 170 148 1 [],Zz 171 (.iaddr (some 3) 1 (.t 170) (.t 169)) [4,3],Zl 172 171 [5],Zz 173 (.conv .i64 (.t 172)) [6],Zz 174 (.bin .rem (.t 173) (.c (.int .i64 4))) [7],Zz 175 (.build [(.int .i64 0),(.int .i64 0)] [(0,1,(.t 168)),(1,1,(.t 174))]) [2,8],Zz 176 (.bslice false .dyn 2 1 [(.int .i64 0),(.int .i64 0)] [(0,2,(.t 175))]) [9],Zz 177 (.append .dyn 2 16 (.t 167) (.t 176)) [1,10],Zf 178 1 15 (Za [] 12),Zs 1 178 177 (Za [12,11,11] 12)] [] [16,165,166,167,168,169,170,171,172,173,174,175,176,177,178]) .skip)))) (.region [Zz 179 (.bin .add (.t 158) (.c (.int .i64 1))) [],Zm 158 179 [0]] [] [16,165,179]))))))) (.seq (.region [Zf 180 1 15 [],Zl 181 180 [0],Zz 182 (.call .heap (.f 93) [(.t 181),(.f 94)]) [1],Zf 183 1 15 [0,1,2],Zs 1 183 182 [3,2,2,0,1,2]] [] [1,157,158,180,181,182,183]) (.seq (.seq (.region [Zf 184 1 15 [],Zl 185 184 [0],Zv 186 185 [1],Zz 187 (.bin .gtr (.t 186) (.c (.int .i64 0))) [2]] [] [184,185,186]) (.cond (.t 187) (.region [Zw 188 3 15 [],Zz 189 (.bslice false .dyn 3 1 [(.str []),.nilsl,(.int .i64 0)] [(0,3,(.t 188))]) [0],Zf 190 4 3 [0,1],Zs 1 190 189 [2,1,0,1]] [] [15,187,188,189,190]) .skip)) (.seq (.region [Zw 191 5 3 [],Zs 5 2 191 [0,0]] [] [3,15,187,191]) .ret))))))))))))⟩
def s40:SFn:=by
 refine(?f:YA.Yt Tryz.prog cf 40 [[4],[8,9,10],[11],[0,1,5,12,13],[4,12,14,15],[16,17,18],[19,22,23,24,25],[26,27,28],[7,29,30,31,32,33],[34,35],[7,29,20,21],[1,6,36,37,38],[0,5,39,40,41]]) ?s ?h;case h=>exact YA.rr
 exact fun s _=>s
def s91:SFn:=by
 refine(?f:YA.Yt Tryz.prog cf 91 [[1],[2,7,8,9,10,11,12],[0,4,13,14,15]]) ?s ?h;case h=>exact YA.rr
 exact fun s _=>s
def s92:SFn:=by
 refine(?f:YA.Yt Tryz.prog cf 92 [[3],[0,1,4,5,6,7]]) ?s ?h;case h=>exact YA.rr
 exact fun s _=>s
def s93:SFn:=by
 refine(?f:YA.Yt Tryz.prog cf 93 [[4],[8,9,10],[11],[0,1,5,12,13],[4,12,14,15],[16,17,18],[19,22,23,24,25],[26,27,28],[7,29,30,31,32,33],[34,35],[7,29,20,21],[1,6,36,37,38],[0,5,39,40,41]]) ?s ?h;case h=>exact YA.rr
 exact fun s _=>s
def s94:SFn:=by
 refine(?f:YA.Yt Tryz.prog cf 94 [[0,2],[1,3,4,5]]) ?s ?h;case h=>exact YA.rr
 exact fun s _=>s
def s110:SFn:=by
 refine(?f:YA.Yt Tryz.prog cf 110 [[4],[6],[],[9,10],[11,12,13,14,15],[0,1,7,8,5,16,17],[4,5,16,18],[0,1,7,8]]) ?s ?h;case h=>exact YA.rr
 exact fun s _=>s
def s186:SFn:=by
 refine(?f:YA.Yt Tryz.prog cf 186 [[4],[6],[],[9,10],[11,12,13,14,15],[0,1,7,8,5,16,17],[4,5,16,18],[0,1,7,8]]) ?s ?h;case h=>exact YA.rr
 exact fun s _=>s
theorem ok26:okFn Tryz.prog 26 s26=true:=by kernel_rfl
theorem ok40:okFn Tryz.prog 40 s40=true:=by kernel_rfl
theorem ok91:okFn Tryz.prog 91 s91=true:=by kernel_rfl
theorem ok92:okFn Tryz.prog 92 s92=true:=by kernel_rfl
theorem ok93:okFn Tryz.prog 93 s93=true:=by kernel_rfl
theorem ok94:okFn Tryz.prog 94 s94=true:=by kernel_rfl
theorem ok110:okFn Tryz.prog 110 s110=true:=by kernel_rfl
theorem ok186:okFn Tryz.prog 186 s186=true:=by kernel_rfl
end
end Go.AM.SU
namespace Go.AM.SU
open Go.Proofs Go.AM.SD Go.AM.SE
theorem _root_.Go.AM.Zcv{p q:Prop}(k:q)(h:p=q:=by conv=>lhs;simp(disch:=first|omega|exact PairsOK.mk rfl|(simp only[lenW]<;>omega))only[Zaj,wW,wV,simprocAttr]):p:=h▸k
theorem _root_.Go.AM.Zcw{p q A:Prop}(a:A)(k:q)(h:A->p=q:=by intro a;conv=>lhs;simp(disch:=first|omega|exact PairsOK.mk rfl|(simp only[lenW]<;>omega))only[a,Zaj,wW,wV,simprocAttr]):p:=h a▸k
theorem not92(A:List Nat)(x:Nat)(hA:A.length<=1000000):PSpec Tryz.prog 92 [.int .i64 (x:Int),.fptr [sliN A]] (.bool (!decide (x∈A))):=by
 refine Zb3 64 ok92 rfl (by simp only[noRefs,noRef,Qaa];rfl) rfl ?_;have h:=contains62 (nz A) x (by simp;omega);have e:decide ((x:Int)∈nz A)=decide (x∈A):=by
  refine decide_eq_decide.2 ⟨fun h=>?_,fun h=>Zas.2 ⟨x,h,rfl⟩⟩;obtain⟨a,h1,b⟩:=Zas.1 h;have:a=x:=by omega
  exact this▸h1
 rw[e,QaO]at h;unfold s92;refine Zcv ?_;refine cp h ?_;refine Zcv ?_;exact⟨.inr trivial,_,rfl,rfl⟩
def fstN(A l:List Nat):Int:=if l.all (fun x=>decide (x∈A))then-1 else(l.findIdx (fun x=>!decide (x∈A)):Int)
theorem cpc{P:Program}{N:NM}{r:List SOper}{dead:List Nat}{fs:List Fr}{n:Nat}{T:Tmps}{h:Heap}{Q:QC}{d:Option Nat}{f:Nat}{args a c:List AV}{v:AV}(hp:PSpec P f (a++args++c) v)(k:wR P N r dead fs (n+1) (putD T d v) h Q):wCall P N .heap (.fn f a c) args d r dead fs n T h Q:=⟨v,h,hp.toH h,k⟩
theorem chc{P:Program}{N:NM}{r:List SOper}{dead:List Nat}{fs:List Fr}{n:Nat}{T:Tmps}{h h1:Heap}{Q:QC}{d:Option Nat}{f:Nat}{args a c:List AV}{v:AV}(hp:HSpec P f (a++args++c) h v h1)(k:wR P N r dead fs (n+1) (putD T d v) h1 Q):wCall P N .heap (.fn f a c) args d r dead fs n T h Q:=⟨v,h1,hp,k⟩
theorem _root_.Go.AM.au10{p:Prop}(h:p:=by repeat'(first|exact Zb9|(refine Zb1 ?_;first|rfl|(simp only[noRef,noRefs,Qah,Zak,Zac,Zag,Qaa,Qam,Qab];done))|exact RnM.keyM rfl|exact Zcf|exact(True.intro:RnM _ _ _ [] [])|refine Zcg ?_ ?_|(refine Zb0 ?_;first|rfl|(simp only[noRef,noRefs,Qah,Zak,Zac,Zag,Qaa,Qam,Qab];done))|exact Rn.x1 rfl rfl|exact Rn.x2 rfl rfl|exact Rn.x3 rfl rfl|exact Rn.x4 rfl rfl|exact Rn.x5 rfl|exact Rn.x6 rfl|exact Rn.x7 rfl|refine Zcb rfl rfl ?_|refine Zca rfl rfl rfl ?_ ?_|refine Zcc rfl rfl rfl ?_ ?_|refine Zcd rfl rfl ?_ ?_|refine Zce rfl rfl ?_ ?_)):p:=h
theorem index110(A l:List Nat)(hA:A.length<=1000000)(o:l.length<=1000000):PSpec Tryz.prog 110 [sliN l,.fn 92 [] [.fptr [sliN A]]] (.int .i64 (fstN A l)):=by
 refine Zb3 64 ok110 rfl (by simp only[noRefs,noRef,Qaa];rfl) rfl ?_;unfold s110;refine Zcv ?_;refine Qay 100 (fun i:Nat=>[(0,sliN l),(1,.fn 92 [] [.fptr [sliN A]]),(7,.int .i64 l.length),(8,.int .i64 i)]) (fun _=>[]) (fun i=>i<=l.length/\∀(j:Nat)y,j<i->l[j]?=some y->y∈A) (fun i=>l.length-i) 0 ⟨[],rfl,au0,au10,au9⟩ ⟨Zah _,fun j y c=>absurd c (Zaw _)⟩ ?_;rintro i⟨hi,g⟩;by_cases a:i<l.length
 ·obtain⟨x,b⟩:=Qac a;have f:=not92 A x hA;by_cases d:x∈A
  ·have e:(!decide (x∈A))=false:=by simp[d]
   rw[e]at f;refine Zcw (Zcz a (QaP b)) ?_;refine cpc f ?_;refine Zcv ?_;refine⟨i+1,by omega,⟨by omega,fun j y c m=>?_⟩,⟨[],rfl,au0,au10,au9⟩⟩;by_cases e:j=i;·subst e;rw[b]at m;cases m;exact d
   exact g j y (by omega) m
  have e:(!decide (x∈A))=true:=by simp[d]
  rw[e]at f;refine Zcw (Zcz a (QaP b)) ?_;refine cpc f ?_;refine Zcv ?_;refine⟨.inr trivial,_,rfl,?_⟩;have h1:¬l.all (fun x=>decide (x∈A))=true:=by intro h;exact d (by simpa using ZaC.1 h x (Zae b))
  have n:l.findIdx (fun x=>!decide (x∈A))=i:=by rw[List.findIdx_eq a];refine⟨by rw[Zad a]at b;cases b;simp[d],fun j c=>?_⟩;have:=g j l[j] c (Zad (by omega));simpa using this
  unfold fstN;rw[if_neg h1,n];rfl
 have h1:l.all (fun x=>decide (x∈A))=true:=by rw[ZaC];intro x b;obtain⟨j,c,k⟩:=ZaX b;simpa using g j x (by omega) (by rw[Zad c,k])
 refine Zcw a ?_;refine⟨.inr trivial,_,rfl,?_⟩;unfold fstN;rw[if_pos h1];rfl
theorem Qeh{cs vs:List AV}{off:Nat}(h:off<cs.length):putR cs off vs=cs.take off++vs++cs.drop (off+vs.length):=by
 unfold putR;split;·rename_i v;rw[List.set_eq_take_append_cons_drop,if_pos h];simp
 rfl
theorem Qj5{P:Program}{N:NM}{d:Option Nat}{r:List SOper}{dead:List Nat}{fs:List Fr}{n:Nat}{T:Tmps}{h:Heap}{Q:QC}{b g off len sz:Nat}{cs zero:List AV}(i:h.get b=some (.cells g cs))(o:0<len)(m:off+len*sz<=cs.length)(f:zero.length=sz)(ho:zero.all AV.one=true)(c:b<lim)(l:wR P N r dead fs (n+1) (putD T d .any) (h.set b (.cells g (putR cs off (List.replicate len zero).flatten))) Q):wM P N (aClear sz zero (.sl b g off len sz)) d r dead fs n T h Q:=by
 obtain⟨k,rfl⟩:∃k,len=k+1:=⟨len-1,by omega⟩;refine⟨_,_,?_,l⟩;have j:Nat.beq g g=true:=by simp
 have a:Nat.blt b lim=true:=by simpa using c
 simp only[aClear,if_true,HM.cells,HM.run,i,j,cond_true];rw[if_pos ⟨m,f,ho⟩];simp only[HM.run,a,cond_true]
def fltN(A l:List Nat):List Nat:=l.filter fun x=>decide (x∈A)
theorem Qj6{A l:List Nat}{j v:Nat}(h:l[j]?=some v):fltN A (l.take (j+1))=if v∈A then fltN A (l.take j)++[v]else fltN A (l.take j):=by unfold fltN;rw[Zbe,h,Option.toList,List.filter_append];by_cases a:v∈A<;>simp[a]
def delL(A l:List Nat):List Nat:=fltN A l++List.replicate (l.length-(fltN A l).length) 0
theorem Qpq{A l:List Nat}(h:l.all (fun x=>decide (x∈A))=true):fltN A l=l:=by unfold fltN;exact ZbB.2 fun x a=>ZaC.1 h x a
theorem QoD{k:Nat}:(List.replicate k [AV.int .i64 0]).flatten=ints (nz (List.replicate k 0)):=by induction k with|zero=>rfl|succ k a=>rw[Zbp,List.flatten_cons,a];rfl
theorem QnL{l:List Nat}{i:Nat}:(ints (nz l)).take i=ints (nz (l.take i)):=by simp[ints,nz,List.map_take]
theorem QlI{l:List Nat}{i x:Nat}(h:l[i]?=some x):(ints (nz l))[i]?=some (.int .i64 (x:Int)):=by simp[ints,h]
theorem del40(A l:List Nat)(hA:A.length<=1000000)(O:l.length<=1000000):HSpec Tryz.prog 40 [.sl 98 0 0 l.length 1,.fn 92 [] [.ptr 75 0 0]] (hp [(75,.cells 0 [sliN A]),(98,.cells 0 (ints (nz l)))]) (.sl 98 0 0 (fltN A l).length 1) (hp [(75,.cells 0 [sliN A]),(98,.cells 0 (ints (nz (delL A l))))]):=by
 refine HSpec.QlC (m:=99) 100 ok40 rfl rfl ?_;have M:(ints (nz l)).length=l.length*1:=by simp[ints]
 unfold s40;refine Zcv ?_;refine chc (Zcj (Zcl (FrzTo.all gg M) (Zcl (FrzTo.fn Zck (Zcl (Zci (g:=0) (cs:=[sliN A]) gg (Zcl (Zb4 _) Zck)) Zck)) Zck)) (index110 A l hA O) rfl) ?_;by_cases a:l.all (fun x=>decide (x∈A))=true;·have y:fstN A l=-1:=if_pos a;refine Zcw y ?_;refine⟨.inr trivial,_,rfl,?_⟩;unfold delL;rw[Qpq a,Nat.sub_self,List.replicate_zero,Zax];exact⟨[(75,.nil),(98,.nil)],rfl,au0,au10,au9⟩
 have y:fstN A l=(l.findIdx (fun x=>!decide (x∈A)):Int):=if_neg a;have hex:∃x∈l,(!decide (x∈A))=true:=by have:¬∀x∈l,decide (x∈A)=true:=fun h=>a (ZaC.2 h);obtain⟨x,r⟩:=Classical.not_forall.1 this;obtain⟨r,P⟩:=Classical.not_imp.1 r;exact⟨x,r,by simpa using P⟩
 have k:l.findIdx (fun x=>!decide (x∈A))<l.length:=List.findIdx_lt_length_of_exists hex;obtain⟨c,E⟩:∃c,c=l.findIdx (fun x=>!decide (x∈A)):=⟨_,rfl⟩;rw[<-E]at y k;have K:l[c]∉A:=by have:=List.findIdx_getElem (w:=by rw[<-E];exact k) (xs:=l) (p:=fun x=>!decide (x∈A));simp only[<-E]at this;simpa using this
 have q:fltN A (l.take c)=l.take c:=by unfold fltN;refine ZbB.2 fun x r=>?_;obtain⟨j,H,rfl⟩:=ZaX r;rw[Zar]at H;have:=List.not_of_lt_findIdx (xs:=l) (p:=fun x=>!decide (x∈A)) (i:=j) (by rw[<-E];omega);rw[List.getElem_take];simpa using this
 have G:fltN A (l.take (c+1))=l.take c:=by rw[Qj6 (Zad k),if_neg K,q]
 have F:¬(c:Int)=-1:=by omega
 refine Zcw (Zcz y F) ?_;refine Qay 110 (fun t:Nat×Nat×List Nat=>[(0,.sl 98 0 0 l.length 1),(1,.fn 92 [] [.ptr 75 0 0]),(5,.int .i64 t.2.1),(6,.int .i64 t.1)]) (fun t=>[(75,.cells 0 [sliN A]),(98,.cells 0 (ints (nz t.2.2)))]) (fun t=>t.1<=l.length/\t.2.1<t.1/\t.2.2.length=l.length/\t.2.2.take t.2.1=fltN A (l.take t.1)/\t.2.2.drop t.1=l.drop t.1) (fun t=>l.length-t.1) (c+1,c,l) ⟨[(75,.nil),(98,.nil)],rfl,au0,au10,au9⟩ ⟨by dsimp only;omega,by dsimp only;omega,rfl,G.symm,rfl⟩ ?_;rintro⟨j,i,C⟩⟨H,I,b,m,B⟩;dsimp only at H I b m B⊢;by_cases d:j<l.length
 ·obtain⟨v,L⟩:=Qac d;have w:C[j]?=some v:=by
   have:(C.drop j)[0]?=(l.drop j)[0]?:=by rw[B]
   simpa[L]using this
  have z:=Qj6 (A:=A) L;have f:=not92 A v hA;by_cases hm:v∈A
  ·have J:(!decide (v∈A))=false:=by simp[hm]
   rw[J]at f;rw[if_pos hm]at z;refine Zcw (ZcA d b (QlI w)) ?_;refine chc (Zcj (Zcl (Zb4 _) (Zcl (Zci (g:=0) (cs:=[sliN A]) gg (Zcl (Zb4 _) Zck)) Zck)) f rfl) ?_;have g:i<l.length:=by omega
   have p:(ints (nz C)).set i (.int .i64 (v:Int))=ints (nz (C.set i v)):=by simp[ints,nz,List.map_set]
   have s:i+1<=(ints (nz C)).length:=by simp[ints,b];omega
   have n:i+1<=l.length:=by omega
   refine Zcw (ZcC g b p s n) ?_;refine⟨(j+1,i+1,C.set i v),by dsimp only;omega,⟨by dsimp only;omega,by dsimp only;omega,by simp[b],?_,?_⟩,?_⟩;·dsimp only;rw[z,<-m,Zbe,List.getElem?_set_self (by omega),List.take_set,List.set_eq_of_length_le (by rw[Zar];omega)];rfl
   ·dsimp only;rw[List.drop_set_of_lt (by omega)];have:=congrArg (List.drop 1) B;simpa[ZaL]using this
   exact⟨[(75,.nil),(98,.nil)],rfl,au0,au10,au9⟩
  have J:(!decide (v∈A))=true:=by simp[hm]
  rw[J]at f;rw[if_neg hm]at z;refine Zcw (ZcA d b (QlI w)) ?_;refine chc (Zcj (Zcl (Zb4 _) (Zcl (Zci (g:=0) (cs:=[sliN A]) gg (Zcl (Zb4 _) Zck)) Zck)) f rfl) ?_;refine Zcv ?_;refine⟨(j+1,i,C),by dsimp only;omega,⟨by dsimp only;omega,by dsimp only;omega,b,by rw[z];exact m,?_⟩,?_⟩;·dsimp only;have:=congrArg (List.drop 1) B;simpa[ZaL]using this
  exact⟨[(75,.nil),(98,.nil)],rfl,au0,au10,au9⟩
 have N:j=l.length:=by omega
 subst N;rw[Zav]at m;have g:(i:Int)<=(l.length:Int):=by omega
 refine Zcw (Zcz d g) ?_;refine Qj5 gg (by omega) (by simp[ints,b];omega) rfl rfl (by decide) ?_;refine Zcw g ?_;refine⟨.inr trivial,_,rfl,?_⟩;have o:(fltN A l).length=i:=by rw[<-m,Zar];omega
 have u:putR (ints (nz C)) i (List.replicate (l.length-i) [AV.int .i64 0]).flatten=ints (nz (delL A l)):=by rw[Qeh (by simp[ints,b];omega),QoD,QnL,m];unfold delL;rw[o,QaL,QaA,List.drop_of_length_le (by simp[ints,b];omega),Zax]
 rw[o,u];exact⟨[(75,.nil),(98,.nil)],rfl,au0,au10,au9⟩
end Go.AM.SU
namespace Go.AM.SU
open Go.Proofs Go.AM.SD Go.AM.SE Go.AM.SO
theorem Qat(l:List (Nat×Int)):noRefs (l.flatMap teC)=true:=QaJ (fun _=>rfl) l
theorem Qbm(l:List (Nat×Int)):(l.flatMap teC).length=l.length*2:=Qa8 (k:=2) (fun _=>rfl) l
theorem Qb5{l:List (Nat×Int)}{i:Nat}{x:Nat×Int}(h:l[i]?=some x):(l.flatMap teC).drop (i*2)=.int .i64 (x.1:Int)::.int .i64 x.2::(l.drop (i+1)).flatMap teC:=QaY (f:=teC) (k:=2) (fun _=>rfl) h
theorem QnM{x:Nat×Int}:∀{l:List (Nat×Int)}{i:Nat},i<l.length->(l.flatMap teC).take (i*2)++[.int .i64 (x.1:Int),.int .i64 x.2]++(l.flatMap teC).drop (i*2+2)=(l.set i x).flatMap teC|[],i,h=>by simp at h|a::l,0,h=>by simp[Zay,teC]|a::l,i+1,h=>by have:=QnM (x:=x) (l:=l) (i:=i) (by simpa using h);rw[List.set_cons_succ,Zay,Zay,<-this];rw[show(i+1)*2=i*2+2 by omega];simp[teC]
abbrev teV(x:Nat×Int):AV:=.agg [.int .i64 (x.1:Int),.int .i64 x.2]
theorem zero94(x:Nat×Int):PSpec Tryz.prog 94 [teV x] (.bool (decide (x.2=0))):=by refine Zb3 64 ok94 rfl rfl rfl ?_;unfold s94;refine Zcv ?_;exact⟨.inr trivial,_,rfl,rfl⟩
def fst0(l:List (Nat×Int)):Int:=if l.all (fun x=>!decide (x.2=0))then-1 else(l.findIdx (fun x=>decide (x.2=0)):Int)
theorem _root_.Go.AM.au11{p:Prop}(h:p:=by repeat'(first|exact Zb9|(refine Zb1 ?_;first|rfl|(simp only[noRef,noRefs,Qah,Zak,Zac,Zag,Qaa,Qam,Qab,Qat];done))|exact RnM.keyM rfl|exact Zcf|exact(True.intro:RnM _ _ _ [] [])|refine Zcg ?_ ?_|(refine Zb0 ?_;first|rfl|(simp only[noRef,noRefs,Qah,Zak,Zac,Zag,Qaa,Qam,Qab,Qat];done))|exact Rn.x1 rfl rfl|exact Rn.x2 rfl rfl|exact Rn.x3 rfl rfl|exact Rn.x4 rfl rfl|exact Rn.x5 rfl|exact Rn.x6 rfl|exact Rn.x7 rfl|refine Zcb rfl rfl ?_|refine Zca rfl rfl rfl ?_ ?_|refine Zcc rfl rfl rfl ?_ ?_|refine Zcd rfl rfl ?_ ?_|refine Zce rfl rfl ?_ ?_)):p:=h
theorem _root_.Go.AM.au12{p:Prop}(h:p:=by repeat(first|exact Zb7|(refine Zb8 ?_ ?_;·(first|exact Rn.any|exact Rn.x1 rfl rfl|exact Rn.x2 rfl rfl|exact Rn.x3 rfl rfl|exact Rn.x4 rfl rfl|exact Rn.x5 rfl|exact Rn.x6 rfl|exact Rn.x7 rfl|(refine Rn.slot ?_ ?_;(first|rfl|(rw[ZaS];rfl));(first|rfl|(simp only[noRef,noRefs,Qah,Zak,Zac,Zag,Qaa,Qam,Qab,Qat];done)))|(refine Rn.fn ?_ ?_<;>(repeat'(first|exact Zcf|refine Zcg ?_ ?_|exact Zb0 rfl|exact Rn.x6 rfl|exact Rn.x2 rfl rfl|exact Rn.x5 rfl|exact Rn.x1 rfl rfl))))))):p:=h
theorem index186(l:List (Nat×Int))(p:l.length<=1000000):PSpec Tryz.prog 186 [tes l,.fn 94 [] []] (.int .i64 (fst0 l)):=by
 refine Zb3 64 ok186 rfl (by simp only[noRefs,noRef,Qat];rfl) rfl ?_;have o:=Qbm l;unfold s186;refine Zcv ?_;refine Qay 100 (fun i:Nat=>[(0,tes l),(1,.fn 94 [] []),(7,.int .i64 l.length),(8,.int .i64 i)]) (fun _=>[]) (fun i=>i<=l.length/\∀(j:Nat)y,j<i->l[j]?=some y->y.2≠0) (fun i=>l.length-i) 0 ⟨[],rfl,au0,au11,au12⟩ ⟨Zah _,fun j y c=>absurd c (Zaw _)⟩ ?_;rintro i⟨hi,k⟩;by_cases a:i<l.length
 ·obtain⟨x,b⟩:=Qac a;have f:=zero94 x;by_cases d:x.2=0
  ·have e:decide (x.2=0)=true:=by simp[d]
   rw[e]at f;refine Zcw (Zcz a (Qb5 b)) ?_;refine cpc f ?_;refine Zcv ?_;refine⟨.inr trivial,_,rfl,?_⟩;have h1:¬l.all (fun x=>!decide (x.2=0))=true:=by intro h;have:=ZaC.1 h x (Zae b);simp[d]at this
   have n:l.findIdx (fun x=>decide (x.2=0))=i:=by rw[List.findIdx_eq a];refine⟨by rw[Zad a]at b;cases b;simp[d],fun j c=>?_⟩;have:=k j l[j] c (Zad (by omega));simpa using this
   unfold fst0;rw[if_neg h1,n];rfl
  have e:decide (x.2=0)=false:=by simp[d]
  rw[e]at f;refine Zcw (Zcz a (Qb5 b)) ?_;refine cpc f ?_;refine Zcv ?_;refine⟨i+1,by omega,⟨by omega,fun j y c g=>?_⟩,⟨[],rfl,au0,au11,au12⟩⟩;by_cases e:j=i;·subst e;rw[b]at g;cases g;exact d
  exact k j y (by omega) g
 have h1:l.all (fun x=>!decide (x.2=0))=true:=by rw[ZaC];intro x b;obtain⟨j,c,m⟩:=ZaX b;simpa using k j x (by omega) (by rw[Zad c,m])
 refine Zcw a ?_;refine⟨.inr trivial,_,rfl,?_⟩;unfold fst0;rw[if_pos h1];rfl
def flt0(l:List (Nat×Int)):List (Nat×Int):=l.filter fun t=>!(decide (t.2=0))
theorem Qiz{l:List (Nat×Int)}{j:Nat}{v:Nat×Int}(h:l[j]?=some v):flt0 (l.take (j+1))=if v.2=0 then flt0 (l.take j)else flt0 (l.take j)++[v]:=by unfold flt0;rw[Zbe,h,Option.toList,List.filter_append];by_cases a:v.2=0<;>simp[a]
def delT(l:List (Nat×Int)):List (Nat×Int):=flt0 l++List.replicate (l.length-(flt0 l).length) (0,0)
theorem QoE{l:List (Nat×Int)}(h:l.all (fun x=>!decide (x.2=0))=true):flt0 l=l:=by unfold flt0;exact ZbB.2 fun x a=>ZaC.1 h x a
theorem QnN{k:Nat}:(List.replicate k [AV.int .i64 0,AV.int .i64 0]).flatten=(List.replicate k ((0,0):Nat×Int)).flatMap teC:=by induction k with|zero=>rfl|succ k a=>rw[Zbp,List.flatten_cons,a];rfl
theorem QhD:∀{l:List (Nat×Int)}{i:Nat},(l.flatMap teC).take (i*2)=(l.take i).flatMap teC|[],i=>by simp|a::l,0=>by simp|a::l,i+1=>by rw[Zay,ZaN,Zay,<-QhD,Za3];simp[teC]
theorem del93(l:List (Nat×Int))(K:l.length<=1000000):HSpec Tryz.prog 93 [.sl 97 0 0 l.length 2,.fn 94 [] []] (hp [(97,.cells 0 (l.flatMap teC))]) (.sl 97 0 0 (flt0 l).length 2) (hp [(97,.cells 0 ((delT l).flatMap teC))]):=by
 refine HSpec.QlC (m:=98) 100 ok93 rfl rfl ?_;have L:=Qbm l;unfold s93;refine Zcv ?_;refine chc (Zcj (Zcl (FrzTo.all gg L) (Zcl (Zb4 _) Zck)) (index186 l K) rfl) ?_;by_cases a:l.all (fun x=>!decide (x.2=0))=true;·have w:fst0 l=-1:=if_pos a;refine Zcw w ?_;refine⟨.inr trivial,_,rfl,?_⟩;unfold delT;rw[QoE a,Nat.sub_self,List.replicate_zero,Zax];exact⟨[(97,.nil)],rfl,au0,au11,au12⟩
 have w:fst0 l=(l.findIdx (fun x=>decide (x.2=0)):Int):=if_neg a;have hex:∃x∈l,decide (x.2=0)=true:=by have:¬∀x∈l,(!decide (x.2=0))=true:=fun h=>a (ZaC.2 h);obtain⟨x,q⟩:=Classical.not_forall.1 this;obtain⟨q,O⟩:=Classical.not_imp.1 q;exact⟨x,q,by simpa using O⟩
 have m:l.findIdx (fun x=>decide (x.2=0))<l.length:=List.findIdx_lt_length_of_exists hex;obtain⟨c,z⟩:∃c,c=l.findIdx (fun x=>decide (x.2=0)):=⟨_,rfl⟩;rw[<-z]at w m;have H:(l[c]).2=0:=by have:=List.findIdx_getElem (w:=by rw[<-z];exact m) (xs:=l) (p:=fun x=>decide (x.2=0));simp only[<-z]at this;simpa using this
 have r:flt0 (l.take c)=l.take c:=by unfold flt0;refine ZbB.2 fun x q=>?_;obtain⟨j,G,rfl⟩:=ZaX q;rw[Zar]at G;have:=List.not_of_lt_findIdx (xs:=l) (p:=fun x=>decide (x.2=0)) (i:=j) (by rw[<-z];omega);rw[List.getElem_take];simpa using this
 have A:flt0 (l.take (c+1))=l.take c:=by rw[Qiz (Zad m),if_pos H,r]
 have B:¬(c:Int)=-1:=by omega
 refine Zcw (Zcz w B) ?_;refine Qay 110 (fun t:Nat×Nat×List (Nat×Int)=>[(0,.sl 97 0 0 l.length 2),(1,.fn 94 [] []),(5,.int .i64 t.2.1),(6,.int .i64 t.1)]) (fun t=>[(97,.cells 0 (t.2.2.flatMap teC))]) (fun t=>t.1<=l.length/\t.2.1<t.1/\t.2.2.length=l.length/\t.2.2.take t.2.1=flt0 (l.take t.1)/\t.2.2.drop t.1=l.drop t.1) (fun t=>l.length-t.1) (c+1,c,l) ⟨[(97,.nil)],rfl,au0,au11,au12⟩ ⟨by dsimp only;omega,by dsimp only;omega,rfl,A.symm,rfl⟩ ?_;rintro⟨j,i,C⟩⟨G,F,f,n,y⟩;dsimp only at G F f n y⊢;have b:=Qbm C;by_cases d:j<l.length
 ·obtain⟨v,J⟩:=Qac d;have s:C[j]?=some v:=by
   have:(C.drop j)[0]?=(l.drop j)[0]?:=by rw[y]
   simpa[J]using this
  have u:=Qiz J;have k:=zero94 v;have I:j*2+2<=l.length*2:=by omega
  have M:i*2+2<=l.length*2:=by omega
  by_cases hm:v.2=0
  ·have E:decide (v.2=0)=true:=by simp[hm]
   rw[E]at k;rw[if_pos hm]at u;refine Zcw (ZcC d f b I (Qb5 s)) ?_;refine chc (k.toH _) ?_;refine Zcv ?_;refine⟨(j+1,i,C),by dsimp only;omega,⟨by dsimp only;omega,by dsimp only;omega,f,by rw[u];exact n,?_⟩,?_⟩;·dsimp only;have:=congrArg (List.drop 1) y;simpa[ZaL]using this
   exact⟨[(97,.nil)],rfl,au0,au11,au12⟩
  have E:decide (v.2=0)=false:=by simp[hm]
  rw[E]at k;rw[if_neg hm]at u;refine Zcw (ZcC d f b I (Qb5 s)) ?_;refine chc (k.toH _) ?_;have g:i<l.length:=by omega
  refine Zcw (ZcC g f b M (QnM (l:=C) (i:=i) (x:=v) (by omega))) ?_;refine⟨(j+1,i+1,C.set i v),by dsimp only;omega,⟨by dsimp only;omega,by dsimp only;omega,by simp[f],?_,?_⟩,?_⟩;·dsimp only;rw[u,<-n,Zbe,List.getElem?_set_self (by omega),List.take_set,List.set_eq_of_length_le (by rw[Zar];omega)];rfl
  ·dsimp only;rw[List.drop_set_of_lt (by omega)];have:=congrArg (List.drop 1) y;simpa[ZaL]using this
  exact⟨[(97,.nil)],rfl,au0,au11,au12⟩
 have N:j=l.length:=by omega
 subst N;rw[Zav]at n;have g:(i:Int)<=(l.length:Int):=by omega
 refine Zcw (Zcz d g) ?_;refine Qj5 gg (by omega) (by rw[b,f];omega) rfl (by decide) (by decide) ?_;refine Zcw g ?_;refine⟨.inr trivial,_,rfl,?_⟩;have o:(flt0 l).length=i:=by rw[<-n,Zar];omega
 have p:putR (C.flatMap teC) (i*2) (List.replicate (l.length-i) [AV.int .i64 0,AV.int .i64 0]).flatten=(delT l).flatMap teC:=by rw[Qeh (by rw[b,f];omega),QnN,QhD,n];unfold delT;rw[o,Zaq,List.drop_of_length_le (by rw[b,f,Qbm,List.length_replicate];omega),Zax]
 rw[o,p];exact⟨[(97,.nil)],rfl,au0,au11,au12⟩
end Go.AM.SU
namespace Go.AM.SO
open Go.Proofs Go.AM.SD Go.AM.SE
theorem convB1{P:Program}{N:NM}{d:Option Nat}{r:List SOper}{dead:List Nat}{fs:List Fr}{n:Nat}{T:Tmps}{h:Heap}{Q:QC}{b g x:Nat}(a:h.get b=some (.cells g [.int .u8 (x:Int)]))(c:wR P N r dead fs (n+1) (putD T d (.str [UInt8.ofNat x])) h Q):wM P N (aConvB (.sl b g 0 1 1)) d r dead fs n T h Q:=by
 refine⟨_,h,?_,c⟩;have f:Nat.beq g g=true:=by simp
 simp[aConvB,aSrc,HM.cells,HM.run,a,f,bytesOf]
theorem QcP(F:List Nat)(i:Nat):noRefs (evP F i)=true:=by unfold evP;exact QaJ (fun j=>rfl) _
theorem _root_.Go.AM.au13{p:Prop}(h:p:=by repeat(first|exact Zb7|(refine Zb8 ?_ ?_;·(first|exact Rn.any|exact Rn.x1 rfl rfl|exact Rn.x2 rfl rfl|exact Rn.x3 rfl rfl|exact Rn.x4 rfl rfl|exact Rn.x5 rfl|exact Rn.x6 rfl|exact Rn.x7 rfl|(refine Rn.slot ?_ ?_;(first|rfl|(rw[ZaS];rfl));(first|rfl|(simp only[noRef,noRefs,Qah,Zak,Zac,Zag,Qaa,Qam,Qab,Qax];done)))|(refine Rn.fn ?_ ?_<;>(repeat'(first|exact Zcf|refine Zcg ?_ ?_|exact Zb0 rfl|exact Rn.x6 rfl|exact Rn.x2 rfl rfl|exact Rn.x5 rfl|exact Rn.x1 rfl rfl))))))):p:=h
theorem events88(F:List Nat)(w:F.length=5)(d:∀i,F.getD i 0<256):PSpec Tryz.prog 88 [.agg (u8s F)] (.fsl (evP F 5) 5 5):=by
 refine Zb2 64 ok88 rfl (by simp only[noRefs,noRef,Qax];rfl) (by simp only[noRef];exact QcP _ _) ?_;unfold s88;refine Zcx ?_;refine Qay 100 (fun i:Nat=>[(1,.ptr 64 0 0),(3,.sl 50 0 0 i 5),(4,.int .i64 i)]) (fun i=>[(50,.cells 0 (evP F i)),(64,.cells 0 (u8s F))]) (fun i=>i<=5) (fun i=>5-i) 0 ⟨[(50,.nil),(64,.blk 64 0)],rfl,au0,?_,au13⟩ (Zah _) ?_;·exact Zcb rfl rfl (Zca rfl rfl rfl (Zb1 (Qax _)) Zb9)
 rintro i hi;by_cases s:i<5
 ·have a:(i:Int)<5:=by omega
  have hu:(u8s F)[i]?=some (.int .u8 ((F.getD i 0:Nat):Int)):=Qhd (by rw[Zad (by omega)];simp[List.getD,Zad (show i<F.length by omega)]);have g:=d i;have l:=@Qj1 F i;have h:=@QhA F i;generalize F.getD i 0=b at hu g l;have k:wr .u8 ((97:Int)+(i:Int))=((97+i:Nat):Int):=by rw[wr_u8 (by omega) (by omega)];omega
  refine Zcy (ZcC a hu h k @Qol) ?_;refine convB1 gg ?_;have v:((97+i:Nat):Int)=((97+i:Nat):Int):=rfl;by_cases f:48<=b/\b<52
  ·have t:(48:Int)<=(b:Int):=by omega
   have c:(b:Int)<52:=by omega
   have j:(b:Int)-47=((b-47:Nat):Int):=by omega
   have ev:evP F i++[.str [UInt8.ofNat (97+i)],.bool false,.bool false,.bool false,.int .i64 ((b-47:Nat):Int)]=evP F (i+1):=by rw[l];simp[evC,evOf,f]
   refine Zcy (ZcD a hu h t c j) ?_;refine⟨i+1,by omega,by omega,?_⟩;rw[ev];refine⟨[(50,.blk 50 1),(64,.blk 64 0)],rfl,au0,?_,au13⟩;exact Zca rfl rfl gg (Zb1 (QcP _ _)) (Zca rfl rfl gg (Zb1 (Qax _)) Zb9)
  have ev:evP F i++[.str [UInt8.ofNat (97+i)],.bool (decide (b&&&1=1)),.bool (decide (b&&&2=2)),.bool (decide (b&&&4=4)),.int .i64 0]=evP F (i+1):=by rw[l];simp[evC,evOf,f]
  have p:decide (((b&&&1:Nat):Int)=1)=decide (b&&&1=1):=decide_eq_decide.2 (by omega);have r:decide (((b&&&2:Nat):Int)=2)=decide (b&&&2=2):=decide_eq_decide.2 (by omega);have m:decide (((b&&&4:Nat):Int)=4)=decide (b&&&4=4):=decide_eq_decide.2 (by omega);have n:=QnF g;have o:=QnG g;have q:=QnH g;by_cases u:48<=b
  ·have c:(48:Int)<=(b:Int):=by omega
   have j:¬(b:Int)<52:=by omega
   refine Zcy (ZcI a hu h c j n o q p r m) ?_;refine⟨i+1,by omega,by omega,?_⟩;rw[ev];refine⟨[(50,.blk 50 1),(64,.blk 64 0)],rfl,au0,?_,au13⟩;exact Zca rfl rfl gg (Zb1 (QcP _ _)) (Zca rfl rfl gg (Zb1 (Qax _)) Zb9)
  have c:¬(48:Int)<=(b:Int):=by omega
  refine Zcy (ZcH a hu h c n o q p r m) ?_;refine⟨i+1,by omega,by omega,?_⟩;rw[ev];refine⟨[(50,.blk 50 1),(64,.blk 64 0)],rfl,au0,?_,au13⟩;exact Zca rfl rfl gg (Zb1 (QcP _ _)) (Zca rfl rfl gg (Zb1 (Qax _)) Zb9)
 have a:¬(i:Int)<5:=by omega
 have e:i=5:=by omega
 subst e;refine Zcy a ?_;refine⟨.inr trivial,_,rfl,?_⟩;exact Rn.fz0 rfl QhA (Zb1 (QcP _ _))
end Go.AM.SO
namespace Go.AM.ST
open Go.Proofs Go.AM.SD
noncomputable section
def bitsL(s:Nat):List Nat:=(List.range 5).filter fun i=>s.testBit i
def isV(v:AV)(u:AV):Bool:=eqAV u v
theorem QnO{v:AV}:∀u,isV v u=true->u=v:=fun u h=>QdA _ _ h
def unionB(a b:Nat):Bool:=callR ansB noOrc SK.ft.get (exR ansB noOrc SK.ft.get 1000) (.c .pure) 90 [sliN (bitsL a),sliN (bitsL b)] .e 64 (fun u _ _=>isV (sliN (bitsL (a|||b))) u)
theorem QoF{a b:Nat}(h:unionB a b=true):PSpec Tryz.prog 90 [sliN (bitsL a),sliN (bitsL b)] (sliN (bitsL (a|||b))):=QbZ (t:=SK.ft) SK.ft_ok Qd0 (d:=1000) (isV _) QnO h
end
end Go.AM.ST
namespace Go.AM.ST
open Go.Proofs Go.AM.SD
noncomputable section
def rowB(a n:Nat):Bool:=@Nat.rec (fun _=>Bool) true (fun b c=>ifB (unionB a b) c false) n
theorem row_1:rowB 1 32=true:=by kernel_rfl
theorem row_2:rowB 2 32=true:=by kernel_rfl
theorem row_3:rowB 3 32=true:=by kernel_rfl
theorem row_4:rowB 4 32=true:=by kernel_rfl
theorem row_5:rowB 5 32=true:=by kernel_rfl
theorem row_6:rowB 6 32=true:=by kernel_rfl
theorem row_7:rowB 7 32=true:=by kernel_rfl
theorem row_8:rowB 8 32=true:=by kernel_rfl
theorem row_9:rowB 9 32=true:=by kernel_rfl
theorem Qp1:rowB 10 32=true:=by kernel_rfl
theorem Qp2:rowB 11 32=true:=by kernel_rfl
theorem Qp3:rowB 12 32=true:=by kernel_rfl
theorem Qp4:rowB 13 32=true:=by kernel_rfl
theorem Qp5:rowB 14 32=true:=by kernel_rfl
theorem Qp6:rowB 15 32=true:=by kernel_rfl
theorem Qp7:rowB 16 32=true:=by kernel_rfl
theorem Qp8:rowB 17 32=true:=by kernel_rfl
theorem Qp9:rowB 18 32=true:=by kernel_rfl
theorem Qqa:rowB 19 32=true:=by kernel_rfl
theorem Qqb:rowB 20 32=true:=by kernel_rfl
theorem Qqc:rowB 21 32=true:=by kernel_rfl
theorem Qqd:rowB 22 32=true:=by kernel_rfl
theorem Qqe:rowB 23 32=true:=by kernel_rfl
theorem Qqf:rowB 24 32=true:=by kernel_rfl
theorem Qqg:rowB 25 32=true:=by kernel_rfl
theorem Qqh:rowB 26 32=true:=by kernel_rfl
theorem Qqi:rowB 27 32=true:=by kernel_rfl
theorem Qqj:rowB 28 32=true:=by kernel_rfl
theorem Qqk:rowB 29 32=true:=by kernel_rfl
theorem Qql:rowB 30 32=true:=by kernel_rfl
theorem Qqm:rowB 31 32=true:=by kernel_rfl
theorem QnP{a:Nat}:∀{n b:Nat},rowB a n=true->b<n->unionB a b=true
 |0,_,_,h=>absurd h (Zaw _)|n+1,b,c,d=>by
  have e:rowB a (n+1)=ifB (unionB a n) (rowB a n) false:=rfl;rw[e,Qas]at c;split at c
  ·rename_i h;rcases Nat.lt_succ_iff_lt_or_eq.1 d with h1|rfl;·exact QnP c h1
   exact h
  cases c
theorem Qmr{a b:Nat}(f:0<a)(c:a<32)(d:b<32):PSpec Tryz.prog 90 [sliN (bitsL a),sliN (bitsL b)] (sliN (bitsL (a|||b))):=by
 have h:rowB a 32=true:=by
  have:a=1\/a=2\/a=3\/a=4\/a=5\/a=6\/a=7\/a=8\/a=9\/a=10\/a=11\/a=12\/a=13\/a=14\/a=15\/a=16\/a=17\/a=18\/a=19\/a=20\/a=21\/a=22\/a=23\/a=24\/a=25\/a=26\/a=27\/a=28\/a=29\/a=30\/a=31:=by omega
  rcases this with rfl|rfl|rfl|rfl|rfl|rfl|rfl|rfl|rfl|rfl|rfl|rfl|rfl|rfl|rfl|rfl|rfl|rfl|rfl|rfl|rfl|rfl|rfl|rfl|rfl|rfl|rfl|rfl|rfl|rfl|rfl;·exact row_1
  ·exact row_2
  ·exact row_3
  ·exact row_4
  ·exact row_5
  ·exact row_6
  ·exact row_7
  ·exact row_8
  ·exact row_9
  ·exact Qp1
  ·exact Qp2
  ·exact Qp3
  ·exact Qp4
  ·exact Qp5
  ·exact Qp6
  ·exact Qp7
  ·exact Qp8
  ·exact Qp9
  ·exact Qqa
  ·exact Qqb
  ·exact Qqc
  ·exact Qqd
  ·exact Qqe
  ·exact Qqf
  ·exact Qqg
  ·exact Qqh
  ·exact Qqi
  ·exact Qqj
  ·exact Qqk
  ·exact Qql
  exact Qqm
 exact QoF (QnP h d)
end
end Go.AM.ST
namespace Go.AM.ST
open Go.Proofs Go.AM.SD Go.AM.SE
noncomputable section
def allV(a:Nat):AV:=if a=0 then .nilsl else sliN (bitsL a)
def unionN(b:Nat):Bool:=callR ansB noOrc SK.ft.get (exR ansB noOrc SK.ft.get 1000) (.c .pure) 90 [.nilsl,sliN (bitsL b)] .e 64 (fun u _ _=>isV (allV b) u)
theorem QnQ{b:Nat}(h:unionN b=true):PSpec Tryz.prog 90 [.nilsl,sliN (bitsL b)] (allV b):=QbZ (t:=SK.ft) SK.ft_ok Qd0 (d:=1000) (isV _) QnO h
def rowN(n:Nat):Bool:=@Nat.rec (fun _=>Bool) true (fun b a=>ifB (unionN b) a false) n
theorem QoG:rowN 32=true:=by kernel_rfl
theorem QlJ:∀{n b:Nat},rowN n=true->b<n->unionN b=true
 |0,_,_,h=>absurd h (Zaw _)|n+1,b,a,c=>by
  have e:rowN (n+1)=ifB (unionN n) (rowN n) false:=rfl;rw[e,Qas]at a;split at a
  ·rename_i h;rcases Nat.lt_succ_iff_lt_or_eq.1 c with h1|rfl;·exact QlJ a h1
   exact h
  cases a
theorem QnR(b:Nat):SD.part 5 b=bitsL (b%32):=by unfold bitsL SD.part;apply ZbI;intro x a;have:=ZaT.1 a;rw[show 32=2^5 from rfl,Nat.testBit_mod_two_pow];simp[this]
theorem union90{a b:Nat}(f:a<32):PSpec Tryz.prog 90 [allV a,sliN (SD.part 5 b)] (allV (a|||b%32)):=by
 rw[QnR];have d:b%32<32:=Nat.mod_lt _ (by decide);by_cases c:a=0;·subst c;rw[Nat.zero_or];exact QnQ (QlJ QoG d)
 have h1:¬(a|||b%32)=0:=fun e=>c (Nat.or_eq_zero_iff.1 e).1;unfold allV;rw[if_neg c,if_neg h1];exact Qmr (by omega) f d
end
end Go.AM.ST
namespace Go.AM.SU
open Go.Proofs Go.AM.SD Go.AM.SE Go.AM.SO
theorem QcH(l:List Nat):(u8s l).length=l.length:=by simp[u8s]
theorem graph91(al:List Nat)(st mk:Nat)(T:List Nat)(i:al.Pairwise (·<·))(m:∀x∈al,x<5)(n:st<256)(f:mk<256)(h:T.length=25)(c:∀x∈T,x<256):PSpec Tryz.prog 91 [sliN al,grV st mk T,.int .i64 3] (aV (mkA al (st%3) mk T)):=by
 refine Zb2 40 ok91 rfl (by(try simp only[noRefs,Qaa,Qax,noRef,noRefs,Qab,Qat,Zak,Zac])<;>rfl) (Qcr _) ?_;have j:=Make32 al (st%3) mk T i m (by omega) f h c;have b:(u8s T).length=25:=by rw[QcH,h]
 have g:(u8s T).take 25=u8s T:=by rw[<-b,Zav]
 have d:(st:Int).tmod 3=((st%3:Nat):Int):=by rw[Zba (Za7 _)];norm_cast
 have a:(u8s T).all AV.one=true:=by
  have:∀l:List Nat,(u8s l).all AV.one=true:=fun l=>by induction l with|nil=>rfl|cons x l k=>show(AV.one _&&(u8s l).all AV.one)=true;rw[k];rfl
  exact this T
 unfold s91;refine Zcw (ZcB b g d a) ?_;refine cp j ?_;generalize mkA al (st%3) mk T=A at*;refine Zcw (Zcz a b) ?_;refine⟨.inr trivial,_,rfl,?_⟩;exact Zb0 (Qcr _)
theorem QeN{i:Nat}(hi:i<10):aConvS (.int .i32 (48+(i:Int)))=some (.str [UInt8.ofNat (48+i)]):=by
 have:i=0\/i=1\/i=2\/i=3\/i=4\/i=5\/i=6\/i=7\/i=8\/i=9:=by omega
 rcases this with rfl|rfl|rfl|rfl|rfl|rfl|rfl|rfl|rfl|rfl<;>rfl
theorem _root_.Go.AM.au14{p:Prop}(h:p:=by repeat'(first|exact Zb9|(refine Zb1 ?_;first|rfl|(simp only[noRef,noRefs,Qah,Zak,Zac,Zag,Qaa,Qax,Qam,Qab,Qat];done))|exact RnM.keyM rfl|exact Zcf|exact(True.intro:RnM _ _ _ [] [])|refine Zcg ?_ ?_|(refine Zb0 ?_;first|rfl|(simp only[noRef,noRefs,Qah,Zak,Zac,Zag,Qaa,Qax,Qam,Qab,Qat];done))|exact Rn.x1 rfl rfl|exact Rn.x2 rfl rfl|exact Rn.x3 rfl rfl|exact Rn.x4 rfl rfl|exact Rn.x5 rfl|exact Rn.x6 rfl|exact Rn.x7 rfl|refine Zcb rfl rfl ?_|refine Zca rfl rfl rfl ?_ ?_|refine Zcc rfl rfl rfl ?_ ?_|refine Zcd rfl rfl ?_ ?_|refine Zce rfl rfl ?_ ?_)):p:=h
theorem _root_.Go.AM.au15{p:Prop}(h:p:=by repeat(first|exact Zb7|(refine Zb8 ?_ ?_;·(first|exact Rn.any|exact Rn.x1 rfl rfl|exact Rn.x2 rfl rfl|exact Rn.x3 rfl rfl|exact Rn.x4 rfl rfl|exact Rn.x5 rfl|exact Rn.x6 rfl|exact Rn.x7 rfl|(refine Rn.slot ?_ ?_;(first|rfl|(rw[ZaS];rfl));(first|rfl|(simp only[noRef,noRefs,Qah,Zak,Zac,Zag,Qaa,Qax,Qam,Qab,Qat];done)))|(refine Rn.fn ?_ ?_<;>(repeat'(first|exact Zcf|refine Zcg ?_ ?_|exact Zb0 rfl|exact Rn.x6 rfl|exact Rn.x2 rfl rfl|exact Rn.x5 rfl|exact Rn.x1 rfl rfl))))))):p:=h
theorem events89(s:Nat)(g:s<256):HSpec Tryz.prog 89 [.int .u8 s] .e (.sl 98 0 0 (SD.part 5 s).length 1) (hp [(98,.cells 0 (ints (nz (SD.part 5 s))))]):=by
 refine Zcm 64 ok89 rfl ?_;unfold s89;refine Zcv ?_;refine Qay 100 (fun i:Nat=>[(0,.int .u8 s),(3,.sl 50 0 0 (SD.part i s).length 1),(4,.int .i64 i)]) (fun i=>[(50,.cells 0 (ints (nz (SD.part i s))))]) (fun i=>i<=5) (fun i=>5-i) 0 ⟨[(50,.nil)],rfl,au0,au14,au15⟩ (Zah _) ?_;rintro i hi;have d:=@Qc1 i s;by_cases f:i<5
 ·have a:(i:Int)<5:=by omega
  by_cases b:s.testBit i=true;·have c:=QdE.2 b;have hp:=Qdm (n:=5) (b:=s) (i:=i);rw[if_pos b]at hp;simp(disch:=first|omega|(simp only[lenW]<;>omega))only[a,QcF (k:=.u8) (show i<=8 by omega),QcG,c,Zaj,wW,wV,simprocAttr];refine⟨i+1,by omega,by omega,?_⟩;rw[hp,QaL,QaA,Zai];exact⟨[(50,.blk 50 1)],rfl,au0,au14,au15⟩
  have c:¬((s/2^i%2:Nat):Int)=1:=fun e=>b (QdE.1 e);have hp:=Qdm (n:=5) (b:=s) (i:=i);rw[if_neg b,Zax]at hp;simp(disch:=first|omega|(simp only[lenW]<;>omega))only[a,QcF (k:=.u8) (show i<=8 by omega),QcG,c,Zaj,wW,wV,simprocAttr];refine⟨i+1,by omega,by omega,?_⟩;rw[hp];exact⟨[(50,.blk 50 0)],rfl,au0,au14,au15⟩
 have a:¬(i:Int)<5:=by omega
 have e:i=5:=by omega
 subst e;refine Zcw a ?_;refine⟨.inr trivial,_,rfl,?_⟩;exact⟨[(98,.blk 50 0)],rfl,au0,au14,au15⟩
theorem del40F{A l:List Nat}{h:Heap}(hA:A.length<=1000000)(d:l.length<=1000000)(a:h.get 75=some (.cells 0 [sliN A]))(b:h.get 98=some (.cells 0 (ints (nz l)))):HSpec Tryz.prog 40 [.sl 98 0 0 l.length 1,.fn 92 [] [.ptr 75 0 0]] h (sliN (fltN A l)) ((h.set 98 (.cells 0 (ints (nz (delL A l))))).set 98 (.dead 0)):=by
 have h1:=HSpec.frameB (del40 A l hA d) (Zcn (OnlyD.sl (.inr rfl)) (Zcn (OnlyD.fn OnlyD.nil (Zcn (OnlyD.ptr (.inl rfl)) OnlyD.nil)) OnlyD.nil)) (OnlyD.sl (.inr rfl)) (by simp only[noRefs,noRef,Qaa];rfl) (Qaa _) (Qaa _) a b (by decide) rfl rfl;have hle:(fltN A l).length*1<=(ints (nz (delL A l))).length:=by simp[ints,delL]
 have c:=HSpec.freeze (ds:=ints (nz (delL A l))) h1 (by rw[QaS (by decide)]) (Qnw _) hle rfl;have e:(ints (nz (delL A l))).take ((fltN A l).length*1)=ints (nz (fltN A l)):=by rw[Nat.mul_one];unfold delL;rw[QaL,QaA,Zby (by simp[ints]),ZaD (by simp[ints])]
 rw[e]at c;exact c
theorem Qpr(l:List (Nat×Int)):flatVs (l.flatMap teC)=true:=by induction l with|nil=>rfl|cons x l a=>rw[Zay];exact a
theorem del93F{l:List (Nat×Int)}{h:Heap}(c:l.length<=1000000)(a:h.get 97=some (.cells 0 (l.flatMap teC))):HSpec Tryz.prog 93 [.sl 97 0 0 l.length 2,.fn 94 [] []] h (tes (flt0 l)) ((h.set 97 (.cells 0 ((delT l).flatMap teC))).set 97 (.dead 0)):=by
 have h1:=HSpec.frameA (del93 l c) (Zcn (OnlyD.sl rfl) (Zcn (OnlyD.same rfl) OnlyD.nil)) (OnlyD.sl rfl) (Qat _) (Qat _) a rfl;have hle:(flt0 l).length*2<=((delT l).flatMap teC).length:=by rw[Qbm];simp[delT];omega
 have b:=HSpec.freeze (ds:=(delT l).flatMap teC) h1 (by rw[QaS (by decide)]) (Qpr _) hle rfl;have e:((delT l).flatMap teC).take ((flt0 l).length*2)=(flt0 l).flatMap teC:=by rw[QhD];unfold delT;rw[List.take_left]
 rw[e]at b;exact b
end Go.AM.SU
namespace Go.AM.SU
open Go.Proofs Go.AM.SD Go.AM.SE Go.AM.SO
theorem QlK:∀l:List Nat,(u8s l).all AV.one=true|[]=>rfl|x::l=>by show(AV.one _&&(u8s l).all AV.one)=true;rw[QlK l];rfl
section
variable{p:Pln}
theorem QnS{l:List Nat}{k:Nat}(h:k<l.length):(u8s l)[k]?=some (.int .u8 ((l.getD k 0:Nat):Int)):=by refine Qhd ?_;rw[Zad h,Zan,Zad h];rfl
theorem QhE(h:POk p):(plnC p).length=152:=by show(u8s p.L++_).length=152;rw[Zai,QcH,h.L];rfl
theorem Qqn(h:POk p){k:Nat}(a:k<147):(plnC p)[k]?=some (.int .u8 ((p.L.getD k 0:Nat):Int)):=by show(u8s p.L++_)[k]?=_;rw[Za6 (by rw[QcH,h.L];exact a),QnS (by rw[h.L];exact a)]
theorem Qer(h:POk p){k:Nat}:(plnC p)[147+k]?=([.fsl (u8s p.X) p.xn 4,.int .i8 p.f0,.int .i8 p.f1,.int .i8 p.f2,.int .i8 p.bd]:List AV)[k]?:=by show(u8s p.L++_)[147+k]?=_;rw[List.getElem?_append_right (by rw[QcH,h.L];omega),QcH,h.L];congr 1;omega
theorem Qj7(h:POk p){k m:Nat}(a:k+m<=147):((plnC p).drop k).take m=u8s ((p.L.drop k).take m):=by show((u8s p.L++_).drop k).take m=_;rw[List.drop_append_of_le_length (by rw[QcH,h.L];omega),Zby (by rw[ZaE,QcH,h.L];omega)];simp[u8s,List.map_drop,List.map_take]
theorem Qqo(h:POk p){k:Nat}(a:k+27<=147):((plnC p).drop k).take 27=.int .u8 ((p.L.getD k 0:Nat):Int)::.int .u8 ((p.L.getD (k+1) 0:Nat):Int)::u8s ((p.L.drop (k+2)).take 25):=by
 have b:=h.L;rw[Qj7 h a];have e:(p.L.drop k).take 27=p.L.getD k 0::p.L.getD (k+1) 0::(p.L.drop (k+2)).take 25:=by rw[Zan,Zan,Zad (show k<p.L.length by omega),Zad (show k+1<p.L.length by omega)];rw[List.drop_eq_getElem_cons (show k<p.L.length by omega),ZaN,List.drop_eq_getElem_cons (show k+1<p.L.length by omega),ZaN];rfl
 rw[e];rfl
theorem L_lt(h:POk p)(k:Nat):p.L.getD k 0<256:=by rw[Zan];cases e:p.L[k]? with|none=>decide|some x=>exact h.L8 x (Zae e)
theorem X_lt(h:POk p)(k:Nat):p.X.getD k 0<256:=by rw[Zan];cases e:p.X[k]? with|none=>decide|some x=>exact h.X8 x (Zae e)
theorem pF_lt(h:POk p)(i:Nat):-128<=pF p i/\pF p i<128:=by
 unfold pF;split;·exact h.f0
 split;·exact h.f1
 exact h.f2
theorem QhF(h:POk p):(plnC p).all AV.one=true:=by show(u8s p.L++_).all AV.one=true;rw[List.all_append,QlK];rfl
theorem QeO:noRefs (plnC p)=true:=by show noRefs (u8s p.L++_)=true;rw[Qah,Qax];simp only[noRefs,noRef,Qax];rfl
theorem Qps(F:List Nat):AV.fsl (evP F 5) 5 5=evsV (fun i=>evOf (F.getD i 0)):=by congr 1
theorem QnT(e:Nat->Evt):noRef (evsV e)=true:=rfl
theorem Qaf{ch:UInt8}(l:List (Nat×Aut)):noRefs (l.flatMap (itC ch))=true:=QaJ (fun x=>by simp only[itC,noRefs,noRef,Qaa,Qad];rfl) l
theorem Qaw{ch:UInt8}(l:List (Nat×Aut)):noRef (its ch l)=true:=by simp only[noRef];exact Qaf l
theorem Qpt{p:Pln}{i:Nat}:fltN (ST.bitsL (pAll p (pN p))) (SD.part 5 (p.L.getD (91+i) 0))=pW p i:=by unfold fltN pW;apply ZbI;intro x a;have:=partLt x a;show decide (x∈(List.range 5).filter _)=_;simp[this]
theorem QaD(l:List (Nat×Nat)):noRefs (l.flatMap loC)=true:=QaJ (fun _=>rfl) l
theorem Qd6(l:List (Nat×Nat)):noRef (los l)=true:=by simp only[noRef];exact QaD l
theorem QbP(l:List (Nat×Nat)):(l.flatMap loC).length=l.length*2:=Qa8 (k:=2) (fun _=>rfl) l
theorem Qar(l:List (Nat×List (Nat×Nat))):noRefs (l.flatMap exC)=true:=QaJ (fun x=>by simp only[exC,noRefs,noRef,QaD];rfl) l
theorem Qbn(l:List (Nat×List (Nat×Nat))):noRef (exs l)=true:=by simp only[noRef];exact Qar l
theorem Qbr(l:List (Nat×List (Nat×Nat))):(l.flatMap exC).length=l.length*2:=Qa8 (k:=2) (fun _=>rfl) l
theorem Qdp(l:List (Nat×Int)):noRef (tes l)=true:=by simp only[noRef];exact Qat l
theorem QaI(l:List (List (Nat×Int)×Int)):noRefs (l.flatMap coC)=true:=QaJ (fun x=>by simp only[coC,noRefs,noRef,Qat];rfl) l
theorem QiA(l:List (List (Nat×Int)×Int)):noRef (cos l)=true:=by simp only[noRef];exact QaI l
theorem QdF{ch:UInt8}{l:List (Nat×Aut)}{i:Nat}{x:Nat×Aut}(h:l[i]?=some x):(l.flatMap (itC ch)).drop (i*5)=.str [ch,UInt8.ofNat (48+x.1)]::sliN x.2.al::.int .i64 (x.2.n:Int)::sliN x.2.ms::egsN x.2.es::(l.drop (i+1)).flatMap (itC ch):=QaY (f:=itC ch) (k:=5) (fun _=>rfl) h
theorem Qpu{X:List Nat}{i:Nat}(h:i*4+4<=X.length):((u8s X).drop (i*4)).take 4=[.int .u8 ((X.getD (i*4) 0:Nat):Int),.int .u8 ((X.getD (i*4+1) 0:Nat):Int),.int .u8 ((X.getD (i*4+2) 0:Nat):Int),.int .u8 ((X.getD (i*4+3) 0:Nat):Int)]:=by
 have g:∀k,k<4->X.getD (i*4+k) 0=X[i*4+k]!:=fun k b=>by rw[Zan,List.getElem!_eq_getElem?_getD];rfl
 apply Zbw;intro j;by_cases a:j<4
 ·rw[List.getElem?_take_of_lt a,Zbi,QnS (by omega)];have:j=0\/j=1\/j=2\/j=3:=by omega
  rcases this with rfl|rfl|rfl|rfl<;>rfl
 rw[ZaA (by rw[Zar];omega),ZaA (by simp;omega)]
theorem Qa5(c:Cel):noRef (celV c)=true:=by rw[celV,noRef,noRefs,noRefs,noRefs,noRefs,noRefs,QnT,Qaw,Qaw,Qbn,QiA];rfl
theorem Qdu{s:List UInt8}{a:Aut}:noRefs [.str s,sliN a.al,.int .i64 (a.n:Int),sliN a.ms,egsN a.es]=true:=by simp only[noRefs,noRef,Qaa,Qad];rfl
theorem QaB{x y:List AV}(a:noRefs x=true)(b:noRefs y=true):noRefs (x++y)=true:=by rw[Qah,a,b];rfl
theorem QnU{ch:UInt8}{i:Nat}{a:Aut}:List.flatMap (itC ch) [(i,a)]=[.str [ch,UInt8.ofNat (48+i)],sliN a.al,.int .i64 (a.n:Int),sliN a.ms,egsN a.es]:=rfl
theorem QbF{ch:UInt8}(l:List (Nat×Aut)):(l.flatMap (itC ch)).length=l.length*5:=Qa8 (k:=5) (fun _=>rfl) l
theorem QoH{i:Nat}:pCs p (i+1)=pCs p i++[(i,pA p i)]:=by unfold pCs;rw[ZaP,ZaQ];rfl
theorem QoI{i:Nat}:pRs p (i+1)=pRs p i++[(i,pR p i)]:=by unfold pRs;rw[ZaP,ZaQ];rfl
theorem QhG{i:Nat}:(pCs p i).length=i:=by simp[pCs]
theorem QlL{i:Nat}:(pRs p i).length=i:=by simp[pRs]
theorem QlM:∀{i:Nat},pAll p i<32|0=>by show 0<32;decide|i+1=>Nat.or_lt_two_pow (n:=5) QlM (Nat.mod_lt _ (by decide))
end
theorem Qms(a:Nat):(ST.allV a).cells=[ST.allV a]:=by unfold ST.allV;split<;>rfl
theorem QoJ(a:Nat):(ST.allV a).one=true:=by unfold ST.allV;split<;>rfl
theorem QkS(a:Nat):noRefs [ST.allV a]=true:=by
 unfold ST.allV;split;·rfl
 simp only[noRefs,noRef,Qaa];rfl
theorem Make26(p:Pln)(h:POk p):PSpec Tryz.prog 26 [plnV p] (celV (mkC p)):=by
 refine Zb2 40 ok26 rfl (by simp only[noRefs,noRef,QeO];rfl) (Qa5 _) ?_;have hlen:=QhE h;have I:=QhF h;have b:=@QeO p;have h5:(plnC p).take 5=u8s (p.L.take 5):=by simpa using Qj7 h (k:=0) (m:=5) (by omega)
 have v:=events88 (p.L.take 5) (by rw[Zar,h.L];rfl) (fun i=>by rw[Zan];cases e:(p.L.take 5)[i]? with|none=>decide|some x=>exact h.L8 x (ZaR (Zae e)));rw[Qps]at v;have m:∀{k},k<147->(plnC p)[k]?=some (.int .u8 ((p.L.getD k 0:Nat):Int)):=fun P=>Qqn h P;have a5:=m (k:=5) (by omega);have Z:=m (k:=90) (by omega);have Q:(plnC p)[147]?=some (.fsl (u8s p.X) p.xn 4):=Qer h (k:=0);have aF:∀i,i<3->(plnC p)[148+i]?=some (.int .i8 (pF p i)):=by
  intro i hi;have:i=0\/i=1\/i=2:=by omega
  rcases this with rfl|rfl|rfl;·exact Qer h (k:=1)
  ·exact Qer h (k:=2)
  exact Qer h (k:=3)
 have L:(plnC p)[151]?=some (.int .i8 p.bd):=Qer h (k:=4);have F:∀{k},k+27<=147->((plnC p).drop k).take 27=_:=fun P=>Qqo h P;show wS _ _ _ _ _ (argT 0 [.agg (plnC p)]) _ _;generalize plnC p=C at*;have htm:((p.L.getD 5 0:Nat):Int).tmod 3=((p.L.getD 5 0%3:Nat):Int):=by rw[Zba (Za7 _)];norm_cast
 have hn:(1:Int)+((p.L.getD 5 0%3:Nat):Int)=(pN p:Int):=by unfold pN;omega
 have hn3:=@pN_le p;unfold s26;refine Zcw (ZcA hlen I h5) ?_;refine cp v ?_;refine Zcw (ZcA a5 htm hn) ?_;refine Qaj 100 (fun i:Nat=>[(1,.ptr 50 0 0),(2,.ptr 51 0 0),(3,.ptr 52 0 0),(4,.ptr 75 0 0),(5,.int .i64 (pN p:Int)),(26,.int .i64 (pN p:Int)),(27,.int .i64 i)]) (fun i=>[(50,.cells 0 C),(51,.cells 0 [.nilsl,.nilsl,.nilsl,.nilsl,.nilsl]),(52,.cells 0 [evsV (fun i=>evOf ((p.L.take 5).getD i 0)),.sl 76 0 0 (pCs p i).length 5,.nilsl,.nilsl,.nilsl]),(75,.cells 0 [ST.allV (pAll p i)]),(76,.cells 0 ((pCs p i).flatMap (itC 99)))]) (fun i=>i<=pN p) (fun i=>pN p-i) 0 0 200 (fun _:Unit=>[(1,.ptr 50 0 0),(2,.ptr 51 0 0),(3,.ptr 52 0 0),(4,.ptr 75 0 0),(5,.int .i64 (pN p:Int))]) (fun _=>[(50,.cells 0 C),(51,.cells 0 [.nilsl,.nilsl,.nilsl,.nilsl,.nilsl]),(52,.cells 0 [evsV (fun i=>evOf ((p.L.take 5).getD i 0)),its 99 (pCs p (pN p)),.nilsl,.nilsl,.nilsl]),(75,.cells 0 [sliN (ST.bitsL (pAll p (pN p)))])]) (fun _=>True) ?_ (Zah _) ?_ ?_;·refine⟨[(50,.blk 40 0),(51,.blk 41 0),(52,.blk 46 0),(75,.blk 48 0),(76,.nil)],rfl,au0,?_,au15⟩;exact Zca rfl rfl gg (Zb1 b) (Zca rfl rfl gg (Zb1 rfl) (Zca rfl rfl gg (Zcg (Zb0 rfl) (Zcg (Rn.x4 rfl rfl) (Zb1 rfl))) (Zca rfl rfl gg (Zb1 rfl) (Zcb rfl rfl Zb9))))
 ·rintro i hi;by_cases c:i<pN p
  ·have f:(i:Int)<3:=by omega
   have V:=m (k:=6+i) (by omega);have hE:=events16 (p.L.getD (6+i) 0) (L_lt h _);have hU:=ST.union90 (a:=pAll p i) (b:=p.L.getD (6+i) 0) QlM;have hg:=F (k:=9+i*27) (by omega);have J:=graph91 (SD.part 5 (p.L.getD (6+i) 0)) (p.L.getD (9+i*27) 0) (p.L.getD (9+i*27+1) 0) ((p.L.drop (9+i*27+2)).take 25) (Qde _ _) partLt (L_lt h _) (L_lt h _) (by rw[Zar,ZaE,h.L];omega) (fun x hx=>h.L8 x (List.mem_of_mem_drop (ZaR hx)));have hA:mkA (SD.part 5 (p.L.getD (6+i) 0)) (p.L.getD (9+i*27) 0%3) (p.L.getD (9+i*27+1) 0) ((p.L.drop (9+i*27+2)).take 25)=pA p i:=rfl;rw[hA]at J;have hB:pAll p i|||p.L.getD (6+i) 0%32=pAll p (i+1):=rfl;rw[hB]at hU;have a:=@QoH p i;have j:=@QbF 99 (pCs p i);have d:=@QhG p i;refine Zcw (ZcB c f V hlen) ?_;refine cp hE ?_;refine Zcv ?_;refine cp hU ?_;have y:=QeN (i:=i) (by omega);have l:9+i*27+27<=152:=by omega
   refine Zcw (ZcG c f hlen y @QdS @Qms @QoJ l hg) ?_;refine cp J ?_;refine Zcw (Zcz j d) ?_;refine⟨i+1,by omega,by omega,?_⟩;rw[a,Zaq,Zai,d,QnU];refine⟨[(50,.blk 50 0),(51,.blk 51 0),(52,.blk 52 0),(75,.blk 75 0),(76,.blk 76 1)],rfl,au0,?_,au15⟩;exact Zca rfl rfl gg (Zb1 b) (Zca rfl rfl gg (Zb1 rfl) (Zca rfl rfl gg (Zcg (Zb0 rfl) (Zcg (Rn.x1 rfl rfl) (Zb1 rfl))) (Zca rfl rfl gg (Zb1 (QkS _)) (Zca rfl rfl gg (Zb1 (QaB (Qaf _) Qdu)) Zb9))))
  have e:i=pN p:=by omega
  subst e;have j:=@QbF 99 (pCs p (pN p));have d:=@QhG p (pN p);refine Zcw c ?_;refine⟨(),?_⟩;refine⟨[(50,.blk 50 0),(51,.blk 51 0),(52,.blk 52 0),(75,.blk 75 0)],rfl,au0,?_,au15⟩;refine Zca rfl rfl gg (Zb1 b) (Zca rfl rfl gg (Zb1 rfl) (Zca rfl rfl gg (Zcg (Zb0 rfl) (Zcg (Zch rfl rfl rfl rfl (QbF _) (Zb1 (Qaf _))) (Zb1 rfl))) (Zca rfl rfl gg (Zcg ?_ Zcf) Zb9)));unfold ST.allV;split;·rename_i g;rw[g];exact Rn.nilK
  exact Zb0 (Qab _)
 rintro _ _;have t:((p.L.getD 90 0:Nat):Int).tmod 3=(pM p:Int):=by rw[Zba (Za7 _)];unfold pM;norm_cast
 have hm2:=@pM_le p;refine Zcw (Zcz Z t) ?_;refine Qaj 100 (fun i:Nat=>[(1,.ptr 50 0 0),(2,.ptr 51 0 0),(3,.ptr 52 0 0),(4,.ptr 75 0 0),(5,.int .i64 (pN p:Int)),(59,.int .i64 (pM p:Int)),(60,.int .i64 i)]) (fun i=>[(50,.cells 0 C),(51,.cells 0 [.nilsl,.nilsl,.nilsl,.nilsl,.nilsl]),(52,.cells 0 [evsV (fun i=>evOf ((p.L.take 5).getD i 0)),its 99 (pCs p (pN p)),.sl 77 0 0 (pRs p i).length 5,.nilsl,.nilsl]),(75,.cells 0 [sliN (ST.bitsL (pAll p (pN p)))]),(77,.cells 0 ((pRs p i).flatMap (itC 114)))]) (fun i=>i<=pM p) (fun i=>pM p-i) 0 2 200 (fun _:Unit=>[(1,.ptr 50 0 0),(2,.ptr 51 0 0),(3,.ptr 52 0 0),(5,.int .i64 (pN p:Int))]) (fun _=>[(50,.cells 0 C),(51,.cells 0 [.nilsl,.nilsl,.nilsl,.nilsl,.nilsl]),(52,.cells 0 [evsV (fun i=>evOf ((p.L.take 5).getD i 0)),its 99 (pCs p (pN p)),its 114 (pRs p (pM p)),.nilsl,.nilsl])]) (fun _=>True) ?_ (Zah _) ?_ ?_;·refine⟨[(50,.blk 50 0),(51,.blk 51 0),(52,.blk 52 0),(75,.blk 75 0),(77,.nil)],rfl,au0,?_,au15⟩;exact Zca rfl rfl gg (Zb1 b) (Zca rfl rfl gg (Zb1 rfl) (Zca rfl rfl gg (Zcg (Zb0 rfl) (Zcg (Zb0 (Qaw _)) (Zcg (Rn.x4 rfl rfl) (Zb1 rfl)))) (Zca rfl rfl gg (Zcg (Zb0 (Qab _)) Zcf) (Zcb rfl rfl Zb9))))
 ·rintro i hi;by_cases c:i<pM p
  ·have f:(i:Int)<2:=by omega
   have V:=m (k:=91+i) (by omega);have hE:=events89 (p.L.getD (91+i) 0) (L_lt h _);have hg:=F (k:=93+i*27) (by omega);have J:=graph91 (pW p i) (p.L.getD (93+i*27) 0) (p.L.getD (93+i*27+1) 0) ((p.L.drop (93+i*27+2)).take 25) (Qiy _) (pW_lt _) (L_lt h _) (L_lt h _) (by rw[Zar,ZaE,h.L];omega) (fun x hx=>h.L8 x (List.mem_of_mem_drop (ZaR hx)));have hA:mkA (pW p i) (p.L.getD (93+i*27) 0%3) (p.L.getD (93+i*27+1) 0) ((p.L.drop (93+i*27+2)).take 25)=pR p i:=rfl;rw[hA]at J;have a:=@QoI p i;have j:=@QbF 114 (pRs p i);have d:=@QlL p i;have y:=QeN (i:=i) (by omega);have l:93+i*27+27<=152:=by omega
   have hW:fltN (ST.bitsL (pAll p (pN p))) (SD.part 5 (p.L.getD (91+i) 0))=pW p i:=Qpt;have U:(ST.bitsL (pAll p (pN p))).length<=1000000:=ZaI (Qc1 (i:=5)) (by decide);have z:(SD.part 5 (p.L.getD (91+i) 0)).length<=1000000:=ZaI (Qc1 (i:=5)) (by decide);generalize ST.bitsL (pAll p (pN p))=A at*;refine Zcw (ZcB c f V hlen) ?_;refine ch (HSpec.of_O (b:=98) (by(try simp only[noRefs,Qaa,Qax,noRef,noRefs,Qab,Qat,Zak,Zac])<;>rfl) hE (by repeat(first|exact Fresh.e|exact Fresh.le (by assumption) (by omega)|refine Fresh.set ?_ (by omega) (by omega))) rfl) ?_;refine Zcv ?_;refine chc (del40F U z gg gg) ?_;rw[hW];refine Zcw (ZcD c f hlen y l hg) ?_;refine cp J ?_;refine Zcw (Zcz j d) ?_;refine⟨i+1,by omega,by omega,?_⟩;rw[a,Zaq,Zai,d,QnU];refine⟨[(50,.blk 50 0),(51,.blk 51 0),(52,.blk 52 0),(75,.blk 75 0),(77,.blk 77 1)],rfl,au0,?_,au15⟩;exact Zca rfl rfl gg (Zb1 b) (Zca rfl rfl gg (Zb1 rfl) (Zca rfl rfl gg (Zcg (Zb0 rfl) (Zcg (Zb0 (Qaw _)) (Zcg (Rn.x1 rfl rfl) (Zb1 rfl)))) (Zca rfl rfl gg (Zcg (Zb0 (Qab _)) Zcf) (Zca rfl rfl gg (Zb1 (QaB (Qaf _) Qdu)) Zb9))))
  have e:i=pM p:=by omega
  subst e;have j:=@QbF 114 (pRs p (pM p));have d:=@QlL p (pM p);refine Zcw c ?_;refine⟨(),?_⟩;refine⟨[(50,.blk 50 0),(51,.blk 51 0),(52,.blk 52 0)],rfl,au0,?_,au15⟩;exact Zca rfl rfl gg (Zb1 b) (Zca rfl rfl gg (Zb1 rfl) (Zca rfl rfl gg (Zcg (Zb0 rfl) (Zcg (Zb0 (Qaw _)) (Zcg (Zch rfl rfl rfl rfl (QbF _) (Zb1 (Qaf _))) (Zb1 rfl)))) Zb9))
 rintro _ _;refine Zcw Q ?_;refine Qaj 100 (fun i:Nat=>[(1,.ptr 50 0 0),(2,.ptr 51 0 0),(3,.ptr 52 0 0),(5,.int .i64 (pN p:Int)),(89,.fsl (u8s p.X) p.xn 4),(90,.int .i64 (p.xn:Int)),(91,.int .i64 i)]) (fun i=>[(50,.cells 0 C),(51,.cells 0 [.nilsl,.nilsl,.nilsl,.nilsl,.nilsl]),(52,.cells 0 [evsV (fun i=>evOf ((p.L.take 5).getD i 0)),its 99 (pCs p (pN p)),its 114 (pRs p (pM p)),.sl 78 0 0 (pXs p i).length 2,.nilsl]),(78,.cells 0 ((pXs p i).flatMap exC))]) (fun i=>i<=p.xn/\i<=2) (fun i=>p.xn-i) 0 4 200 (fun _:Unit=>[(1,.ptr 50 0 0),(2,.ptr 51 0 0),(3,.ptr 52 0 0),(5,.int .i64 (pN p:Int))]) (fun _=>[(50,.cells 0 C),(51,.cells 0 [.nilsl,.nilsl,.nilsl,.nilsl,.nilsl]),(52,.cells 0 [evsV (fun i=>evOf ((p.L.take 5).getD i 0)),its 99 (pCs p (pN p)),its 114 (pRs p (pM p)),exs (pXs p (min p.xn 2)),.nilsl])]) (fun _=>True) ?_ ⟨Zah _,Zah _⟩ ?_ ?_;·refine⟨[(50,.blk 50 0),(51,.blk 51 0),(52,.blk 52 0),(78,.nil)],rfl,au0,?_,au15⟩;exact Zca rfl rfl gg (Zb1 b) (Zca rfl rfl gg (Zb1 rfl) (Zca rfl rfl gg (Zcg (Zb0 rfl) (Zcg (Zb0 (Qaw _)) (Zcg (Zb0 (Qaw _)) (Zcg (Rn.x4 rfl rfl) (Zb1 rfl))))) (Zcb rfl rfl Zb9)))
 ·rintro i⟨hi,hi2⟩;have K:=@Qbr (pXs p i);have hxx:=@QhB p i;by_cases c:i<p.xn
  ·have hX:=h.X;have h4:=Qpu (X:=p.X) (i:=i) (by omega);have hul:i*4+4<=(u8s p.X).length:=by rw[QcH,hX];omega
   have R:4<=((u8s p.X).drop (i*4)).length:=by rw[ZaE];omega
   by_cases h2:i=2
   ·subst h2;have E:(2:Int)<(p.xn:Int):=by omega
    refine Zcw (ZcB c h4 R E) ?_;refine⟨(),?_⟩;rw[show min p.xn 2=2 by omega];refine⟨[(50,.blk 50 0),(51,.blk 51 0),(52,.blk 52 0)],rfl,au0,?_,au15⟩;exact Zca rfl rfl gg (Zb1 b) (Zca rfl rfl gg (Zb1 rfl) (Zca rfl rfl gg (Zcg (Zb0 rfl) (Zcg (Zb0 (Qaw _)) (Zcg (Zb0 (Qaw _)) (Zcg (Zch rfl rfl rfl rfl (Qbr _) (Zb1 (Qar _))) (Zb1 rfl))))) Zb9))
   have T:¬(i:Int)=2:=by omega
   have y:=QeN (i:=i) (by omega);refine Zcw (ZcC c h4 R T y) ?_;obtain⟨Y,u⟩:∃Y,Y=[AV.int .u8 ((p.X.getD (i*4) 0:Nat):Int),.int .u8 ((p.X.getD (i*4+1) 0:Nat):Int),.int .u8 ((p.X.getD (i*4+2) 0:Nat):Int),.int .u8 ((p.X.getD (i*4+3) 0:Nat):Int)]:=⟨_,rfl⟩;have s:noRefs Y=true:=by rw[u];rfl
   have hYk:∀k,k<3->Y[k]?=some (.int .u8 ((p.X.getD (i*4+k) 0:Nat):Int)):=by
    intro k P;have:k=0\/k=1\/k=2:=by omega
    rcases this with rfl|rfl|rfl<;>rw[u]<;>rfl
   have d:=@QhG p (pN p);have hilC:=@QbF 99 (pCs p (pN p));rw[<-u,d];refine Qaj 220 (fun k:Nat=>[(1,.ptr 50 0 0),(2,.ptr 51 0 0),(3,.ptr 52 0 0),(5,.int .i64 (pN p:Int)),(11,.ptr 60 0 0),(12,.ptr 61 0 0),(89,.fsl (u8s p.X) p.xn 4),(90,.int .i64 (p.xn:Int)),(91,.int .i64 i),(106,.int .i64 (pN p:Int)),(107,.int .i64 k)]) (fun k=>[(50,.cells 0 C),(51,.cells 0 [.nilsl,.nilsl,.nilsl,.nilsl,.nilsl]),(52,.cells 0 [evsV (fun i=>evOf ((p.L.take 5).getD i 0)),its 99 (pCs p (pN p)),its 114 (pRs p (pM p)),.sl 78 0 0 (pXs p i).length 2,.nilsl]),(60,.cells 0 Y),(61,.cells 0 [.str [101,UInt8.ofNat (48+i)],.sl 79 0 0 (pLo p i k).length 2]),(78,.cells 0 ((pXs p i).flatMap exC)),(79,.cells 0 ((pLo p i k).flatMap loC))]) (fun k=>k<=pN p) (fun k=>pN p-k) 0 6 300 (fun _:Unit=>[(1,.ptr 50 0 0),(2,.ptr 51 0 0),(3,.ptr 52 0 0),(5,.int .i64 (pN p:Int)),(12,.ptr 61 0 0),(89,.fsl (u8s p.X) p.xn 4),(90,.int .i64 (p.xn:Int)),(91,.int .i64 i)]) (fun _=>[(50,.cells 0 C),(51,.cells 0 [.nilsl,.nilsl,.nilsl,.nilsl,.nilsl]),(52,.cells 0 [evsV (fun i=>evOf ((p.L.take 5).getD i 0)),its 99 (pCs p (pN p)),its 114 (pRs p (pM p)),.sl 78 0 0 (pXs p i).length 2,.nilsl]),(61,.cells 0 [.str [101,UInt8.ofNat (48+i)],los (pLo p i (pN p))]),(78,.cells 0 ((pXs p i).flatMap exC))]) (fun _=>True) ?_ (Zah _) ?_ ?_;·refine⟨[(50,.blk 50 0),(51,.blk 51 0),(52,.blk 52 0),(60,.blk 104 0),(61,.blk 115 0),(78,.blk 78 0),(79,.nil)],rfl,au0,?_,au15⟩;exact Zca rfl rfl gg (Zb1 b) (Zca rfl rfl gg (Zb1 rfl) (Zca rfl rfl gg (Zcg (Zb0 rfl) (Zcg (Zb0 (Qaw _)) (Zcg (Zb0 (Qaw _)) (Zcg (Rn.x1 rfl rfl) (Zb1 rfl))))) (Zca rfl rfl gg (Zb1 s) (Zca rfl rfl gg (Zcg (Zb0 rfl) (Zcg (Rn.x4 rfl rfl) Zcf)) (Zca rfl rfl gg (Zb1 (Qar _)) (Zcb rfl rfl Zb9))))))
   ·rintro k P;have B:=@QbP (pLo p i k);have X:=@QhC p i k;by_cases n:k<pN p
    ·have N:(k:Int)<4:=by omega
     have hck:=QnK (p:=p) n;have q:=QdF (ch:=99) hck;have o:5<=(((pCs p (pN p)).flatMap (itC 99)).drop (k*5)).length:=by rw[q];simp
     have hy:=hYk k (by omega);have hx8:=X_lt h (i*4+k);have hn5:(pA p k).n<=3:=(pA_wf k).n3;have O:((p.X.getD (i*4+k) 0:Nat):Int).tmod (((pA p k).n:Int)+2)=((p.X.getD (i*4+k) 0%((pA p k).n+2):Nat):Int):=by rw[Zba (Za7 _)];norm_cast
     have G:¬((pA p k).n:Int)+2=0:=by omega
     have hxm:p.X.getD (i*4+k) 0%((pA p k).n+2)<=10:=by have:=Nat.mod_lt (p.X.getD (i*4+k) 0) (show 0<(pA p k).n+2 by omega);omega
     have a:pLo p i (k+1)=if p.X.getD (i*4+k) 0%((pA p k).n+2)<(pA p k).n then pLo p i k++[(k,p.X.getD (i*4+k) 0%((pA p k).n+2))]else pLo p i k:=rfl;by_cases S:p.X.getD (i*4+k) 0%((pA p k).n+2)<(pA p k).n;·rw[if_pos S]at a;have w:List.flatMap loC [(k,p.X.getD (i*4+k) 0%((pA p k).n+2))]=[.int .i64 (k:Int),.int .i64 ((p.X.getD (i*4+k) 0%((pA p k).n+2):Nat):Int)]:=rfl;refine Zcw (ZcG n N q o hy O G S B) ?_;refine⟨k+1,by omega,by omega,?_⟩;rw[a,Zaq,Zai,w];refine⟨[(50,.blk 50 0),(51,.blk 51 0),(52,.blk 52 0),(60,.blk 60 0),(61,.blk 61 0),(78,.blk 78 0),(79,.blk 79 1)],rfl,au0,?_,au15⟩;exact Zca rfl rfl gg (Zb1 b) (Zca rfl rfl gg (Zb1 rfl) (Zca rfl rfl gg (Zcg (Zb0 rfl) (Zcg (Zb0 (Qaw _)) (Zcg (Zb0 (Qaw _)) (Zcg (Rn.x1 rfl rfl) (Zb1 rfl))))) (Zca rfl rfl gg (Zb1 s) (Zca rfl rfl gg (Zcg (Zb0 rfl) (Zcg (Rn.x1 rfl rfl) Zcf)) (Zca rfl rfl gg (Zb1 (Qar _)) (Zca rfl rfl gg (Zb1 (QaB (QaD _) rfl)) Zb9))))))
     rw[if_neg S]at a;refine Zcw (ZcG n N q o hy O G S B) ?_;refine⟨k+1,by omega,by omega,?_⟩;rw[a];refine⟨[(50,.blk 50 0),(51,.blk 51 0),(52,.blk 52 0),(60,.blk 60 0),(61,.blk 61 0),(78,.blk 78 0),(79,.blk 79 0)],rfl,au0,?_,au15⟩;exact Zca rfl rfl gg (Zb1 b) (Zca rfl rfl gg (Zb1 rfl) (Zca rfl rfl gg (Zcg (Zb0 rfl) (Zcg (Zb0 (Qaw _)) (Zcg (Zb0 (Qaw _)) (Zcg (Rn.x1 rfl rfl) (Zb1 rfl))))) (Zca rfl rfl gg (Zb1 s) (Zca rfl rfl gg (Zcg (Zb0 rfl) (Zcg (Rn.x1 rfl rfl) Zcf)) (Zca rfl rfl gg (Zb1 (Qar _)) (Zca rfl rfl gg (Zb1 (QaD _)) Zb9))))))
    have e:k=pN p:=by omega
    subst e;refine Zcw n ?_;refine⟨(),?_⟩;refine⟨[(50,.blk 50 0),(51,.blk 51 0),(52,.blk 52 0),(61,.blk 61 0),(78,.blk 78 0)],rfl,au0,?_,au15⟩;exact Zca rfl rfl gg (Zb1 b) (Zca rfl rfl gg (Zb1 rfl) (Zca rfl rfl gg (Zcg (Zb0 rfl) (Zcg (Zb0 (Qaw _)) (Zcg (Zb0 (Qaw _)) (Zcg (Rn.x1 rfl rfl) (Zb1 rfl))))) (Zca rfl rfl gg (Zcg (Zb0 rfl) (Zcg (Zch rfl rfl rfl rfl (QbP _) (Zb1 (QaD _))) Zcf)) (Zca rfl rfl gg (Zb1 (Qar _)) Zb9))))
   rintro _ _;have a:pXs p (i+1)=if 0<(pLo p i (pN p)).length then pXs p i++[(i,pLo p i (pN p))]else pXs p i:=rfl;have X:=@QhC p i (pN p);by_cases g:0<(pLo p i (pN p)).length;·rw[if_pos g]at a;have H:List.flatMap exC [(i,pLo p i (pN p))]=[.str [101,UInt8.ofNat (48+i)],los (pLo p i (pN p))]:=rfl;refine Zcw (Zcz g K) ?_;refine⟨i+1,by omega,⟨by omega,by omega⟩,?_⟩;rw[a,Zaq,Zai,H];refine⟨[(50,.blk 50 0),(51,.blk 51 0),(52,.blk 52 0),(78,.blk 78 1)],rfl,au0,?_,au15⟩;exact Zca rfl rfl gg (Zb1 b) (Zca rfl rfl gg (Zb1 rfl) (Zca rfl rfl gg (Zcg (Zb0 rfl) (Zcg (Zb0 (Qaw _)) (Zcg (Zb0 (Qaw _)) (Zcg (Rn.x1 rfl rfl) (Zb1 rfl))))) (Zca rfl rfl gg (Zb1 (QaB (Qar _) (by simp only[noRefs,noRef,QaD];rfl))) Zb9)))
   rw[if_neg g]at a;refine Zcw (Zcz g K) ?_;refine⟨i+1,by omega,⟨by omega,by omega⟩,?_⟩;rw[a];refine⟨[(50,.blk 50 0),(51,.blk 51 0),(52,.blk 52 0),(78,.blk 78 0)],rfl,au0,?_,au15⟩;exact Zca rfl rfl gg (Zb1 b) (Zca rfl rfl gg (Zb1 rfl) (Zca rfl rfl gg (Zcg (Zb0 rfl) (Zcg (Zb0 (Qaw _)) (Zcg (Zb0 (Qaw _)) (Zcg (Rn.x1 rfl rfl) (Zb1 rfl))))) (Zca rfl rfl gg (Zb1 (Qar _)) Zb9)))
  have e:i=p.xn:=by omega
  subst e;refine Zcw c ?_;refine⟨(),?_⟩;rw[show min p.xn 2=p.xn by omega];refine⟨[(50,.blk 50 0),(51,.blk 51 0),(52,.blk 52 0)],rfl,au0,?_,au15⟩;exact Zca rfl rfl gg (Zb1 b) (Zca rfl rfl gg (Zb1 rfl) (Zca rfl rfl gg (Zcg (Zb0 rfl) (Zcg (Zb0 (Qaw _)) (Zcg (Zb0 (Qaw _)) (Zcg (Zch rfl rfl rfl rfl (Qbr _) (Zb1 (Qar _))) (Zb1 rfl))))) Zb9))
 rintro _ _;have hb1:=Int.lt_tmod_of_pos p.bd (show(0:Int)<8 by decide);have hb2:=Int.tmod_lt_of_pos p.bd (show(0:Int)<8 by decide);have hbd:=h.bd;have hf0:=h.f0;have hf1:=h.f1;have hf2:=h.f2;refine Zcw L ?_;refine Qaj 240 (fun i:Nat=>[(1,.ptr 50 0 0),(2,.ptr 51 0 0),(3,.ptr 52 0 0),(15,.ptr 62 0 0),(157,.int .i64 (pN p:Int)),(158,.int .i64 i)]) (fun i=>[(50,.cells 0 C),(51,.cells 0 [.nilsl,.nilsl,.nilsl,.nilsl,.nilsl]),(52,.cells 0 [evsV (fun i=>evOf ((p.L.take 5).getD i 0)),its 99 (pCs p (pN p)),its 114 (pRs p (pM p)),exs (pXs p (min p.xn 2)),.nilsl]),(62,.cells 0 [.str [107],.sl 97 0 0 (pT p i).length 2,.int .i64 (p.bd.tmod 8)]),(97,.cells 0 ((pT p i).flatMap teC))]) (fun i=>i<=pN p) (fun i=>pN p-i) 0 8 300 (fun _:Unit=>[(2,.ptr 51 0 0),(3,.ptr 52 0 0),(15,.ptr 62 0 0)]) (fun _=>[(51,.cells 0 [.nilsl,.nilsl,.nilsl,.nilsl,.nilsl]),(52,.cells 0 [evsV (fun i=>evOf ((p.L.take 5).getD i 0)),its 99 (pCs p (pN p)),its 114 (pRs p (pM p)),exs (pXs p (min p.xn 2)),.nilsl]),(62,.cells 0 [.str [107],.sl 97 0 0 (pT p (pN p)).length 2,.int .i64 (p.bd.tmod 8)]),(97,.cells 0 ((pT p (pN p)).flatMap teC))]) (fun _=>True) ?_ (Zah _) ?_ ?_;·refine⟨[(50,.blk 50 0),(51,.blk 51 0),(52,.blk 52 0),(62,.blk 205 0),(97,.nil)],rfl,au0,?_,au15⟩;exact Zca rfl rfl gg (Zb1 b) (Zca rfl rfl gg (Zb1 rfl) (Zca rfl rfl gg (Zcg (Zb0 rfl) (Zcg (Zb0 (Qaw _)) (Zcg (Zb0 (Qaw _)) (Zcg (Zb0 (Qbn _)) (Zb1 rfl))))) (Zca rfl rfl gg (Zcg (Zb0 rfl) (Zcg (Rn.x4 rfl rfl) (Zb1 rfl))) (Zcb rfl rfl Zb9))))
 ·rintro i hi;have htl:=@Qbm (pT p i);have htx:=@Qj3 p i;by_cases c:i<pN p
  ·have f:(i:Int)<3:=by omega
   have ha:=aF i (by omega);have hFb:-128<=pF p i/\pF p i<128:=pF_lt h i;have a:pT p (i+1)=if pF p i=0 then pT p i else pT p i++[(i,(pF p i).tmod 4)]:=rfl;by_cases g:pF p i=0;·rw[if_pos g]at a;refine Zcw (ZcC c f hlen ha g) ?_;refine⟨i+1,by omega,by omega,?_⟩;rw[a];refine⟨[(50,.blk 50 0),(51,.blk 51 0),(52,.blk 52 0),(62,.blk 62 0),(97,.blk 97 0)],rfl,au0,?_,au15⟩;exact Zca rfl rfl gg (Zb1 b) (Zca rfl rfl gg (Zb1 rfl) (Zca rfl rfl gg (Zcg (Zb0 rfl) (Zcg (Zb0 (Qaw _)) (Zcg (Zb0 (Qaw _)) (Zcg (Zb0 (Qbn _)) (Zb1 rfl))))) (Zca rfl rfl gg (Zcg (Zb0 rfl) (Zcg (Rn.x1 rfl rfl) (Zb1 rfl))) (Zca rfl rfl gg (Zb1 (Qat _)) Zb9))))
   rw[if_neg g]at a;have M:List.flatMap teC [(i,(pF p i).tmod 4)]=[.int .i64 (i:Int),.int .i64 ((pF p i).tmod 4)]:=rfl;refine Zcw (ZcD c f hlen ha g htl) ?_;refine⟨i+1,by omega,by omega,?_⟩;rw[a,Zaq,Zai,M];refine⟨[(50,.blk 50 0),(51,.blk 51 0),(52,.blk 52 0),(62,.blk 62 0),(97,.blk 97 1)],rfl,au0,?_,au15⟩;exact Zca rfl rfl gg (Zb1 b) (Zca rfl rfl gg (Zb1 rfl) (Zca rfl rfl gg (Zcg (Zb0 rfl) (Zcg (Zb0 (Qaw _)) (Zcg (Zb0 (Qaw _)) (Zcg (Zb0 (Qbn _)) (Zb1 rfl))))) (Zca rfl rfl gg (Zcg (Zb0 rfl) (Zcg (Rn.x1 rfl rfl) (Zb1 rfl))) (Zca rfl rfl gg (Zb1 (QaB (Qat _) rfl)) Zb9))))
  have e:i=pN p:=by omega
  subst e;refine Zcw c ?_;refine⟨(),?_⟩;refine⟨[(51,.blk 51 0),(52,.blk 52 0),(62,.blk 62 0),(97,.blk 97 0)],rfl,au0,?_,au15⟩;exact Zca rfl rfl gg (Zb1 rfl) (Zca rfl rfl gg (Zcg (Zb0 rfl) (Zcg (Zb0 (Qaw _)) (Zcg (Zb0 (Qaw _)) (Zcg (Zb0 (Qbn _)) (Zb1 rfl))))) (Zca rfl rfl gg (Zcg (Zb0 rfl) (Zcg (Rn.x1 rfl rfl) (Zb1 rfl))) (Zca rfl rfl gg (Zb1 (Qat _)) Zb9)))
 rintro _ _;have hT0:flt0 (pT p (pN p))=pT0 p:=rfl;have hpt:=@Qj3 p (pN p);refine Zcv ?_;refine chc (del93F (l:=pT p (pN p)) (by omega) gg) ?_;rw[hT0];have htl0:(pT0 p).length<=3:=ZaI (ZbE _ _) (by omega);by_cases g:0<(pT0 p).length;·have r:pKs p=[(pT0 p,p.bd.tmod 8)]:=if_pos g;refine Zcw g ?_;refine⟨.inr trivial,_,rfl,?_⟩;refine Rn.agg (Zcg (Zb0 rfl) (Zcg (Zb0 (Qaw _)) (Zcg (Zb0 (Qaw _)) (Zcg (Zb0 (Qbn _)) (Zcg ?_ Zcf)))));show Rn 0 π0 _ (cos (pKs p)) _;rw[r];exact Rn.fz0 (b:=310) rfl rfl (Zcg (Zb0 rfl) (Zcg (Zb0 (Qdp _)) (Zcg (Zb0 rfl) Zcf)))
 have r:pKs p=[]:=if_neg g;refine Zcw g ?_;refine⟨.inr trivial,_,rfl,?_⟩;refine Rn.agg (Zcg (Zb0 rfl) (Zcg (Zb0 (Qaw _)) (Zcg (Zb0 (Qaw _)) (Zcg (Zb0 (Qbn _)) (Zcg ?_ Zcf)))));show Rn 0 π0 _ (cos (pKs p)) _;rw[r];exact Rn.nilK
end Go.AM.SU
namespace Go.AM.SN
open Go.Proofs Go.AM.SD Go.AM.SE Go.AM.SO
noncomputable section
def is0:AV->Bool|.int .i64 n=>decide (n=0)|_=>false
theorem Qqp:∀u,is0 u=true->u=.int .i64 0:=by intro u h;unfold is0 at h;grind
def nameR(s:List UInt8)(f:Nat)(X K:AV)(i:Int):Bool:=callR ansB noOrc SK.ft.get (exR ansB noOrc SK.ft.get 1000) (.c .pure) 102 [.str s,.fn f [] [.fptr [.any,X,K],.fptr [.int .i64 i]]] .e 64 (fun u _ _=>is0 u)
theorem QoK{s:List UInt8}{f:Nat}{X K:AV}{i:Int}(h:nameR s f X K i=true):PSpec Tryz.prog 102 [.str s,.fn f [] [.fptr [.any,X,K],.fptr [.int .i64 i]]] (.int .i64 0):=QbZ (t:=SK.ft) SK.ft_ok Qd0 (d:=1000) is0 Qqp h
theorem e0_1:nameR [101,48] 101 (.fsl [.str [101,48],.any] 1 2) .any 0=true:=by kernel_rfl
theorem e1_1:nameR [101,49] 101 (.fsl [.str [101,49],.any] 1 2) .any 0=true:=by kernel_rfl
theorem e0_2:nameR [101,48] 101 (.fsl [.str [101,48],.any,.str [101,49],.any] 2 2) .any 0=true:=by kernel_rfl
theorem e1_2a:nameR [101,49] 101 (.fsl [.str [101,48],.fsl [.any,.any] 1 2,.str [101,49],.any] 2 2) .any 1=true:=by kernel_rfl
theorem e1_2b:nameR [101,49] 101 (.fsl [.str [101,48],.fsl [.any,.any,.any,.any] 2 2,.str [101,49],.any] 2 2) .any 1=true:=by kernel_rfl
theorem e1_2c:nameR [101,49] 101 (.fsl [.str [101,48],.fsl [.any,.any,.any,.any,.any,.any] 3 2,.str [101,49],.any] 2 2) .any 1=true:=by kernel_rfl
theorem k_1:nameR [107] 104 .any (.fsl [.str [107],.any,.any] 1 3) 0=true:=by kernel_rfl
def Wk(x y:AV):Prop:=∀(ok:Okc)(c:Ctx ok)(w:World)(v:Value),VRel c w x v->VRel c w y v
def WkL:List AV->List AV->Prop|[],[]=>True|x::xs,y::a=>Wk x y/\WkL xs a|_,_=>False
theorem Wk.refl(x:AV):Wk x x:=fun _ _ _ _ h=>h
theorem Wk.any{x:AV}:Wk x .any:=fun _ _ _ _ _=>by simp[VRel]
theorem WkL.rels{ok:Okc}{c:Ctx ok}{w:World}:∀{xs ys:List AV}{vs:List Value},WkL xs ys->VRels c w xs vs->VRels c w ys vs|[],[],_,_,a=>a|[],_::_,_,h,_=>h.elim|_::_,[],_,h,_=>h.elim|x::xs,y::ys,vs,h,a=>by simp only[VRels]at a⊢;obtain⟨v,b,rfl,h1,d⟩:=a;exact⟨v,b,rfl,h.1 _ c w v h1,WkL.rels h.2 d⟩
theorem WkL.pre{ok:Okc}{c:Ctx ok}{w:World}:∀{xs ys:List AV}{vs:List Value},WkL xs ys->VPre c w xs vs->VPre c w ys vs|[],[],_,_,a=>a|[],_::_,_,h,_=>h.elim|_::_,[],_,h,_=>h.elim|x::xs,y::ys,vs,h,a=>by simp only[VPre]at a⊢;obtain⟨v,b,rfl,h1,d⟩:=a;exact⟨v,b,rfl,h.1 _ c w v h1,WkL.pre h.2 d⟩
theorem WkL.length:∀{xs ys:List AV},WkL xs ys->xs.length=ys.length|[],[],_=>rfl|[],_::_,h=>h.elim|_::_,[],h=>h.elim|x::xs,y::ys,h=>by simp[WkL.length h.2]
theorem Wk.fsl{cs ds:List AV}{len sz:Nat}(h:WkL cs ds):Wk (.fsl cs len sz) (.fsl ds len sz):=fun _ c w v b=>by
 simp only[VRel]at b⊢;have l:=h.length;rcases b with⟨h1,rfl,a⟩|⟨j,off,cap,C,e,g,h1,a,k,f,d,i⟩;·grind
 exact .inr ⟨j,off,cap,C,e,g,h1,a,by omega,f,d,h.pre i⟩
theorem Wk.fptr{cs ds:List AV}(h:WkL cs ds):Wk (.fptr cs) (.fptr ds):=fun _ c w v a=>by simp only[VRel]at a⊢;obtain⟨d,off,C,e,b,h1,i,f,g⟩:=a;exact⟨d,off,C,e,b,h1,i,f,h.pre g⟩
theorem Wk.fn{f:Nat}{xs ys us vs:List AV}(h1:WkL xs ys)(h:WkL us vs):Wk (.fn f xs us) (.fn f ys vs):=fun _ c w v a=>by simp only[VRel]at a⊢;obtain⟨d,b,rfl,i,g⟩:=a;exact⟨d,b,rfl,h1.rels i,h.rels g⟩
theorem PSpec.wk{f:Nat}{args bs:List AV}{v:AV}(a:WkL args bs)(b:noRefs args=true)(hp:PSpec Tryz.prog f bs v):PSpec Tryz.prog f args v:=SE.PSpec.weak (fun _ c w d _ h=>a.rels h) b hp
theorem nameW{s:List UInt8}{f:Nat}{S X K X' K':AV}{i:Int}(h:nameR s f X' K' i=true)(b:Wk X X')(a:Wk K K')(c:noRefs [S,X,K]=true):PSpec Tryz.prog 102 [.str s,.fn f [] [.fptr [S,X,K],.fptr [.int .i64 i]]] (.int .i64 0):=by refine PSpec.wk (bs:=[.str s,.fn f [] [.fptr [.any,X',K'],.fptr [.int .i64 i]]]) ⟨Wk.refl _,Wk.fn trivial ⟨Wk.fptr ⟨Wk.any,b,a,trivial⟩,Wk.refl _,trivial⟩,trivial⟩ ?_ (QoK h);simp_all[noRefs,noRef]
theorem nameX{S K:AV}{xs:List (Nat×List (Nat×Nat))}{i:Nat}{x:Nat×List (Nat×Nat)}(c:xs[i]?=some x)(l:xs.length<=2)(o:(xs.map (·.1)).Pairwise (·<·))(j:∀x∈xs,x.1<2)(g:∀x∈xs,x.2≠[]/\x.2.length<=3)(d:noRefs [S,exs xs,K]=true):PSpec Tryz.prog 102 [.str [101,UInt8.ofNat (48+x.1)],.fn 101 [] [.fptr [S,exs xs,K],.fptr [.int .i64 (i:Int)]]] (.int .i64 0):=by match xs,l with
 |[],_=>simp at c|[(a,f)],_=>
  have hi:i=0:=by grind
  subst hi;simp at c;subst c;have k:=j (a,f) (by simp);have:a=0\/a=1:=by omega
  rcases this with rfl|rfl;·exact nameW e0_1 (Wk.fsl ⟨Wk.refl _,Wk.any,trivial⟩) Wk.any d
  ·exact nameW e1_1 (Wk.fsl ⟨Wk.refl _,Wk.any,trivial⟩) Wk.any d|[(a,f),(b,n)],_=>
  have k:=j (a,f) (by simp);have t:=j (b,n) (by simp);have m:a<b:=by simpa using o
  dsimp only at k t;obtain rfl:a=0:=by omega
  obtain rfl:b=1:=by omega
  have hi:i=0\/i=1:=by grind
  rcases hi with rfl|rfl;·simp at c;subst c;exact nameW e0_2 (Wk.fsl ⟨Wk.refl _,Wk.any,Wk.refl _,Wk.any,trivial⟩) Wk.any d
  ·simp at c;subst c;obtain⟨u,s⟩:=g (0,f) (by simp);match f,u,s with|[],h,_=>exact absurd rfl h|[p],_,_=>exact nameW e1_2a (Wk.fsl ⟨Wk.refl _,Wk.fsl ⟨Wk.any,Wk.any,trivial⟩,Wk.refl _,Wk.any,trivial⟩) Wk.any d|[p,q],_,_=>exact nameW e1_2b (Wk.fsl ⟨Wk.refl _,Wk.fsl ⟨Wk.any,Wk.any,Wk.any,Wk.any,trivial⟩,Wk.refl _,Wk.any,trivial⟩) Wk.any d|[p,q,r],_,_=>exact nameW e1_2c (Wk.fsl ⟨Wk.refl _,Wk.fsl ⟨Wk.any,Wk.any,Wk.any,Wk.any,Wk.any,Wk.any,trivial⟩,Wk.refl _,Wk.any,trivial⟩) Wk.any d
theorem nameK{S X:AV}{ks:List (List (Nat×Int)×Int)}{x:List (Nat×Int)×Int}(b:ks=[x])(a:noRefs [S,X,cos ks]=true):PSpec Tryz.prog 102 [.str [107],.fn 104 [] [.fptr [S,X,cos ks],.fptr [.int .i64 0]]] (.int .i64 0):=by subst b;exact nameW k_1 Wk.any (Wk.fsl ⟨Wk.refl _,Wk.any,Wk.any,trivial⟩) a
end
end Go.AM.SN
namespace Go.AM.SO
open Go.Proofs Go.AM.SD Go.AM.SE
theorem great190(n:Int)(h1:-65536<=n)(c:n<=65536):PSpec Tryz.prog 190 [.int .i64 n] (.bool false):=by
 refine Zb3 64 ok190 rfl rfl rfl ?_;have a:¬n< -65536:=by omega
 have b:¬65536<n:=by omega
 unfold s190;refine Zcs (Zcz a b) ?_;exact⟨.inr trivial,_,rfl,rfl⟩
abbrev cdC(S:List Nat)(xs:List (Nat×List (Nat×Nat)))(ks:List (List (Nat×Int)×Int)):List AV:=[sliN S,exs xs,cos ks]
abbrev cdV(S:List Nat)(xs:List (Nat×List (Nat×Nat)))(ks:List (List (Nat×Int)×Int)):AV:=.agg (cdC S xs ks)
theorem Qdq{S:List Nat}{xs:List (Nat×List (Nat×Nat))}{ks:List (List (Nat×Int)×Int)}:noRefs (cdC S xs ks)=true:=by rw[cdC,noRefs,noRefs,noRefs,Qab,SU.Qbn,SU.QiA];rfl
theorem QdG{l:List (Nat×Nat)}{i:Nat}{x:Nat×Nat}(h:l[i]?=some x):(l.flatMap loC).drop (i*2)=.int .i64 (x.1:Int)::.int .i64 (x.2:Int)::(l.drop (i+1)).flatMap loC:=QaY (f:=loC) (k:=2) (fun _=>rfl) h
theorem pw_at{l:List Nat}(h:l.Pairwise (·<·)){i:Nat}{x y:Nat}(b:l[i]?=some x)(a:l[i+1]?=some y):x<y:=by
 have hi:i+1<l.length:=by
  rcases Zbd (i+1) l.length with h|h;·exact h
  rw[ZaA h]at a;cases a
 rw[Zad (by omega)]at b;rw[Zad hi]at a;cases b;cases a;exact Za5.1 h i (i+1) (by omega) hi (Nat.lt_succ_self _)
theorem _root_.Go.AM.au16{p:Prop}(h:p:=by repeat(first|exact Zb7|(refine Zb8 ?_ ?_;·(first|exact Rn.any|exact Rn.x1 rfl rfl|exact Rn.x2 rfl rfl|exact Rn.x3 rfl rfl|exact Rn.x4 rfl rfl|exact Rn.x5 rfl|exact Rn.x6 rfl|exact Rn.x7 rfl|(refine Rn.slot ?_ ?_;(first|rfl|(rw[ZaS];rfl));(first|rfl|(simp only[noRef,noRefs,Qah,Zak,Zac,Zag,Qaa,Qam,Qab,SU.QaD,SU.Qat,SU.Qaf,SU.Qar,SU.QaI];done)))|(refine Rn.fn ?_ ?_<;>(repeat'(first|exact Zcf|refine Zcg ?_ ?_|exact Zb0 rfl|exact Rn.x6 rfl|exact Rn.x2 rfl rfl|exact Rn.x5 rfl|exact Rn.x1 rfl rfl))))))):p:=h
theorem excl103(S:List Nat)(xs:List (Nat×List (Nat×Nat)))(ks:List (List (Nat×Int)×Int))(x:Nat×List (Nat×Nat))(T:S.length<=8)(A:∀s∈S,s<=4096)(K:x.2.length<=1000)(r:x.2≠[])(hp:(x.2.map (·.1)).Pairwise (·<·))(C:∀l∈x.2,∃n,S[l.1]?=some n/\l.2<n):PSpec Tryz.prog 103 [cdV S xs ks,.agg (exC x)] (.int .i64 0):=by
 obtain⟨t,l⟩:=x;dsimp only at K r hp C;have hex:exC (t,l)=[.str [101,UInt8.ofNat (48+t)],los l]:=rfl;rw[hex];have a:=@Qdq S xs ks;have b:noRefs [.str [101,UInt8.ofNat (48+t)],los l]=true:=by rw[noRefs,noRefs,SU.Qd6];rfl
 refine Zb3 64 ok103 rfl (by rw[noRefs,noRefs,noRef,noRef,a,b];rfl) rfl ?_;have v:¬(l.length:Int)=0:=by have:=List.length_pos_iff.2 r;omega
 have Q:=SU.QbP l;unfold s103;refine Zcs v ?_;refine Qay 100 (fun i:Nat=>[(2,.ptr 50 0 0),(3,.ptr 51 0 0),(12,los l),(13,.int .i64 l.length),(14,.int .i64 i)]) (fun _=>[(50,.cells 0 (cdC S xs ks)),(51,.cells 0 [.str [101,UInt8.ofNat (48+t)],los l])]) (fun i=>i<=l.length) (fun i=>l.length-i) 0 ⟨[(50,.blk 64 0),(51,.blk 65 0)],rfl,au0,?_,au16⟩ (Zah _) ?_;·exact Zca rfl rfl gg (Zb1 a) (Zca rfl rfl gg (Zb1 b) Zb9)
 rintro i hi;by_cases d:i<l.length
 ·obtain⟨⟨c,s⟩,g⟩:=Qac d;obtain⟨n,m,B⟩:=C _ (Zae g);dsimp only at m B;have q:c<S.length:=by
   rcases Zbd c S.length with h|h;·exact h
   rw[ZaA h]at m;cases m
  have O:=A n (Zae m);have k:=QdG g;have p:2<=((l.flatMap loC).drop (i*2)).length:=by rw[k];simp
  have h1:¬(c:Int)<0:=by omega
  have H:¬(S.length:Int)<=(c:Int):=by omega
  have F:¬(s:Int)<0:=by omega
  have G:¬(n:Int)<=(s:Int):=by omega
  cases i with|zero=>
   have z:¬(0:Int)<((0:Nat):Int):=by omega
   refine Zcs (ZcH d k p z h1 H F G (QaP m) q) ?_;refine⟨1,by omega,by omega,?_⟩;refine⟨[(50,.blk 50 0),(51,.blk 51 0)],rfl,au0,?_,au16⟩;exact Zca rfl rfl gg (Zb1 a) (Zca rfl rfl gg (Zb1 b) Zb9)|succ j=>
   obtain⟨⟨E,R⟩,f⟩:=Qac (l:=l) (i:=j) (by omega);have o:=QdG f;have N:E<c:=pw_at hp (i:=j) (by rw[ZaV,f];rfl) (by rw[ZaV,g];rfl);have z:(0:Int)<((j+1:Nat):Int):=by omega
   have I:¬(c:Int)<=(E:Int):=by omega
   have L:((j+1:Nat):Int)-1=(j:Int):=by omega
   have M:j<l.length:=by omega
   have hle:((j+1:Nat):Int)<(l.length:Int):=by omega
   have u:((j+1:Nat):Int).toNat=j+1:=by omega
   have w:0<=((j+1:Nat):Int):=by omega
   generalize P:((j+1:Nat):Int)=J at*;simp(disch:=first|omega|(simp only[lenW]<;>omega))only[d,hle,u,w,k,o,p,z,h1,H,F,G,I,L,M,QaP m,q,wV,simprocAttr];refine⟨j+2,by omega,by omega,?_⟩;have y:J+1=((j+2:Nat):Int):=by omega
   rw[y];refine⟨[(50,.blk 50 0),(51,.blk 51 0)],rfl,au0,?_,au16⟩;exact Zca rfl rfl gg (Zb1 a) (Zca rfl rfl gg (Zb1 b) Zb9)
 refine Zcs d ?_;exact⟨.inr trivial,_,rfl,rfl⟩
theorem cons105(S:List Nat)(xs:List (Nat×List (Nat×Nat)))(ks:List (List (Nat×Int)×Int))(x:List (Nat×Int)×Int)(P:S.length<=8)(I:x.1.length<=1000)(o:x.1≠[])(hp:(x.1.map (·.1)).Pairwise (·<·))(E:∀l∈x.1,l.1<S.length/\l.2≠0/\-65536<=l.2/\l.2<=65536)(w:-65536<=x.2/\x.2<=65536):PSpec Tryz.prog 105 [cdV S xs ks,.agg (coC x)] (.int .i64 0):=by
 obtain⟨l,p⟩:=x;dsimp only at I o hp E w;have hex:coC (l,p)=[.str [107],tes l,.int .i64 p]:=rfl;rw[hex];have a:=@Qdq S xs ks;have b:noRefs [.str [107],tes l,.int .i64 p]=true:=by rw[noRefs,noRefs,SU.Qdp];rfl
 refine Zb3 64 ok105 rfl (by rw[noRefs,noRefs,noRef,noRef,a,b];rfl) rfl ?_;have y:¬(l.length:Int)=0:=by have:=List.length_pos_iff.2 o;omega
 have N:=SU.Qbm l;have B:=great190 p w.1 w.2;unfold s105;refine Zcs y ?_;refine Qay 100 (fun i:Nat=>[(2,.ptr 50 0 0),(3,.ptr 51 0 0),(12,tes l),(13,.int .i64 l.length),(14,.int .i64 i)]) (fun _=>[(50,.cells 0 (cdC S xs ks)),(51,.cells 0 [.str [107],tes l,.int .i64 p])]) (fun i=>i<=l.length) (fun i=>l.length-i) 0 ⟨[(50,.blk 64 0),(51,.blk 65 0)],rfl,au0,?_,au16⟩ (Zah _) ?_;·exact Zca rfl rfl gg (Zb1 a) (Zca rfl rfl gg (Zb1 b) Zb9)
 rintro i hi;by_cases d:i<l.length
 ·obtain⟨⟨c,s⟩,h⟩:=Qac d;obtain⟨u,k,m,q⟩:=E _ (Zae h);dsimp only at u k m q;have g:=SU.Qb5 h;have n:2<=((l.flatMap teC).drop (i*2)).length:=by rw[g];simp
  have h1:¬(c:Int)<0:=by omega
  have F:¬(S.length:Int)<=(c:Int):=by omega
  have t:=great190 s m q;cases i with|zero=>
   have z:¬(0:Int)<((0:Nat):Int):=by omega
   refine Zcs (ZcE d g n z h1 F k) ?_;refine cp t ?_;refine Zcr ?_;refine⟨1,by omega,by omega,?_⟩;refine⟨[(50,.blk 50 0),(51,.blk 51 0)],rfl,au0,?_,au16⟩;exact Zca rfl rfl gg (Zb1 a) (Zca rfl rfl gg (Zb1 b) Zb9)|succ j=>
   obtain⟨⟨G,Q⟩,f⟩:=Qac (l:=l) (i:=j) (by omega);have r:=SU.Qb5 f;have M:G<c:=pw_at hp (i:=j) (by rw[ZaV,f];rfl) (by rw[ZaV,h];rfl);have z:(0:Int)<((j+1:Nat):Int):=by omega
   have O:¬(c:Int)<=(G:Int):=by omega
   have L:((j+1:Nat):Int)-1=(j:Int):=by omega
   have H:j<l.length:=by omega
   have hle:((j+1:Nat):Int)<(l.length:Int):=by omega
   have C:((j+1:Nat):Int).toNat=j+1:=by omega
   have A:0<=((j+1:Nat):Int):=by omega
   generalize K:((j+1:Nat):Int)=J at*;refine Zcs (ZcL d hle C A g r n z h1 F k O L H) ?_;refine cp t ?_;refine Zcr ?_;refine⟨j+2,by omega,by omega,?_⟩;have v:J+1=((j+2:Nat):Int):=by omega
   rw[v];refine⟨[(50,.blk 50 0),(51,.blk 51 0)],rfl,au0,?_,au16⟩;exact Zca rfl rfl gg (Zb1 a) (Zca rfl rfl gg (Zb1 b) Zb9)
 refine Zcs d ?_;refine cp B ?_;refine Zcr ?_;exact⟨.inr trivial,_,rfl,rfl⟩
end Go.AM.SO
namespace Go.AM.SQ
open Go.Proofs
set_option maxHeartbeats 4000000
noncomputable section
def cf:YA.Cf:={most:=.pure,always:=[102].map fun k=>(k,.heap)}
def s32:SFn:=by
 refine(?f:YA.Yt Tryz.prog cf 32 [[0,2],[15,16,17],[1,18],[2,18,19],[],[23,24,25],[4,26,27,28],[1,20,21,22,30,29,41,40,39,38,31],[2,31,32],[20,21,22,30,29,41,40,39,38,33,34,35,36,37],[1,42],[2,42,43],[],[47,48,49,50],[5,51],[7,52,53,54,55],[56],[1,44,45,46,6,8,57,58],[2,6,8,57,59,60,61],[62],[1,44,45,46,9,63,64],[2,9,63,65],[44,45,46,66],[],[70,71,72,73],[10,74],[12,75,76,77,78],[79],[1,67,68,69,11,13,80,81],[2,11,13,80,82,83,84],[85],[1,67,68,69,14,86,87],[2,14,86,88],[1,67,68,69]]) ?s ?h;case h=>exact YA.rr
 exact fun s _=>s
theorem ok32:okFn Tryz.prog 32 s32=true:=by kernel_rfl
end
end Go.AM.SQ
namespace Go.AM.SO
open Go.Proofs Go.AM.SD Go.AM.SE
def szs(c:Cel):List Nat:=c.cs.map (·.2.n)
theorem WfCel.comp{c:Cel}(h:WfCel c){x:Nat×List (Nat×Nat)}(b:x∈c.xs):∀l∈x.2,∃n,(szs c)[l.1]?=some n/\l.2<n:=fun l a=>by obtain⟨y,h1,d⟩:=(h.xl x b).2.2 l a;exact⟨y.2.n,by unfold szs;rw[ZaV,h1];rfl,d⟩
theorem WfCel.xlen{c:Cel}(h:WfCel c){x:Nat×List (Nat×Nat)}(a:x∈c.xs):x.2.length<=3:=by
 have h1:=QaN c.cs.length (x.2.map (·.1)) (by rw[ZaJ];exact(h.xl x a).2.1.imp fun h=>by omega) (fun y d=>by
  obtain⟨l,b,rfl⟩:=Zas.1 d;obtain⟨z,h1,_⟩:=(h.xl x a).2.2 l b;rcases Zbd l.1 c.cs.length with h|h;·exact h
  rw[ZaA h]at h1;cases h1);rw[Zal]at h1;exact ZaI h1 h.c3
theorem WfCel.klen{c:Cel}(h:WfCel c){x:List (Nat×Int)×Int}(a:x∈c.ks):x.1.length<=3:=by have h1:=QaN c.cs.length (x.1.map (·.1)) (by rw[ZaJ];exact(h.kl x a).2.1.imp fun h=>by omega) (fun y d=>by obtain⟨l,b,rfl⟩:=Zas.1 d;exact((h.kl x a).2.2.1 l b).1);rw[Zal]at h1;exact ZaI h1 h.c3
theorem WfCel.slen{c:Cel}(h:WfCel c):(szs c).length=c.cs.length:=by simp[szs]
theorem WfCel.sz{c:Cel}(h:WfCel c):∀s∈szs c,1<=s/\s<=3:=fun s b=>by obtain⟨x,a,rfl⟩:=Zas.1 b;exact⟨(h.ca x a).pos,(h.ca x a).n3⟩
theorem Qc4{l:List (Nat×List (Nat×Nat))}{i:Nat}{x:Nat×List (Nat×Nat)}(h:l[i]?=some x):(l.flatMap exC).drop (i*2)=.str [101,UInt8.ofNat (48+x.1)]::los x.2::(l.drop (i+1)).flatMap exC:=QaY (f:=exC) (k:=2) (fun _=>rfl) h
theorem Qc5{l:List (List (Nat×Int)×Int)}{i:Nat}{x:List (Nat×Int)×Int}(h:l[i]?=some x):(l.flatMap coC).drop (i*3)=.str [107]::tes x.1::.int .i64 x.2::(l.drop (i+1)).flatMap coC:=QaY (f:=coC) (k:=3) (fun _=>rfl) h
theorem QbG(l:List (List (Nat×Int)×Int)):(l.flatMap coC).length=l.length*3:=Qa8 (k:=3) (fun _=>rfl) l
theorem conds32(c:Cel)(h:WfCel c):PSpec Tryz.prog 32 [cdV (szs c) c.xs c.ks] (.int .i64 0):=by
 have a:=@Qdq (szs c) c.xs c.ks;refine Zb3 64 SQ.ok32 rfl (by rw[noRefs,noRef,a];rfl) rfl ?_;have A:=h.slen;have G:=h.c3;have q:=h.x2;have u:=h.k1;have I:¬(8:Int)<((szs c).length:Int):=by omega
 have H:¬(32:Int)<(c.xs.length:Int):=by omega
 have w:¬(32:Int)<(c.ks.length:Int):=by omega
 have v:∀x∈c.xs,x.2≠[]/\x.2.length<=3:=fun x g=>⟨(h.xl x g).1,h.xlen g⟩;unfold SQ.s32;refine Zcy I ?_;refine Qaj 100 (fun i:Nat=>[(1,.ptr 50 0 0),(20,sliN (szs c)),(21,.int .i64 (szs c).length),(22,.int .i64 i)]) (fun _=>[(50,.cells 0 (cdC (szs c) c.xs c.ks))]) (fun i=>i<=(szs c).length) (fun i=>(szs c).length-i) 0 0 140 (fun _:Unit=>[(1,.ptr 50 0 0)]) (fun _=>[(50,.cells 0 (cdC (szs c) c.xs c.ks))]) (fun _=>True) ⟨[(50,.blk 64 0)],rfl,au0,?_,au16⟩ (Zah _) ?_ ?_;·exact Zca rfl rfl gg (Zb1 a) Zb9
 ·rintro i hi;by_cases b:i<(szs c).length
  ·obtain⟨s,n⟩:=Qac b;obtain⟨J,E⟩:=h.sz s (Zae n);have q1:¬(s:Int)<1:=by omega
   have q2:¬(4096:Int)<(s:Int):=by omega
   refine Zcy (ZcB b (QaP n) @q1 @q2) ?_;refine⟨i+1,by omega,by omega,?_⟩;refine⟨[(50,.blk 50 0)],rfl,au0,?_,au16⟩;exact Zca rfl rfl gg (Zb1 a) Zb9
  refine Zcy b ?_;refine⟨(),?_⟩;refine⟨[(50,.blk 50 0)],rfl,au0,?_,au16⟩;exact Zca rfl rfl gg (Zb1 a) Zb9
 rintro _ _;refine Zcy (Zcz H w) ?_;refine Qaj 200 (fun i:Nat=>[(1,.ptr 50 0 0),(44,exs c.xs),(45,.int .i64 c.xs.length),(46,.int .i64 i)]) (fun _=>[(50,.cells 0 (cdC (szs c) c.xs c.ks))]) (fun i=>i<=c.xs.length) (fun i=>c.xs.length-i) 0 2 240 (fun _:Unit=>[(1,.ptr 50 0 0)]) (fun _=>[(50,.cells 0 (cdC (szs c) c.xs c.ks))]) (fun _=>True) ⟨[(50,.blk 50 0)],rfl,au0,?_,au16⟩ (Zah _) ?_ ?_;·exact Zca rfl rfl gg (Zb1 a) Zb9
 ·rintro i hi;by_cases b:i<c.xs.length
  ·obtain⟨x,g⟩:=Qac b;have d:=Zae g;have f:=Qc4 g;have j:2<=((c.xs.flatMap exC).drop (i*2)).length:=by rw[f];simp
   have o:=SN.nameX g q h.xn.1 h.xn.2 v a;have m:=excl103 (szs c) c.xs c.ks x (by omega) (fun s n=>by have:=h.sz s n;omega) (by have:=h.xlen d;omega) (h.xl x d).1 (h.xl x d).2.1 (h.comp d);have hex:exC x=[.str [101,UInt8.ofNat (48+x.1)],los x.2]:=rfl;rw[hex]at m;refine Zcy (ZcA b f j) ?_;refine SU.chc (Zcj (Zcl (Zb4 _) (Zcl (FrzTo.fn Zck (Zcl (Zci (g:=0) (cs:=cdC (szs c) c.xs c.ks) gg (Zb5 _)) (Zcl (Zci (g:=0) (cs:=[.int .i64 (i:Int)]) gg (Zb5 _)) Zck))) Zck)) o rfl) ?_;refine Zcx ?_;refine cp m ?_;refine Zcx ?_;refine⟨i+1,by omega,by omega,?_⟩;refine⟨[(50,.blk 50 0)],rfl,au0,?_,au16⟩;exact Zca rfl rfl gg (Zb1 a) Zb9
  refine Zcy b ?_;refine⟨(),?_⟩;refine⟨[(50,.blk 50 0)],rfl,au0,?_,au16⟩;exact Zca rfl rfl gg (Zb1 a) Zb9
 rintro _ _;refine Zcx ?_;refine Qay 300 (fun i:Nat=>[(1,.ptr 50 0 0),(67,cos c.ks),(68,.int .i64 c.ks.length),(69,.int .i64 i)]) (fun _=>[(50,.cells 0 (cdC (szs c) c.xs c.ks))]) (fun i=>i<=c.ks.length) (fun i=>c.ks.length-i) 0 ⟨[(50,.blk 50 0)],rfl,au0,?_,au16⟩ (Zah _) ?_;·exact Zca rfl rfl gg (Zb1 a) Zb9
 rintro i hi;by_cases b:i<c.ks.length
 ·obtain⟨x,g⟩:=Qac b;have p:i=0:=by omega
  subst p;have d:=Zae g;have f:=Qc5 g;rw[Nat.zero_mul]at f;have j:3<=(c.ks.flatMap coC).length:=by rw[QbG];omega
  have t:c.ks=[x]:=by match M:c.ks,g,u with|[y],g,_=>simp at g;rw[g]
  have o:=SN.nameK (S:=sliN (szs c)) (X:=exs c.xs) t a;obtain⟨F,z,C,K,N⟩:=h.kl x d;have m:=cons105 (szs c) c.xs c.ks x (by omega) (by have:=h.klen d;omega) F z (fun l B=>by obtain⟨q1,q2,O,L⟩:=C l B;exact⟨by omega,q2,by omega,by omega⟩) ⟨by omega,by omega⟩;have hex:coC x=[.str [107],tes x.1,.int .i64 x.2]:=rfl;rw[hex]at m;have k:(0:Int)<(c.ks.length:Int):=by omega
  rw[Za2]at f;have r:List.take 3 (c.ks.flatMap coC)=[.str [107],tes x.1,.int .i64 x.2]:=by rw[f];rfl
  refine Zcy (ZcB b k r j) ?_;refine SU.chc (Zcj (Zcl (Zb4 _) (Zcl (FrzTo.fn Zck (Zcl (Zci (g:=0) (cs:=cdC (szs c) c.xs c.ks) gg (Zb5 _)) (Zcl (Zci (g:=0) (cs:=[.int .i64 0]) gg (Zb5 _)) Zck))) Zck)) o rfl) ?_;refine Zcx ?_;refine cp m ?_;refine Zcx ?_;refine⟨1,by omega,by omega,?_⟩;refine⟨[(50,.blk 50 0)],rfl,au0,?_,au16⟩;exact Zca rfl rfl gg (Zb1 a) Zb9
 refine Zcy b ?_;exact⟨.inr trivial,_,rfl,rfl⟩
end Go.AM.SO
namespace Go.AM.SO
open Go.Proofs Go.AM.SD Go.AM.SE
theorem _root_.Go.AM.Zcu{p q A:Prop}(a:A)(k:q)(h:A->p=q:=by intro a;conv=>lhs;simp(disch:=first|omega|exact PairsOK.mk rfl|(simp only[lenW]<;>omega))only[a,Zav,wW,wV,simprocAttr]):p:=h a▸k
theorem QbK{α:Type}{f:α->List AV}(hf:∀x,(f x).all AV.one=true):∀l:List α,(l.flatMap f).all AV.one=true|[]=>rfl|x::l=>by rw[Zay,List.all_append,hf,QbK hf l];rfl
theorem clone148(l:List (Nat×Nat))(f:l.length<=1000)(c:l≠[]):PSpec Tryz.prog 148 [los l] (los l):=by
 refine Zb2 100 ok148 rfl (by rw[noRefs,SU.Qd6];rfl) (SU.Qd6 _) ?_;have d:aEqN false (los l)=.ret (.bool false):=by match l,c with|x::l,_=>rfl
 have a:(l.flatMap loC).all AV.one=true:=QbK (fun _=>rfl) l;have b:=SU.QbP l;unfold s148;refine Zcy (ZcA d a b) ?_;exact⟨.inr trivial,_,rfl,Rn.fz0 rfl b (Zb1 (SU.QaD _))⟩
theorem clone149(l:List (Nat×Int))(f:l.length<=1000)(c:l≠[]):PSpec Tryz.prog 149 [tes l] (tes l):=by
 refine Zb2 100 ok149 rfl (by rw[noRefs,SU.Qdp];rfl) (SU.Qdp _) ?_;have d:aEqN false (tes l)=.ret (.bool false):=by match l,c with|x::l,_=>rfl
 have a:(l.flatMap teC).all AV.one=true:=QbK (fun _=>rfl) l;have b:=SU.Qbm l;unfold s149;refine Zcy (ZcA d a b) ?_;exact⟨.inr trivial,_,rfl,Rn.fz0 rfl b (Zb1 (SU.Qat _))⟩
theorem take_succ'{α:Type}{l:List α}{i:Nat}{x:α}(h:l[i]?=some x):l.take (i+1)=l.take i++[x]:=by rw[Zbe,h];rfl
theorem Qqq{x:Nat×List (Nat×Nat)}:List.flatMap exC [x]=[.str [101,UInt8.ofNat (48+x.1)],los x.2]:=rfl
theorem Qqr{x:List (Nat×Int)×Int}:List.flatMap coC [x]=[.str [107],tes x.1,.int .i64 x.2]:=rfl
theorem conds85(c:Cel)(h:WfCel c):PSpec Tryz.prog 85 [celV c] (cdV (szs c) c.xs c.ks):=by
 have g:noRefs [evsV c.ev,its 99 c.cs,its 114 c.rs,exs c.xs,cos c.ks]=true:=by have:=SU.Qa5 c;rwa[celV,noRef]at this
 refine Zb2 64 ok85 rfl (by rw[noRefs,SU.Qa5];rfl) (by rw[noRef];exact Qdq) ?_;have u:=h.c3;have v:=h.x2;have t:=h.k1;have s:=@SU.QbF 99 c.cs;have r:=SU.Qbr c.xs;have w:=QbG c.ks;unfold s85;refine Zcx ?_;refine Qaj 100 (fun i:Nat=>[(1,.ptr 50 0 0),(2,.ptr 51 0 0),(3,.ptr 52 0 0),(12,its 99 c.cs),(13,.int .i64 c.cs.length),(14,.int .i64 i)]) (fun i=>[(50,.cells 0 [evsV c.ev,its 99 c.cs,its 114 c.rs,exs c.xs,cos c.ks]),(51,.cells 0 [.nilsl,.nilsl,.nilsl]),(52,.cells 0 [.sl 76 0 0 (szs c|>.take i).length 1,.nilsl,.nilsl]),(76,.cells 0 (ints (nz ((szs c).take i))))]) (fun i=>i<=c.cs.length) (fun i=>c.cs.length-i) 0 0 160 (fun _:Unit=>[(1,.ptr 50 0 0),(2,.ptr 51 0 0),(3,.ptr 52 0 0)]) (fun _=>[(50,.cells 0 [evsV c.ev,its 99 c.cs,its 114 c.rs,exs c.xs,cos c.ks]),(51,.cells 0 [.nilsl,.nilsl,.nilsl]),(52,.cells 0 [sliN (szs c),.nilsl,.nilsl])]) (fun _=>True) ⟨[(50,.blk 64 0),(51,.blk 65 0),(52,.blk 67 0),(76,.nil)],rfl,au0,?_,au16⟩ (Zah _) ?_ ?_;·exact Zca rfl rfl gg (Zb1 g) (Zca rfl rfl gg (Zb1 rfl) (Zca rfl rfl gg (Zcg (Rn.x4 rfl rfl) (Zb1 rfl)) (Zcb rfl rfl Zb9)))
 ·rintro i hi;by_cases a:i<c.cs.length
  ·obtain⟨x,m⟩:=Qac a;have d:=SU.QdF (ch:=99) m;have l:5<=((c.cs.flatMap (itC 99)).drop (i*5)).length:=by rw[d];simp
   have p:(szs c)[i]?=some x.2.n:=by unfold szs;rw[ZaV,m];rfl
   have f:=take_succ' p;have b:((szs c).take i).length=i:=by rw[Zar,h.slen];omega
   have q:=@SU.Qdu [99,UInt8.ofNat (48+x.1)] x.2;refine Zcy (ZcB a d l b) ?_;refine⟨i+1,by omega,by omega,?_⟩;rw[f,Zai,QaL,QaA,b];refine⟨[(50,.blk 50 0),(51,.blk 51 0),(52,.blk 52 0),(76,.blk 76 1)],rfl,au0,?_,au16⟩;exact Zca rfl rfl gg (Zb1 g) (Zca rfl rfl gg (Zb1 rfl) (Zca rfl rfl gg (Zcg (Rn.x1 rfl rfl) (Zb1 rfl)) (Zca rfl rfl gg (Zb1 (SU.QaB (Qaa _) rfl)) Zb9)))
  have e:i=c.cs.length:=by omega
  subst e;have o:(szs c).take c.cs.length=szs c:=by rw[<-h.slen,Zav]
  refine Zcy (Zcz a o) ?_;refine⟨(),?_⟩;refine⟨[(50,.blk 50 0),(51,.blk 51 0),(52,.blk 52 0)],rfl,au0,?_,au16⟩;exact Zca rfl rfl gg (Zb1 g) (Zca rfl rfl gg (Zb1 rfl) (Zca rfl rfl gg (Zcg (Zch rfl rfl rfl rfl (by simp[ints]) (Zb1 (Qaa _))) (Zb1 rfl)) Zb9))
 rintro _ _;refine Zcx ?_;refine Qaj 200 (fun i:Nat=>[(1,.ptr 50 0 0),(2,.ptr 51 0 0),(3,.ptr 52 0 0),(28,exs c.xs),(29,.int .i64 c.xs.length),(30,.int .i64 i)]) (fun i=>[(50,.cells 0 [evsV c.ev,its 99 c.cs,its 114 c.rs,exs c.xs,cos c.ks]),(51,.cells 0 [.nilsl,.nilsl,.nilsl]),(52,.cells 0 [sliN (szs c),.sl 77 0 0 (c.xs.take i).length 2,.nilsl]),(77,.cells 0 ((c.xs.take i).flatMap exC))]) (fun i=>i<=c.xs.length) (fun i=>c.xs.length-i) 0 2 260 (fun _:Unit=>[(1,.ptr 50 0 0),(2,.ptr 51 0 0),(3,.ptr 52 0 0)]) (fun _=>[(50,.cells 0 [evsV c.ev,its 99 c.cs,its 114 c.rs,exs c.xs,cos c.ks]),(51,.cells 0 [.nilsl,.nilsl,.nilsl]),(52,.cells 0 [sliN (szs c),exs c.xs,.nilsl])]) (fun _=>True) ⟨[(50,.blk 50 0),(51,.blk 51 0),(52,.blk 52 0),(77,.nil)],rfl,au0,?_,au16⟩ (Zah _) ?_ ?_;·exact Zca rfl rfl gg (Zb1 g) (Zca rfl rfl gg (Zb1 rfl) (Zca rfl rfl gg (Zcg (Zb0 (Qab _)) (Zcg (Rn.x4 rfl rfl) (Zb1 rfl))) (Zcb rfl rfl Zb9)))
 ·rintro i hi;by_cases a:i<c.xs.length
  ·obtain⟨x,m⟩:=Qac a;have k:=Zae m;have d:=Qc4 m;have l:2<=((c.xs.flatMap exC).drop (i*2)).length:=by rw[d];simp
   have f:=take_succ' m;have b:(c.xs.take i).length=i:=by rw[Zar];omega
   have n:=clone148 x.2 (by have:=h.xlen k;omega) (h.xl x k).1;have j:=SU.Qbr (c.xs.take i);rw[b]at j;refine Zcy (ZcB a d l b) ?_;refine cp n ?_;refine Zcy j ?_;refine⟨i+1,by omega,by omega,?_⟩;rw[f,Zai,Zaq,b,Qqq];refine⟨[(50,.blk 50 0),(51,.blk 51 0),(52,.blk 52 0),(77,.blk 77 1)],rfl,au0,?_,au16⟩;exact Zca rfl rfl gg (Zb1 g) (Zca rfl rfl gg (Zb1 rfl) (Zca rfl rfl gg (Zcg (Zb0 (Qab _)) (Zcg (Rn.x1 rfl rfl) (Zb1 rfl))) (Zca rfl rfl gg (Zb1 (SU.QaB (SU.Qar _) (by rw[noRefs,noRefs,SU.Qd6];rfl))) Zb9)))
  have e:i=c.xs.length:=by omega
  subst e;refine Zcu a ?_;refine⟨(),?_⟩;refine⟨[(50,.blk 50 0),(51,.blk 51 0),(52,.blk 52 0)],rfl,au0,?_,au16⟩;exact Zca rfl rfl gg (Zb1 g) (Zca rfl rfl gg (Zb1 rfl) (Zca rfl rfl gg (Zcg (Zb0 (Qab _)) (Zcg (Zch rfl rfl rfl rfl (SU.Qbr _) (Zb1 (SU.Qar _))) (Zb1 rfl))) Zb9))
 rintro _ _;refine Zcx ?_;refine Qaj 300 (fun i:Nat=>[(2,.ptr 51 0 0),(3,.ptr 52 0 0),(47,cos c.ks),(48,.int .i64 c.ks.length),(49,.int .i64 i)]) (fun i=>[(51,.cells 0 [.nilsl,.nilsl,.nilsl]),(52,.cells 0 [sliN (szs c),exs c.xs,.sl 78 0 0 (c.ks.take i).length 3]),(78,.cells 0 ((c.ks.take i).flatMap coC))]) (fun i=>i<=c.ks.length) (fun i=>c.ks.length-i) 0 4 360 (fun _:Unit=>[(2,.ptr 51 0 0),(3,.ptr 52 0 0)]) (fun _=>[(51,.cells 0 [.nilsl,.nilsl,.nilsl]),(52,.cells 0 [sliN (szs c),exs c.xs,cos c.ks])]) (fun _=>True) ⟨[(51,.blk 51 0),(52,.blk 52 0),(78,.nil)],rfl,au0,?_,au16⟩ (Zah _) ?_ ?_;·exact Zca rfl rfl gg (Zb1 rfl) (Zca rfl rfl gg (Zcg (Zb0 (Qab _)) (Zcg (Zb0 (SU.Qbn _)) (Zcg (Rn.x4 rfl rfl) Zcf))) (Zcb rfl rfl Zb9))
 ·rintro i hi;by_cases a:i<c.ks.length
  ·obtain⟨x,m⟩:=Qac a;have k:=Zae m;have d:=Qc5 m;have l:3<=((c.ks.flatMap coC).drop (i*3)).length:=by rw[d];simp
   have f:=take_succ' m;have b:(c.ks.take i).length=i:=by rw[Zar];omega
   have n:=clone149 x.1 (by have:=h.klen k;omega) (h.kl x k).1;have j:=QbG (c.ks.take i);rw[b]at j;refine Zcy (ZcB a d l b) ?_;refine cp n ?_;refine Zcy j ?_;refine⟨i+1,by omega,by omega,?_⟩;rw[f,Zai,Zaq,b,Qqr];refine⟨[(51,.blk 51 0),(52,.blk 52 0),(78,.blk 78 1)],rfl,au0,?_,au16⟩;exact Zca rfl rfl gg (Zb1 rfl) (Zca rfl rfl gg (Zcg (Zb0 (Qab _)) (Zcg (Zb0 (SU.Qbn _)) (Zcg (Rn.x1 rfl rfl) Zcf))) (Zca rfl rfl gg (Zb1 (SU.QaB (SU.QaI _) (by rw[noRefs,noRefs,SU.Qdp];rfl))) Zb9))
  have e:i=c.ks.length:=by omega
  subst e;refine Zcu a ?_;refine⟨(),?_⟩;refine⟨[(51,.blk 51 0),(52,.blk 52 0)],rfl,au0,?_,au16⟩;exact Zca rfl rfl gg (Zb1 rfl) (Zca rfl rfl gg (Zcg (Zb0 (Qab _)) (Zcg (Zb0 (SU.Qbn _)) (Zcg (Zch rfl rfl rfl rfl (QbG _) (Zb1 (SU.QaI _))) Zcf))) Zb9)
 rintro _ _;refine Zcx ?_;refine⟨.inr trivial,_,rfl,?_⟩;exact Zb0 (by rw[noRef];exact Qdq)
end Go.AM.SO
namespace Go.AM.SO
open Go.Proofs Go.AM.SD Go.AM.SE
def idxQ{α:Type}(q:α->Bool)(l:List α):Int:=if l.any q then(l.findIdx q:Int)else-1
theorem QiB{α:Type}{q:α->Bool}{l:List α}(h:∀x∈l,q x=false):idxQ q l=-1:=by unfold idxQ;rw[if_neg];rw[Zbl];rintro⟨x,b,a⟩;rw[h x b]at a;cases a
theorem QlN{α:Type}{q:α->Bool}{l:List α}{i:Nat}{x:α}(a:l[i]?=some x)(c:q x=true)(d:∀(j:Nat)y,j<i->l[j]?=some y->q y=false):idxQ q l=i:=by
 have b:i<l.length:=by
  rcases Zbd i l.length with h|h;·exact h
  rw[ZaA h]at a;cases a
 have h1:l.any q=true:=Zbl.2 ⟨x,Zae a,c⟩;have g:l.findIdx q=i:=by rw[List.findIdx_eq b];refine⟨by rw[Zad b]at a;cases a;exact c,fun j f=>d j l[j] f (Zad (by omega))⟩
 unfold idxQ;rw[if_pos h1,g]
theorem QlO{α:Type}{q:α->Bool}{l:List α}:decide (0<=idxQ q l)=l.any q:=by
 unfold idxQ;cases h:l.any q;·simp
 simp
theorem Qbw{K:Nat}{cap:List AV}(h:noRefs cap=true):noRef (.fn K [] cap)=true:=by simp only[noRef,noRefs,h];rfl
theorem index110{K:Nat}{cap:List AV}(q:Nat->Bool)(l:List Nat)(s:l.length<=1000000)(hc:noRefs cap=true)(r:∀x∈l,PSpec Tryz.prog K (.int .i64 (x:Int)::cap) (.bool (q x))):PSpec Tryz.prog 110 [sliN l,.fn K [] cap] (.int .i64 (idxQ q l)):=by
 refine Zb3 64 ok110 rfl (by rw[noRefs,noRefs,Qbw hc,(Qab _)];rfl) rfl ?_;have c:=Qbw (K:=K) hc;have o:=(show(ints (nz l)).length=l.length*1 by simp[ints]);unfold s110;refine Zcy @Zax ?_;refine Qay 100 (fun i:Nat=>[(0,sliN l),(1,.fn K [] cap),(7,.int .i64 l.length),(8,.int .i64 i)]) (fun _=>[]) (fun i=>i<=l.length/\∀(j:Nat)y,j<i->l[j]?=some y->q y=false) (fun i=>l.length-i) 0 ?_ ⟨Zah _,fun j y k=>absurd k (Zaw _)⟩ ?_;·exact⟨[],rfl,Zb6,Zb9,Zb8 (Zb0 (Qab _)) (Zb8 (Zb0 c) (Zb8 (Zb0 rfl) (Zb8 (Zb0 rfl) Zb7)))⟩
 rintro i⟨hi,m⟩;by_cases a:i<l.length
 ·obtain⟨x,b⟩:=Qac a;have h:=r x (Zae b);have d:=QaP b;have f:1<=(List.drop (i*1) (ints (nz l))).length:=by rw[ZaE,o];omega
  cases g:q x
  ·rw[g]at h;refine Zcy (ZcC a d f @Zbo @Zax) ?_;refine⟨_,by simpa using h,?_⟩;refine Zcy @Zax ?_;refine⟨i+1,by omega,⟨by omega,fun j y k n=>?_⟩,?_⟩
   ·by_cases e:j=i;·subst e;rw[b]at n;cases n;exact g
    exact m j y (by omega) n
   exact⟨[],rfl,Zb6,Zb9,Zb8 (Zb0 (Qab _)) (Zb8 (Zb0 c) (Zb8 (Zb0 rfl) (Zb8 (Zb0 rfl) Zb7)))⟩
  rw[g]at h;refine Zcy (ZcC a d f @Zbo @Zax) ?_;refine⟨_,by simpa using h,?_⟩;refine Zcy @Zax ?_;refine⟨.inr trivial,_,rfl,?_⟩;rw[QlN b g m];rfl
 refine Zcy (Zcz a @Zax) ?_;refine⟨.inr trivial,_,rfl,?_⟩;rw[QiB fun x b=>by obtain⟨j,k,p⟩:=ZaX b;exact m j x (by omega) (by rw[Zad k,p])];rfl
theorem contains36{K:Nat}{cap:List AV}(q:Nat->Bool)(l:List Nat)(a:l.length<=1000000)(hc:noRefs cap=true)(b:∀x∈l,PSpec Tryz.prog K (.int .i64 (x:Int)::cap) (.bool (q x))):PSpec Tryz.prog 36 [sliN l,.fn K [] cap] (.bool (l.any q)):=by
 refine Zb3 64 ok36 rfl (by rw[noRefs,noRefs,Qbw hc,Qab];rfl) rfl ?_;unfold s36;refine Zcy @Zax ?_;refine cp (index110 q l a hc b) ?_;have e:=@QlO Nat q l;cases h:l.any q;·rw[h,decide_eq_false_iff_not]at e;refine Zcy (Zcz e @Zax) ?_;exact⟨.inr trivial,_,rfl,rfl⟩
 rw[h,decide_eq_true_eq]at e;refine Zcy (Zcz e @Zax) ?_;exact⟨.inr trivial,_,rfl,rfl⟩
theorem ge166(x:Nat):PSpec Tryz.prog 166 [.int .i64 (x:Int),.fptr [.int .i64 5]] (.bool (decide (5<=x))):=by refine Zb3 64 ok166 rfl rfl rfl ?_;have e:decide ((5:Int)<=(x:Int))=decide (5<=x):=decide_eq_decide.2 (by omega);unfold s166;refine Zcy (Zcz e @Zax) ?_;exact⟨.inr trivial,_,rfl,rfl⟩
end Go.AM.SO
namespace Go.AM.SR
open Go.Proofs
set_option maxHeartbeats 4000000
noncomputable section
def cf:YA.Cf:={most:=.pure,always:=[36].map fun k=>(k,.heap)}
def s83:SFn:=by
 refine(?f:YA.Yt Tryz.prog cf 83 [[0,1,8],[11,12,13,14],[2,3,4,5,10],[10,16,17,18,19],[2,3,4,5,15],[8,3,15,20,21,22],[23,24,25],[26],[2,4,5,9,27,28],[8,9,27,30,31,32,33],[2,4,5,29],[29,35,36,37,38],[2,4,5,34],[5,34,40,41,42,43,44],[2,4,39],[2,4,39,46,47,48,49,50,51],[45],[45]]) ?s ?h;case h=>exact YA.rr
 exact fun s _=>s
theorem ok83:okFn Tryz.prog 83 s83=true:=by kernel_rfl
end
end Go.AM.SR
namespace Go.AM.SO
open Go.Proofs Go.AM.SD Go.AM.SE
theorem QnV{A B:List Nat}(hA:A.Pairwise (·<·))(c:B.Pairwise (·<·))(h:∀x∈A,x∈B):mrg (fun a b=>a&&!b) A B=[]:=by rw[List.eq_nil_iff_forall_not_mem];intro x d;obtain⟨h1,f⟩:=(Qa7 hA c).1 d;simp at h1;exact h1.2 (h x h1.1)
theorem Qhh{a:Aut}(h:WfA a):a.al.length<=5:=QaN 5 a.al (by rw[ZaJ];exact h.al.imp fun h=>by omega) h.al5
abbrev nmsB(l:List (List UInt8)):Blk:=.map 0 (mapS yes l)
theorem item83(i:List UInt8)(a:Aut)(B:List Nat)(names:List (List UInt8))(h:WfI a)(r:PSpec Tryz.prog 135 [.str i] (.bool true))(l:i∉names)(s:names.length<=100)(m:B.Pairwise (·<·))(j:B.length<=1000000)(o:∀x∈a.al,x∈B):HSpec Tryz.prog 83 [.agg [.str i,sliN a.al,.int .i64 (a.n:Int),sliN a.ms,egsN a.es],.int .i64 5,sliN B,.map 68 0] (hp [(68,nmsB names)]) (.int .i64 0) (hp [(68,nmsB (names++[i]))]):=by
 have p:=Qhh h.wf;have f:a.es.length<=1000000:=ZaI h.el (by decide);have t:=check112 a h.wf f;have q:=isCanon60 a h.wf f h.can;have n:=h.pos;have k:¬(a.n:Int)=0:=by omega
 have d:=contains36 (K:=166) (cap:=[.fptr [.int .i64 5]]) (fun x=>decide (5<=x)) a.al (by omega) rfl (fun x _=>ge166 x);have g:a.al.any (fun x=>decide (5<=x))=false:=by rw[Zbx];intro x u;have:=h.wf.al5 x u;simp;omega
 rw[g]at d;have b:=subset167 a.al B (by omega) j;rw[QnV h.wf.al m o]at b;have c:PSpec Tryz.prog 167 [sliN a.al,sliN B] (.bool true):=b;refine HSpec.Qfn (m:=69) 100 SR.ok83 rfl rfl rfl ?_;unfold SR.s83;refine Zcx ?_;refine cp r ?_;refine Zcx ?_;refine QcO gg l ?_;refine Zcx ?_;refine QbO gg l (by omega) ?_;refine Zcy @Qc3 ?_;refine cp t ?_;refine Zcx ?_;refine cp q ?_;refine Zcy k ?_;refine SU.chc (Zcj (Zcl (Zb4 _) (Zcl (FrzTo.fn Zck (Zcl (Zci (g:=0) (cs:=[.int .i64 5]) gg (Zb5 _)) Zck)) Zck)) d rfl) ?_;refine Zcx ?_;refine cp c ?_;refine Zcx ?_;refine⟨.inr trivial,_,rfl,rfl,?_⟩;refine⟨[(68,.nil)],rfl,au0,?_,au16⟩;exact Zce rfl gg (Zco fun _ _=>Zb0 rfl) Zb9
theorem item83F{h:Heap}(b:List UInt8)(a:Aut)(B:List Nat)(names:List (List UInt8))(hw:WfI a)(k:PSpec Tryz.prog 135 [.str b] (.bool true))(g:b∉names)(f:names.length<=100)(j:B.Pairwise (·<·))(d:B.length<=1000000)(i:∀x∈a.al,x∈B)(c:h.get 68=some (nmsB names)):HSpec Tryz.prog 83 [.agg [.str b,sliN a.al,.int .i64 (a.n:Int),sliN a.ms,egsN a.es],.int .i64 5,sliN B,.map 68 0] h (.int .i64 0) (h.set 68 (nmsB (names++[b]))):=by
 have hm:∀(l:List (List UInt8)),∀e∈mapS yes l,noRef e.1=true/\noRef e.2=true:=fun l e he=>by unfold mapS at he;obtain⟨x,_,rfl⟩:=Zas.1 he;exact⟨rfl,rfl⟩
 exact HSpec.frameM (item83 b a B names hw k g f j d i) (Zcn (OnlyD.same (by rw[noRef];exact SU.Qdu)) (Zcn (OnlyD.same rfl) (Zcn (OnlyD.same (Qab _)) (Zcn (OnlyD.map rfl) OnlyD.nil)))) (OnlyD.same rfl) (hm _) (hm _) c rfl
end Go.AM.SO
namespace Go.AM.SO
open Go.Proofs Go.AM.SD Go.AM.SE
def uUp(l:List (Nat×Aut)):List Nat:=l.foldl (fun out x=>mrg (fun a b=>a||b) out x.2.al) []
theorem QhH:∀{l:List (Nat×Aut)}{out:List Nat},out.Pairwise (·<·)->(∀x∈l,x.2.al.Pairwise (·<·))->(l.foldl (fun out x=>mrg (fun a b=>a||b) out x.2.al) out).Pairwise (·<·)/\∀e,e∈l.foldl (fun out x=>mrg (fun a b=>a||b) out x.2.al) out↔e∈out\/∃y∈l,e∈y.2.al
 |[],out,h,_=>⟨h,fun e=>by simp⟩|x::l,out,h,f=>by
  have d:=f x (by simp);obtain⟨h1,g⟩:=QhH (l:=l) (QbE (k:=fun a b=>a||b) h d) fun y i=>f y (by simp[i]);refine⟨h1,fun e=>?_⟩;rw[Za1,g e,Qa7 h d];simp only[ZaF,exists_eq_or_imp,Zbc,decide_eq_true_eq];constructor
  ·rintro(⟨c,_⟩|c)
   ·rcases c with c|c;·exact .inl c
    exact .inr (.inl c)
   exact .inr (.inr c)
  rintro(c|c|c);·exact .inl ⟨.inl c,.inl c⟩
  ·exact .inl ⟨.inr c,.inr c⟩
  exact .inr c
theorem Qhi{l:List (Nat×Aut)}(h:∀x∈l,WfI x.2):(uUp l).Pairwise (·<·):=(QhH (by simp) fun x a=>(h x a).wf.al).1
theorem QlP{l:List (Nat×Aut)}(h:∀x∈l,WfI x.2){e:Nat}:e∈uUp l↔∃y∈l,e∈y.2.al:=by have:=(QhH (l:=l) (out:=[]) (by simp) fun x a=>(h x a).wf.al).2 e;simpa[uUp]using this
theorem QlQ{l:List (Nat×Aut)}(h:∀x∈l,WfI x.2):(uUp l).length<=5:=by refine QaN 5 _ (by rw[ZaJ];exact(Qhi h).imp fun h=>by omega) fun x a=>?_;obtain⟨y,b,he⟩:=(QlP h).1 a;exact(h y b).wf.al5 x he
theorem QoL{l:List (Nat×Aut)}{i:Nat}{x:Nat×Aut}(h:l[i]?=some x):uUp (l.take (i+1))=mrg (fun a b=>a||b) (uUp (l.take i)) x.2.al:=by unfold uUp;rw[take_succ' h,List.foldl_append];rfl
def nmsI(ch:UInt8)(l:List (Nat×Aut)):List (List UInt8):=l.map fun x=>[ch,UInt8.ofNat (48+x.1)]
theorem Qj8{ch:UInt8}{l:List (Nat×Aut)}{i:Nat}{x:Nat×Aut}(h:l[i]?=some x):nmsI ch (l.take (i+1))=nmsI ch (l.take i)++[[ch,UInt8.ofNat (48+x.1)]]:=by unfold nmsI;rw[take_succ' h,ZaQ];rfl
theorem Qpv{a b:Nat}(c:a<10)(d:b<10)(h:UInt8.ofNat (48+a)=UInt8.ofNat (48+b)):a=b:=by have:=congrArg UInt8.toNat h;simp at this;omega
theorem Qhj{l:List (Nat×Aut)}(h:l.map (·.1)=List.range l.length){i:Nat}{x:Nat×Aut}(a:l[i]?=some x):x.1=i/\i<l.length:=by
 have hi:i<l.length:=by
  rcases Zbd i l.length with h|h;·exact h
  rw[ZaA h]at a;cases a
 have h1:(l.map (·.1))[i]?=some x.1:=by rw[ZaV,a];rfl
 rw[h,ZbQ hi]at h1;cases h1;exact⟨rfl,hi⟩
theorem QlR{ch:UInt8}{l:List (Nat×Aut)}(h:l.map (·.1)=List.range l.length)(k:l.length<=9){i:Nat}{x:Nat×Aut}(b:l[i]?=some x):[ch,UInt8.ofNat (48+x.1)]∉nmsI ch (l.take i):=by intro hm;obtain⟨y,d,he⟩:=Zas.1 hm;obtain⟨j,c,a⟩:=ZaX d;rw[Zar]at c;rw[List.getElem_take]at a;obtain⟨n,m⟩:=Qhj h b;obtain⟨f,g⟩:=Qhj h (i:=j) (x:=y) (by rw[<-a];exact Zad (by omega));have:=Qpv (a:=y.1) (b:=x.1) (by omega) (by omega) (by simpa using he);omega
theorem QnW{a b:UInt8}(c:a≠b){s:UInt8}{l:List (Nat×Aut)}:[a,s]∉nmsI b l:=by intro hm;obtain⟨y,d,he⟩:=Zas.1 hm;simp at he;exact c he.1.symm
theorem QjZ{i:Nat}(h:i<3):PSpec Tryz.prog 135 [.str [99,UInt8.ofNat (48+i)]] (.bool true):=by
 have:i=0\/i=1\/i=2:=by omega
 rcases this with rfl|rfl|rfl;·exact SP.Qpf
 ·exact SP.Qpg
 exact SP.Qph
theorem Qqs{i:Nat}(h:i<2):PSpec Tryz.prog 135 [.str [114,UInt8.ofNat (48+i)]] (.bool true):=by
 have:i=0\/i=1:=by omega
 rcases this with rfl|rfl;·exact SP.Qpi
 exact SP.Qpj
theorem QcI{m:Nat}{π:Nat->Option Src}{h:Heap}:RnM m π h (mapS yes []) []:=trivial
theorem Qcl(c:Cel):noRefs [evsV c.ev,its 99 c.cs,its 114 c.rs,exs c.xs,cos c.ks]=true:=by have:=SU.Qa5 c;rwa[celV,noRef]at this
theorem check21(c:Cel)(h:WfCel c):PSpec Tryz.prog 21 [celV c] (.int .i64 0):=by
 have a:=Qcl c;refine Zb3 64 ok21 rfl (by rw[noRefs,SU.Qa5];rfl) rfl ?_;have B:=check82 c.ev h.ev;have G:=h.c0;have F:=h.c3;have E:=h.r2;have z:¬(c.cs.length:Int)=0:=by omega
 have A:¬(8:Int)<(c.cs.length:Int):=by omega
 have C:¬(12:Int)<(c.cs.length:Int)+(c.rs.length:Int):=by omega
 have u:=conds85 c h;have r:=conds32 c h;unfold s21;refine Zcx ?_;refine cp B ?_;refine Zcy (ZcA z A C) ?_;refine Qaj 140 (fun i:Nat=>[(1,.ptr 50 0 0),(5,.map 68 0),(6,.sl 76 0 0 i 1),(7,.nilsl),(41,.int .i64 5),(42,.int .i64 i)]) (fun i=>[(50,.cells 0 [evsV c.ev,its 99 c.cs,its 114 c.rs,exs c.xs,cos c.ks]),(68,nmsB []),(76,.cells 0 (ints (nz (List.range i))))]) (fun i=>i<=5) (fun i=>5-i) 0 1 180 (fun _:Unit=>[(1,.ptr 50 0 0),(5,.map 68 0),(6,sliN (List.range 5)),(7,sliN [])]) (fun _=>[(50,.cells 0 [evsV c.ev,its 99 c.cs,its 114 c.rs,exs c.xs,cos c.ks]),(68,nmsB [])]) (fun _=>True) ?_ (Zah _) ?_ ?_;·refine⟨[(50,.blk 64 0),(68,.blk 90 0),(76,.nil)],rfl,au0,?_,au16⟩;exact Zca rfl rfl gg (Zb1 a) (Zcc rfl rfl gg QcI (Zcb rfl rfl Zb9))
 ·rintro i hi;by_cases b:i<5
  ·have p:(i:Int)<5:=by omega
   have q:(ints (nz (List.range i))).length=i:=by simp[ints]
   simp(disch:=first|omega|(simp only[lenW]<;>omega))only[p,List.length_range,q,wW,wV,simprocAttr];refine⟨i+1,by omega,by omega,?_⟩;rw[ZaP,QaL,QaA];refine⟨[(50,.blk 50 0),(68,.blk 68 0),(76,.blk 76 1)],rfl,au0,?_,au16⟩;exact Zca rfl rfl gg (Zb1 a) (Zcc rfl rfl gg QcI (Zca rfl rfl gg (Zb1 (SU.QaB (Qaa _) rfl)) Zb9))
  have e:i=5:=by omega
  subst e;refine Zcx ?_;refine⟨(),[(50,.blk 50 0),(68,.blk 68 0)],rfl,Zb6,?_,?_⟩;·exact Zca rfl rfl gg (Zb1 a) (Zcc rfl rfl gg QcI Zb9)
  exact Zb8 (Rn.x2 rfl rfl) (Zb8 (Rn.x3 rfl rfl) (Zb8 (Rn.fz (b:=76) (g:=0) gg rfl rfl rfl (Zb1 rfl)) (Zb8 Rn.nilK Zb7)))
 rintro _ _;refine Zcx ?_;refine Qaj 240 (fun i:Nat=>[(1,.ptr 50 0 0),(5,.map 68 0),(6,sliN (List.range 5)),(7,sliN (uUp (c.cs.take i))),(51,its 99 c.cs),(52,.int .i64 c.cs.length),(53,.int .i64 i)]) (fun i=>[(50,.cells 0 [evsV c.ev,its 99 c.cs,its 114 c.rs,exs c.xs,cos c.ks]),(68,nmsB (nmsI 99 (c.cs.take i)))]) (fun i=>i<=c.cs.length) (fun i=>c.cs.length-i) 0 3 280 (fun _:Unit=>[(1,.ptr 50 0 0),(5,.map 68 0),(7,sliN (uUp c.cs))]) (fun _=>[(50,.cells 0 [evsV c.ev,its 99 c.cs,its 114 c.rs,exs c.xs,cos c.ks]),(68,nmsB (nmsI 99 c.cs))]) (fun _=>True) ?_ (Zah _) ?_ ?_;·refine⟨[(50,.blk 50 0),(68,.blk 68 0)],rfl,au0,?_,au16⟩;exact Zca rfl rfl gg (Zb1 a) (Zcc rfl rfl gg QcI Zb9)
 ·rintro i hi;by_cases b:i<c.cs.length
  ·obtain⟨x,f⟩:=Qac b;have l:=Zae f;have k:=SU.QdF (ch:=99) f;have n:5<=((c.cs.flatMap (itC 99)).drop (i*5)).length:=by rw[k];simp
   have g:=h.ca x l;have t:=Qhj h.cn f;have m:(nmsI 99 (c.cs.take i)).length<=100:=by simp[nmsI];omega
   have s:=QjZ (i:=x.1) (by omega);have j:=QlR (ch:=99) h.cn (by omega) f;have d:(uUp (c.cs.take i)).length<=1000000:=by have:=QlQ (l:=c.cs.take i) fun y w=>h.ca y (ZaR w);omega
   have v:=union84 (uUp (c.cs.take i)) x.2.al d (by have:=Qhh g.wf;omega);rw[<-QoL f]at v;have o:=Qj8 (ch:=99) f;refine Zcy (ZcA b k n) ?_;refine SU.chc (item83F _ _ _ _ g s j m List.pairwise_lt_range (by decide) (fun e he=>ZaT.2 (g.wf.al5 e he)) gg) ?_;refine Zcx ?_;refine cp v ?_;refine Zcx ?_;refine⟨i+1,by omega,by omega,?_⟩;rw[o];refine⟨[(50,.blk 50 0),(68,.blk 68 0)],rfl,au0,?_,au16⟩;exact Zca rfl rfl gg (Zb1 a) (Zcc rfl rfl gg (Zco fun _ _=>Zb0 rfl) Zb9)
  have e:i=c.cs.length:=by omega
  subst e;refine Zcu b ?_;refine⟨(),?_⟩;refine⟨[(50,.blk 50 0),(68,.blk 68 0)],rfl,au0,?_,au16⟩;exact Zca rfl rfl gg (Zb1 a) (Zcc rfl rfl gg (Zco fun _ _=>Zb0 rfl) Zb9)
 rintro _ _;refine Zcx ?_;refine Qaj 340 (fun i:Nat=>[(1,.ptr 50 0 0),(5,.map 68 0),(7,sliN (uUp c.cs)),(74,its 114 c.rs),(75,.int .i64 c.rs.length),(76,.int .i64 i)]) (fun i=>[(50,.cells 0 [evsV c.ev,its 99 c.cs,its 114 c.rs,exs c.xs,cos c.ks]),(68,nmsB (nmsI 99 c.cs++nmsI 114 (c.rs.take i)))]) (fun i=>i<=c.rs.length) (fun i=>c.rs.length-i) 0 5 380 (fun _:Unit=>[(1,.ptr 50 0 0)]) (fun _=>[(50,.cells 0 [evsV c.ev,its 99 c.cs,its 114 c.rs,exs c.xs,cos c.ks])]) (fun _=>True) ?_ (Zah _) ?_ ?_;·rw[show nmsI 99 c.cs++nmsI 114 (c.rs.take 0)=nmsI 99 c.cs by simp[nmsI]];refine⟨[(50,.blk 50 0),(68,.blk 68 0)],rfl,au0,?_,au16⟩;exact Zca rfl rfl gg (Zb1 a) (Zcc rfl rfl gg (Zco fun _ _=>Zb0 rfl) Zb9)
 ·rintro i hi;by_cases b:i<c.rs.length
  ·obtain⟨x,f⟩:=Qac b;have l:=Zae f;have k:=SU.QdF (ch:=114) f;have n:5<=((c.rs.flatMap (itC 114)).drop (i*5)).length:=by rw[k];simp
   have g:=h.ra x l;have t:=Qhj h.rn f;have m:(nmsI 99 c.cs++nmsI 114 (c.rs.take i)).length<=100:=by simp[nmsI];omega
   have s:=Qqs (i:=x.1) (by omega);have j:[114,UInt8.ofNat (48+x.1)]∉nmsI 99 c.cs++nmsI 114 (c.rs.take i):=by
    intro hm;rcases Zbf.1 hm with hm|hm;·exact QnW (by decide) hm
    exact QlR (ch:=114) h.rn (by omega) f hm
   have d:(uUp c.cs).length<=1000000:=by have:=QlQ (l:=c.cs) h.ca;omega
   have o:=Qj8 (ch:=114) f;refine Zcy (ZcA b k n) ?_;refine SU.chc (item83F _ _ _ _ g s j m (Qhi h.ca) d (fun e he=>(QlP h.ca).2 (h.rsub x l e he)) gg) ?_;refine Zcx ?_;refine⟨i+1,by omega,by omega,?_⟩;rw[o,<-ZaM];refine⟨[(50,.blk 50 0),(68,.blk 68 0)],rfl,au0,?_,au16⟩;exact Zca rfl rfl gg (Zb1 a) (Zcc rfl rfl gg (Zco fun _ _=>Zb0 rfl) Zb9)
  refine Zcy b ?_;refine⟨(),?_⟩;refine⟨[(50,.blk 50 0)],rfl,au0,?_,au16⟩;exact Zca rfl rfl gg (Zb1 a) Zb9
 rintro _ _;refine Zcx ?_;refine cp u ?_;refine Zcx ?_;refine cp r ?_;refine Zcx ?_;exact⟨.inr trivial,_,rfl,rfl⟩
end Go.AM.SO
namespace Go.AM.SO
open Go.Proofs Go.AM.SD Go.AM.SE
def auC(a:Aut):List AV:=[sliN a.al,.int .i64 (a.n:Int),sliN a.ms,egsN a.es]
theorem QqI(l:List Aut):noRefs (l.flatMap auC)=true:=QaJ (fun x=>by simp only[auC,noRefs,noRef,Qaa,Qad];rfl) l
end Go.AM.SO
namespace Go.AM.SO
open Go.Proofs Go.AM.SD Go.AM.SE
theorem QkT{α:Type}{f:α->AV}(h:∀x,noRef (f x)=true)(l:List α):noRefs (l.map f)=true:=by induction l with|nil=>rfl|cons x l a=>simp only[ZaW,noRefs,h,a];rfl
theorem QqL{x y:List AV}:(AV.fmap x y).cells=[.fmap x y]:=rfl
theorem QqM{x y:List AV}:(AV.fmap x y).one=true:=rfl
theorem QqN{x y:List AV}:(AV.fmap x y).boxable=true:=rfl
end Go.AM.SO
namespace Go.AM.SO
open Go.Proofs Go.AM.SD Go.AM.SE
abbrev tuV(T:List (List Nat)):AV:=.fsl (T.map sliN) T.length 1
theorem QqJ(T:List (List Nat)):noRef (tuV T)=true:=by rw[tuV,noRef];exact QkT Qab _
end Go.AM.SO
namespace Go.AM.SO
open Go.Proofs Go.AM.SD Go.AM.SE
def pk{α:Type}(P:List Nat)(l:List α):List α:=P.filterMap fun i=>l[i]?
theorem Qbz{α:Type}{l:List α}:∀{P:List Nat},(∀i∈P,i<l.length)->(pk P l).length=P.length|[],_=>rfl|i::P,h=>by have hi:=h i (by simp);have:=Qbz (l:=l) (P:=P) fun j a=>h j (by simp[a]);unfold pk at this⊢;rw[List.filterMap_cons_some (Zad hi),ZaB,this,ZaB]
theorem Qes{α:Type}{l:List α}{P:List Nat}{k i:Nat}{x:α}(h:P[k]?=some i)(a:l[i]?=some x):pk (P.take (k+1)) l=pk (P.take k) l++[x]:=by unfold pk;rw[take_succ' h,List.filterMap_append,List.filterMap_cons_some a];rfl
theorem Qcm{α:Type}{l:List α}{P:List Nat}{x:α}(h:x∈pk P l):x∈l:=by obtain⟨i,_,hi⟩:=List.mem_filterMap.1 h;exact Zae hi
theorem nz_of{X:List Int}{n:Int}(h:SetOk X n):nz (X.map Int.toNat)=X:=by unfold nz;rw[List.map_map];refine(ZaH fun x a=>?_).trans (ZbL X);have:=(h.1 x a).1;show((x.toNat:Nat):Int)=x;omega
theorem Qcd{X:List Int}{n:Nat}(h:SetOk X n):∀i∈X.map Int.toNat,i<n:=fun i hi=>by obtain⟨x,a,rfl⟩:=Zas.1 hi;have:=h.1 x a;omega
theorem pick145(ch:UInt8)(l:List (Nat×Aut))(X:List Int)(C:l.length<=1000)(u:X.length<=1000):PSpec Tryz.prog 145 [its ch l,sli X] (if setErr X l.length=0 then .tup [its ch (pk (X.map Int.toNat) l),.int .i64 0]else .tup [.nilsl,.int .i64 (setErr X l.length)]):=by
 have m:=set38X X l.length (by omega);have z:=SU.Qaf (ch:=ch) l;by_cases c:setErr X l.length=0
 ·rw[if_pos c];rw[c]at m;have r:=QaZ c;have w:=nz_of r;have b:=Qcd r;have y:(X.map Int.toNat).length<=1000:=by rw[Zal];exact u
  generalize X.map Int.toNat=P at*;rw[<-w,QaO]at m⊢;clear w r c u;refine Zb2 64 UA.ok145 rfl (by simp only[noRefs,noRef,Qaa];rw[SU.Qaf];rfl) (by simp only[noRefs,noRef];rw[SU.Qaf];rfl) ?_;have B:=SU.QbF (ch:=ch) l;unfold UA.s145;refine Zcx ?_;refine cp m ?_;refine Zcx ?_;refine Qaj 100 (fun i:Nat=>[(0,its ch l),(7,.sl 76 0 0 i 5),(17,sliN P),(18,.int .i64 P.length),(19,.int .i64 i)]) (fun i=>[(76,.cells 0 ((pk (P.take i) l).flatMap (itC ch)))]) (fun i=>i<=P.length) (fun i=>P.length-i) 0 0 160 (fun _:Unit=>[(7,its ch (pk P l))]) (fun _=>[]) (fun _=>True) ?_ (Zah _) ?_ ?_;·refine⟨[(76,.nil)],rfl,au0,?_,au16⟩;exact Zcb rfl rfl Zb9
  ·rintro i hi;by_cases a:i<P.length
   ·obtain⟨q,n⟩:=Qac a;have f:=b q (Zae n);obtain⟨x,t⟩:=Qac f;have k:=Qes n t;have h:=SU.QdF (ch:=ch) t;have s:5<=((l.flatMap (itC ch)).drop (q*5)).length:=by rw[h];simp
    have v:(q:Int)<l.length:=by omega
    have o:(pk (P.take i) l).length=i:=by rw[Qbz fun j A=>b j (ZaR A),Zar];omega
    have d:=SU.QbF (ch:=ch) (pk (P.take i) l);rw[o]at d;refine Zcy (ZcD a (QaP n) h s f d) ?_;refine⟨i+1,by omega,by omega,?_⟩;rw[k,Zaq];refine⟨[(76,.blk 76 1)],rfl,au0,?_,au16⟩;exact Zca rfl rfl gg (Zb1 (SU.QaB (SU.Qaf _) (by simp only[Zay,Zbq,Zax,itC,noRefs,noRef,Qaa,Qad,SU.QaD,SU.Qat];rfl))) Zb9
   have e:i=P.length:=by omega
   subst e;have g:=Qbz b;have p:=SU.QbF (ch:=ch) (pk P l);refine Zcu a ?_;refine⟨(),?_⟩;exact⟨[],rfl,Zb6,Zb9,Zb8 (Zch (b:=76) (g:=0) gg rfl rfl g (by rw[p,g]) (Zb1 (SU.Qaf _))) Zb7⟩
  rintro _ _;refine Zcx ?_;exact⟨.inr trivial,_,rfl,Zb0 (by simp only[noRef,noRefs];rw[SU.Qaf];rfl)⟩
 rw[if_neg c];refine Zb3 64 UA.ok145 rfl (by simp only[noRefs,noRef,Qaa];rw[SU.Qaf];rfl) rfl ?_;unfold UA.s145;refine Zcx ?_;refine cp m ?_;refine Zcy c ?_;exact⟨.inr trivial,_,rfl,rfl⟩
theorem pick146(l:List (Nat×List (Nat×Nat)))(X:List Int)(C:l.length<=1000)(v:X.length<=1000):PSpec Tryz.prog 146 [exs l,sli X] (if setErr X l.length=0 then .tup [exs (pk (X.map Int.toNat) l),.int .i64 0]else .tup [.nilsl,.int .i64 (setErr X l.length)]):=by
 have m:=set38X X l.length (by omega);have A:=SU.Qar l;by_cases c:setErr X l.length=0
 ·rw[if_pos c];rw[c]at m;have p:=QaZ c;have w:=nz_of p;have b:=Qcd p;have z:(X.map Int.toNat).length<=1000:=by rw[Zal];exact v
  generalize X.map Int.toNat=P at*;rw[<-w,QaO]at m⊢;clear w p c v;refine Zb2 64 UA.ok146 rfl (by simp only[noRefs,noRef,Qaa];rw[SU.Qar];rfl) (by simp only[noRefs,noRef];rw[SU.Qar];rfl) ?_;have B:=SU.Qbr l;unfold UA.s146;refine Zcx ?_;refine cp m ?_;refine Zcx ?_;refine Qaj 100 (fun i:Nat=>[(0,exs l),(7,.sl 76 0 0 i 2),(17,sliN P),(18,.int .i64 P.length),(19,.int .i64 i)]) (fun i=>[(76,.cells 0 ((pk (P.take i) l).flatMap exC))]) (fun i=>i<=P.length) (fun i=>P.length-i) 0 0 160 (fun _:Unit=>[(7,exs (pk P l))]) (fun _=>[]) (fun _=>True) ?_ (Zah _) ?_ ?_;·refine⟨[(76,.nil)],rfl,au0,?_,au16⟩;exact Zcb rfl rfl Zb9
  ·rintro i hi;by_cases a:i<P.length
   ·obtain⟨q,n⟩:=Qac a;have d:=b q (Zae n);obtain⟨x,t⟩:=Qac d;have k:=Qes n t;have h:=Qc4 t;have s:2<=((l.flatMap exC).drop (q*2)).length:=by rw[h];simp
    have u:(q:Int)<l.length:=by omega
    have r:(pk (P.take i) l).length=i:=by rw[Qbz fun j y=>b j (ZaR y),Zar];omega
    have g:=SU.Qbr (pk (P.take i) l);rw[r]at g;refine Zcy (ZcD a (QaP n) h s d g) ?_;refine⟨i+1,by omega,by omega,?_⟩;rw[k,Zaq];refine⟨[(76,.blk 76 1)],rfl,au0,?_,au16⟩;exact Zca rfl rfl gg (Zb1 (SU.QaB (SU.Qar _) (by simp only[Zay,Zbq,Zax,exC,noRefs,noRef,Qaa,Qad,SU.QaD,SU.Qat];rfl))) Zb9
   have e:i=P.length:=by omega
   subst e;have f:=Qbz b;have o:=SU.Qbr (pk P l);refine Zcu a ?_;refine⟨(),?_⟩;exact⟨[],rfl,Zb6,Zb9,Zb8 (Zch (b:=76) (g:=0) gg rfl rfl f (by rw[o,f]) (Zb1 (SU.Qar _))) Zb7⟩
  rintro _ _;refine Zcx ?_;exact⟨.inr trivial,_,rfl,Zb0 (by simp only[noRef,noRefs];rw[SU.Qar];rfl)⟩
 rw[if_neg c];refine Zb3 64 UA.ok146 rfl (by simp only[noRefs,noRef,Qaa];rw[SU.Qar];rfl) rfl ?_;unfold UA.s146;refine Zcx ?_;refine cp m ?_;refine Zcy c ?_;exact⟨.inr trivial,_,rfl,rfl⟩
theorem pick147(l:List (List (Nat×Int)×Int))(X:List Int)(C:l.length<=1000)(v:X.length<=1000):PSpec Tryz.prog 147 [cos l,sli X] (if setErr X l.length=0 then .tup [cos (pk (X.map Int.toNat) l),.int .i64 0]else .tup [.nilsl,.int .i64 (setErr X l.length)]):=by
 have m:=set38X X l.length (by omega);have A:=SU.QaI l;by_cases c:setErr X l.length=0
 ·rw[if_pos c];rw[c]at m;have p:=QaZ c;have w:=nz_of p;have b:=Qcd p;have z:(X.map Int.toNat).length<=1000:=by rw[Zal];exact v
  generalize X.map Int.toNat=P at*;rw[<-w,QaO]at m⊢;clear w p c v;refine Zb2 64 UA.ok147 rfl (by simp only[noRefs,noRef,Qaa];rw[SU.QaI];rfl) (by simp only[noRefs,noRef];rw[SU.QaI];rfl) ?_;have B:=QbG l;unfold UA.s147;refine Zcx ?_;refine cp m ?_;refine Zcx ?_;refine Qaj 100 (fun i:Nat=>[(0,cos l),(7,.sl 76 0 0 i 3),(17,sliN P),(18,.int .i64 P.length),(19,.int .i64 i)]) (fun i=>[(76,.cells 0 ((pk (P.take i) l).flatMap coC))]) (fun i=>i<=P.length) (fun i=>P.length-i) 0 0 160 (fun _:Unit=>[(7,cos (pk P l))]) (fun _=>[]) (fun _=>True) ?_ (Zah _) ?_ ?_;·refine⟨[(76,.nil)],rfl,au0,?_,au16⟩;exact Zcb rfl rfl Zb9
  ·rintro i hi;by_cases a:i<P.length
   ·obtain⟨q,n⟩:=Qac a;have d:=b q (Zae n);obtain⟨x,t⟩:=Qac d;have k:=Qes n t;have h:=Qc5 t;have s:3<=((l.flatMap coC).drop (q*3)).length:=by rw[h];simp
    have u:(q:Int)<l.length:=by omega
    have r:(pk (P.take i) l).length=i:=by rw[Qbz fun j y=>b j (ZaR y),Zar];omega
    have g:=QbG (pk (P.take i) l);rw[r]at g;refine Zcy (ZcD a (QaP n) h s d g) ?_;refine⟨i+1,by omega,by omega,?_⟩;rw[k,Zaq];refine⟨[(76,.blk 76 1)],rfl,au0,?_,au16⟩;exact Zca rfl rfl gg (Zb1 (SU.QaB (SU.QaI _) (by simp only[Zay,Zbq,Zax,coC,noRefs,noRef,Qaa,Qad,SU.QaD,SU.Qat];rfl))) Zb9
   have e:i=P.length:=by omega
   subst e;have f:=Qbz b;have o:=QbG (pk P l);refine Zcu a ?_;refine⟨(),?_⟩;exact⟨[],rfl,Zb6,Zb9,Zb8 (Zch (b:=76) (g:=0) gg rfl rfl f (by rw[o,f]) (Zb1 (SU.QaI _))) Zb7⟩
  rintro _ _;refine Zcx ?_;exact⟨.inr trivial,_,rfl,Zb0 (by simp only[noRef,noRefs];rw[SU.QaI];rfl)⟩
 rw[if_neg c];refine Zb3 64 UA.ok147 rfl (by simp only[noRefs,noRef,Qaa];rw[SU.QaI];rfl) rfl ?_;unfold UA.s147;refine Zcx ?_;refine cp m ?_;refine Zcy c ?_;exact⟨.inr trivial,_,rfl,rfl⟩
end Go.AM.SO
