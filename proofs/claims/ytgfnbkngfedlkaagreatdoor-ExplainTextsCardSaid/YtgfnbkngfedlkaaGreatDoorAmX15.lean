/- A part of the proof of ExplainEventsCardSaid: lemmas on the way (AnCye, AnCyf, AnCyh, AnCyg, AnCyi, AnCyj, AnGb, AnGc, AnGd, AnGk, AnGl, AnCq, AnGe, AnGf, AnGn, AnGp, AnGq, AnGo, AmTo, AmTm, AnCr, AnCzf, AnGg, AnGs). Conditions: none of ours. -/
import Derived.Test.YtgfnbkngfedlkaaGreatDoorProg
import Derived.KernelRfl
import Derived.Test.YtgfnbkngfedlkaaGreatDoorAmX14
set_option linter.unusedSectionVars false
set_option maxHeartbeats 32000000
set_option maxRecDepth 100000
set_option linter.unusedVariables false
set_option linter.unusedSimpArgs false
namespace Go.AM.SO
open Go.Proofs Go.AM.SD Go.AM.SE
def szs(c:Cel):List Nat:=c.cs.map (·.2.n)
theorem WfCel.comp{c:Cel}(h:WfCel c){x:Nat×List (Nat×Nat)}(b:x∈c.xs):∀l∈x.2,∃n,(szs c)[l.1]?=some n/\l.2<n:=fun l a=>by obtain⟨y,h1,d⟩:=(h.xl x b).2.2 l a;exact⟨y.2.n,by unfold szs;rw[ZaD,h1];rfl,d⟩
theorem WfCel.xlen{c:Cel}(h:WfCel c){x:Nat×List (Nat×Nat)}(a:x∈c.xs):x.2.length<=3:=by
 have h1:=QaN c.cs.length (x.2.map (·.1)) (by rw[ZaP];exact(h.xl x a).2.1.imp fun h=>by omega) (fun y d=>by
  obtain⟨l,b,rfl⟩:=Zan.1 d;obtain⟨z,h1,_⟩:=(h.xl x a).2.2 l b;rcases ZbE l.1 c.cs.length with h|h;·exact h
  rw[ZaF h]at h1;cases h1);rw[Zaz]at h1;exact Zav h1 h.c3
theorem WfCel.klen{c:Cel}(h:WfCel c){x:List (Nat×Int)×Int}(a:x∈c.ks):x.1.length<=3:=by have h1:=QaN c.cs.length (x.1.map (·.1)) (by rw[ZaP];exact(h.kl x a).2.1.imp fun h=>by omega) (fun y d=>by obtain⟨l,b,rfl⟩:=Zan.1 d;exact((h.kl x a).2.2.1 l b).1);rw[Zaz]at h1;exact Zav h1 h.c3
theorem WfCel.slen{c:Cel}(h:WfCel c):(szs c).length=c.cs.length:=by simp[szs]
theorem WfCel.sz{c:Cel}(h:WfCel c):∀s∈szs c,1<=s/\s<=3:=fun s b=>by obtain⟨x,a,rfl⟩:=Zan.1 b;exact⟨(h.ca x a).pos,(h.ca x a).n3⟩
theorem QfB{l:List (Nat×List (Nat×Nat))}{i:Nat}{x:Nat×List (Nat×Nat)}(h:l[i]?=some x):(l.flatMap exC).drop (i*2)=.str [101,UInt8.ofNat (48+x.1)]::los x.2::(l.drop (i+1)).flatMap exC:=Qa6 (f:=exC) (k:=2) (fun _=>rfl) h
theorem QfC{l:List (List (Nat×Int)×Int)}{i:Nat}{x:List (Nat×Int)×Int}(h:l[i]?=some x):(l.flatMap coC).drop (i*3)=.str [107]::tes x.1::.int .i64 x.2::(l.drop (i+1)).flatMap coC:=Qa6 (f:=coC) (k:=3) (fun _=>rfl) h
theorem Qhh(l:List (List (Nat×Int)×Int)):(l.flatMap coC).length=l.length*3:=Qba (k:=3) (fun _=>rfl) l
theorem conds32(c:Cel)(h:WfCel c):PSpec Tryz.prog 76 [cdV (szs c) c.xs c.ks] (.int .i64 0):=by
 have a:=@Qb4 (szs c) c.xs c.ks;refine Zcy 64 SQ.ok76 rfl (by rw[noRefs,noRef,a];rfl) rfl ?_;have E:=h.slen;have C:=h.c3;have r:=h.x2;have w:=h.k1;have g1:¬(8:Int)<((szs c).length:Int):=by omega
 have g2:¬(32:Int)<(c.xs.length:Int):=by omega
 have g3:¬(32:Int)<(c.ks.length:Int):=by omega
 have z:∀x∈c.xs,x.2≠[]/\x.2.length<=3:=fun x g=>⟨(h.xl x g).1,h.xlen g⟩;unfold SQ.s76;refine Zc5 g1 ?_;refine Qap 100 (fun i:Nat=>[(1,.ptr 50 0 0),(20,sliN (szs c)),(21,.int .i64 (szs c).length),(22,.int .i64 i)]) (fun _=>[(50,.cells 0 (cdC (szs c) c.xs c.ks))]) (fun i=>i<=(szs c).length) (fun i=>(szs c).length-i) 0 0 140 (fun _:Unit=>[(1,.ptr 50 0 0)]) (fun _=>[(50,.cells 0 (cdC (szs c) c.xs c.ks))]) (fun _=>True) ⟨[(50,.blk 64 0)],rfl,au0,?_,au18⟩ (Zah _) ?_ ?_;·exact ZcF rfl rfl gg (Zcv a) ZcE
 ·rintro i hi;by_cases b:i<(szs c).length
  ·obtain⟨s,p⟩:=Qao b;obtain⟨G,B⟩:=h.sz s (Zac p);have q1:¬(s:Int)<1:=by omega
   have q2:¬(4096:Int)<(s:Int):=by omega
   refine Zc5 (Zc8 b (Qaz p) @q1 @q2) ?_;refine⟨i+1,by omega,by omega,?_⟩;refine⟨[(50,.blk 50 0)],rfl,au0,?_,au18⟩;exact ZcF rfl rfl gg (Zcv a) ZcE
  refine Zc5 b ?_;refine⟨(),?_⟩;refine⟨[(50,.blk 50 0)],rfl,au0,?_,au18⟩;exact ZcF rfl rfl gg (Zcv a) ZcE
 rintro _ _;refine Zc5 (Zc6 g2 g3) ?_;refine Qap 200 (fun i:Nat=>[(1,.ptr 50 0 0),(44,exs c.xs),(45,.int .i64 c.xs.length),(46,.int .i64 i)]) (fun _=>[(50,.cells 0 (cdC (szs c) c.xs c.ks))]) (fun i=>i<=c.xs.length) (fun i=>c.xs.length-i) 0 2 240 (fun _:Unit=>[(1,.ptr 50 0 0)]) (fun _=>[(50,.cells 0 (cdC (szs c) c.xs c.ks))]) (fun _=>True) ⟨[(50,.blk 50 0)],rfl,au0,?_,au18⟩ (Zah _) ?_ ?_;·exact ZcF rfl rfl gg (Zcv a) ZcE
 ·rintro i hi;by_cases b:i<c.xs.length
  ·obtain⟨x,g⟩:=Qao b;have d:=Zac g;have f:=QfB g;have k:2<=((c.xs.flatMap exC).drop (i*2)).length:=by rw[f];simp
   have t:=SN.nameX g r h.xn.1 h.xn.2 z a;have o:=excl103 (szs c) c.xs c.ks x (by omega) (fun s p=>by have:=h.sz s p;omega) (by have:=h.xlen d;omega) (h.xl x d).1 (h.xl x d).2.1 (h.comp d);have hex:exC x=[.str [101,UInt8.ofNat (48+x.1)],los x.2]:=rfl;rw[hex]at o;refine Zc5 (Zc7 b f k) ?_;refine SU.chc (ZcQ (ZcT (Zcz _) (ZcT (FrzTo.fn ZcS (ZcT (ZcP (g:=0) (cs:=cdC (szs c) c.xs c.ks) gg (ZcA _)) (ZcT (ZcP (g:=0) (cs:=[.int .i64 (i:Int)]) gg (ZcA _)) ZcS))) ZcS)) t rfl) ?_;refine Zc4 ?_;refine cp o ?_;refine Zc4 ?_;refine⟨i+1,by omega,by omega,?_⟩;refine⟨[(50,.blk 50 0)],rfl,au0,?_,au18⟩;exact ZcF rfl rfl gg (Zcv a) ZcE
  refine Zc5 b ?_;refine⟨(),?_⟩;refine⟨[(50,.blk 50 0)],rfl,au0,?_,au18⟩;exact ZcF rfl rfl gg (Zcv a) ZcE
 rintro _ _;refine Zc4 ?_;refine QaM 300 (fun i:Nat=>[(1,.ptr 50 0 0),(67,cos c.ks),(68,.int .i64 c.ks.length),(69,.int .i64 i)]) (fun _=>[(50,.cells 0 (cdC (szs c) c.xs c.ks))]) (fun i=>i<=c.ks.length) (fun i=>c.ks.length-i) 0 ⟨[(50,.blk 50 0)],rfl,au0,?_,au18⟩ (Zah _) ?_;·exact ZcF rfl rfl gg (Zcv a) ZcE
 rintro i hi;by_cases b:i<c.ks.length
 ·obtain⟨x,g⟩:=Qao b;have v:i=0:=by omega
  subst v;have d:=Zac g;have f:=QfC g;rw[Nat.zero_mul]at f;have k:3<=(c.ks.flatMap coC).length:=by rw[Qhh];omega
  have q:c.ks=[x]:=by match hk:c.ks,g,w with|[y],g,_=>simp at g;rw[g]
  have t:=SN.nameK (S:=sliN (szs c)) (X:=exs c.xs) q a;obtain⟨k1,k2,k3,k4,I⟩:=h.kl x d;have o:=cons105 (szs c) c.xs c.ks x (by omega) (by have:=h.klen d;omega) k1 k2 (fun l A=>by obtain⟨q1,q2,J,H⟩:=k3 l A;exact⟨by omega,q2,by omega,by omega⟩) ⟨by omega,by omega⟩;have hex:coC x=[.str [107],tes x.1,.int .i64 x.2]:=rfl;rw[hex]at o;have m:(0:Int)<(c.ks.length:Int):=by omega
  rw[Zbo]at f;have u:List.take 3 (c.ks.flatMap coC)=[.str [107],tes x.1,.int .i64 x.2]:=by rw[f];rfl
  refine Zc5 (Zc8 b m u k) ?_;refine SU.chc (ZcQ (ZcT (Zcz _) (ZcT (FrzTo.fn ZcS (ZcT (ZcP (g:=0) (cs:=cdC (szs c) c.xs c.ks) gg (ZcA _)) (ZcT (ZcP (g:=0) (cs:=[.int .i64 0]) gg (ZcA _)) ZcS))) ZcS)) t rfl) ?_;refine Zc4 ?_;refine cp o ?_;refine Zc4 ?_;refine⟨1,by omega,by omega,?_⟩;refine⟨[(50,.blk 50 0)],rfl,au0,?_,au18⟩;exact ZcF rfl rfl gg (Zcv a) ZcE
 refine Zc5 b ?_;exact⟨.inr trivial,_,rfl,rfl⟩
end Go.AM.SO
namespace Go.AM.SO
open Go.Proofs Go.AM.SD Go.AM.SE
theorem Qgf{α:Type}{f:α->List AV}(hf:∀x,(f x).all AV.one=true):∀l:List α,(l.flatMap f).all AV.one=true|[]=>rfl|x::l=>by rw[ZaA,Zcb,hf,Qgf hf l];rfl
theorem clone148(l:List (Nat×Nat))(f:l.length<=1000)(c:l≠[]):PSpec Tryz.prog 139 [los l] (los l):=by
 refine Zcx 100 ok139 rfl (by rw[noRefs,SU.Qcj];rfl) (SU.Qcj _) ?_;have d:aEqN false (los l)=.ret (.bool false):=by match l,c with|x::l,_=>rfl
 have a:(l.flatMap loC).all AV.one=true:=Qgf (fun _=>rfl) l;have b:=SU.Qhg l;unfold s139;refine Zc5 (Zc7 d a b) ?_;exact⟨.inr trivial,_,rfl,ZcN rfl b (Zcv (SU.Qbu _))⟩
theorem clone149(l:List (Nat×Int))(f:l.length<=1000)(c:l≠[]):PSpec Tryz.prog 140 [tes l] (tes l):=by
 refine Zcx 100 ok140 rfl (by rw[noRefs,SU.QcL];rfl) (SU.QcL _) ?_;have d:aEqN false (tes l)=.ret (.bool false):=by match l,c with|x::l,_=>rfl
 have a:(l.flatMap teC).all AV.one=true:=Qgf (fun _=>rfl) l;have b:=SU.Qdp l;unfold s140;refine Zc5 (Zc7 d a b) ?_;exact⟨.inr trivial,_,rfl,ZcN rfl b (Zcv (SU.QaP _))⟩
theorem take_succ'{α:Type}{l:List α}{i:Nat}{x:α}(h:l[i]?=some x):l.take (i+1)=l.take i++[x]:=by rw[Za4,h];rfl
theorem Qvx{x:Nat×List (Nat×Nat)}:List.flatMap exC [x]=[.str [101,UInt8.ofNat (48+x.1)],los x.2]:=rfl
theorem Qvy{x:List (Nat×Int)×Int}:List.flatMap coC [x]=[.str [107],tes x.1,.int .i64 x.2]:=rfl
theorem conds85(c:Cel)(h:WfCel c):PSpec Tryz.prog 77 [celV c] (cdV (szs c) c.xs c.ks):=by
 have g:noRefs [evsV c.ev,its 99 c.cs,its 114 c.rs,exs c.xs,cos c.ks]=true:=by have:=SU.QaK c;rwa[celV,noRef]at this
 refine Zcx 64 ok77 rfl (by rw[noRefs,SU.QaK];rfl) (by rw[noRef];exact Qb4) ?_;have w:=h.c3;have y:=h.x2;have v:=h.k1;have u:=@SU.Qd7 99 c.cs;have t:=SU.QeU c.xs;have z:=Qhh c.ks;unfold s77;refine Zc4 ?_;refine Qap 100 (fun i:Nat=>[(1,.ptr 50 0 0),(2,.ptr 51 0 0),(3,.ptr 52 0 0),(12,its 99 c.cs),(13,.int .i64 c.cs.length),(14,.int .i64 i)]) (fun i=>[(50,.cells 0 [evsV c.ev,its 99 c.cs,its 114 c.rs,exs c.xs,cos c.ks]),(51,.cells 0 [.nilsl,.nilsl,.nilsl]),(52,.cells 0 [.sl 76 0 0 (szs c|>.take i).length 1,.nilsl,.nilsl]),(76,.cells 0 (ints (nz ((szs c).take i))))]) (fun i=>i<=c.cs.length) (fun i=>c.cs.length-i) 0 0 160 (fun _:Unit=>[(1,.ptr 50 0 0),(2,.ptr 51 0 0),(3,.ptr 52 0 0)]) (fun _=>[(50,.cells 0 [evsV c.ev,its 99 c.cs,its 114 c.rs,exs c.xs,cos c.ks]),(51,.cells 0 [.nilsl,.nilsl,.nilsl]),(52,.cells 0 [sliN (szs c),.nilsl,.nilsl])]) (fun _=>True) ⟨[(50,.blk 64 0),(51,.blk 65 0),(52,.blk 67 0),(76,.nil)],rfl,au0,?_,au18⟩ (Zah _) ?_ ?_;·exact ZcF rfl rfl gg (Zcv g) (ZcF rfl rfl gg (Zcv rfl) (ZcF rfl rfl gg (ZcL (Rn.x4 rfl rfl) (Zcv rfl)) (ZcG rfl rfl ZcE)))
 ·rintro i hi;by_cases a:i<c.cs.length
  ·obtain⟨x,o⟩:=Qao a;have d:=SU.QbM (ch:=99) o;have m:5<=((c.cs.flatMap (itC 99)).drop (i*5)).length:=by rw[d];simp
   have r:(szs c)[i]?=some x.2.n:=by unfold szs;rw[ZaD,o];rfl
   have f:=take_succ' r;have b:((szs c).take i).length=i:=by rw[Zaw,h.slen];omega
   have s:=@SU.Qei [99,UInt8.ofNat (48+x.1)] x.2;refine Zc5 (Zc8 a d m b) ?_;refine⟨i+1,by omega,by omega,?_⟩;rw[f,Zae,QaD,Qay,b];refine⟨[(50,.blk 50 0),(51,.blk 51 0),(52,.blk 52 0),(76,.blk 76 1)],rfl,au0,?_,au18⟩;exact ZcF rfl rfl gg (Zcv g) (ZcF rfl rfl gg (Zcv rfl) (ZcF rfl rfl gg (ZcL (Rn.x1 rfl rfl) (Zcv rfl)) (ZcF rfl rfl gg (Zcv (SU.Qau (Qad _) rfl)) ZcE)))
  have e:i=c.cs.length:=by omega
  subst e;have q:(szs c).take c.cs.length=szs c:=by rw[<-h.slen,Zao]
  refine Zc5 (Zc6 a q) ?_;refine⟨(),?_⟩;refine⟨[(50,.blk 50 0),(51,.blk 51 0),(52,.blk 52 0)],rfl,au0,?_,au18⟩;exact ZcF rfl rfl gg (Zcv g) (ZcF rfl rfl gg (Zcv rfl) (ZcF rfl rfl gg (ZcL (ZcM rfl rfl rfl rfl (by simp[ints]) (Zcv (Qad _))) (Zcv rfl)) ZcE))
 rintro _ _;refine Zc4 ?_;refine Qap 200 (fun i:Nat=>[(1,.ptr 50 0 0),(2,.ptr 51 0 0),(3,.ptr 52 0 0),(28,exs c.xs),(29,.int .i64 c.xs.length),(30,.int .i64 i)]) (fun i=>[(50,.cells 0 [evsV c.ev,its 99 c.cs,its 114 c.rs,exs c.xs,cos c.ks]),(51,.cells 0 [.nilsl,.nilsl,.nilsl]),(52,.cells 0 [sliN (szs c),.sl 77 0 0 (c.xs.take i).length 2,.nilsl]),(77,.cells 0 ((c.xs.take i).flatMap exC))]) (fun i=>i<=c.xs.length) (fun i=>c.xs.length-i) 0 2 260 (fun _:Unit=>[(1,.ptr 50 0 0),(2,.ptr 51 0 0),(3,.ptr 52 0 0)]) (fun _=>[(50,.cells 0 [evsV c.ev,its 99 c.cs,its 114 c.rs,exs c.xs,cos c.ks]),(51,.cells 0 [.nilsl,.nilsl,.nilsl]),(52,.cells 0 [sliN (szs c),exs c.xs,.nilsl])]) (fun _=>True) ⟨[(50,.blk 50 0),(51,.blk 51 0),(52,.blk 52 0),(77,.nil)],rfl,au0,?_,au18⟩ (Zah _) ?_ ?_;·exact ZcF rfl rfl gg (Zcv g) (ZcF rfl rfl gg (Zcv rfl) (ZcF rfl rfl gg (ZcL (Zct (Qae _)) (ZcL (Rn.x4 rfl rfl) (Zcv rfl))) (ZcG rfl rfl ZcE)))
 ·rintro i hi;by_cases a:i<c.xs.length
  ·obtain⟨x,o⟩:=Qao a;have l:=Zac o;have d:=QfB o;have m:2<=((c.xs.flatMap exC).drop (i*2)).length:=by rw[d];simp
   have f:=take_succ' o;have b:(c.xs.take i).length=i:=by rw[Zaw];omega
   have p:=clone148 x.2 (by have:=h.xlen l;omega) (h.xl x l).1;have k:=SU.QeU (c.xs.take i);rw[b]at k;refine Zc5 (Zc8 a d m b) ?_;refine cp p ?_;refine Zc5 k ?_;refine⟨i+1,by omega,by omega,?_⟩;rw[f,Zae,Zar,b,Qvx];refine⟨[(50,.blk 50 0),(51,.blk 51 0),(52,.blk 52 0),(77,.blk 77 1)],rfl,au0,?_,au18⟩;exact ZcF rfl rfl gg (Zcv g) (ZcF rfl rfl gg (Zcv rfl) (ZcF rfl rfl gg (ZcL (Zct (Qae _)) (ZcL (Rn.x1 rfl rfl) (Zcv rfl))) (ZcF rfl rfl gg (Zcv (SU.Qau (SU.Qbn _) (by rw[noRefs,noRefs,SU.Qcj];rfl))) ZcE)))
  have e:i=c.xs.length:=by omega
  subst e;refine Zc5 (Zc6 a @Zao) ?_;refine⟨(),?_⟩;refine⟨[(50,.blk 50 0),(51,.blk 51 0),(52,.blk 52 0)],rfl,au0,?_,au18⟩;exact ZcF rfl rfl gg (Zcv g) (ZcF rfl rfl gg (Zcv rfl) (ZcF rfl rfl gg (ZcL (Zct (Qae _)) (ZcL (ZcM rfl rfl rfl rfl (SU.QeU _) (Zcv (SU.Qbn _))) (Zcv rfl))) ZcE))
 rintro _ _;refine Zc4 ?_;refine Qap 300 (fun i:Nat=>[(2,.ptr 51 0 0),(3,.ptr 52 0 0),(47,cos c.ks),(48,.int .i64 c.ks.length),(49,.int .i64 i)]) (fun i=>[(51,.cells 0 [.nilsl,.nilsl,.nilsl]),(52,.cells 0 [sliN (szs c),exs c.xs,.sl 78 0 0 (c.ks.take i).length 3]),(78,.cells 0 ((c.ks.take i).flatMap coC))]) (fun i=>i<=c.ks.length) (fun i=>c.ks.length-i) 0 4 360 (fun _:Unit=>[(2,.ptr 51 0 0),(3,.ptr 52 0 0)]) (fun _=>[(51,.cells 0 [.nilsl,.nilsl,.nilsl]),(52,.cells 0 [sliN (szs c),exs c.xs,cos c.ks])]) (fun _=>True) ⟨[(51,.blk 51 0),(52,.blk 52 0),(78,.nil)],rfl,au0,?_,au18⟩ (Zah _) ?_ ?_;·exact ZcF rfl rfl gg (Zcv rfl) (ZcF rfl rfl gg (ZcL (Zct (Qae _)) (ZcL (Zct (SU.QbG _)) (ZcL (Rn.x4 rfl rfl) ZcK))) (ZcG rfl rfl ZcE))
 ·rintro i hi;by_cases a:i<c.ks.length
  ·obtain⟨x,o⟩:=Qao a;have l:=Zac o;have d:=QfC o;have m:3<=((c.ks.flatMap coC).drop (i*3)).length:=by rw[d];simp
   have f:=take_succ' o;have b:(c.ks.take i).length=i:=by rw[Zaw];omega
   have p:=clone149 x.1 (by have:=h.klen l;omega) (h.kl x l).1;have k:=Qhh (c.ks.take i);rw[b]at k;refine Zc5 (Zc8 a d m b) ?_;refine cp p ?_;refine Zc5 k ?_;refine⟨i+1,by omega,by omega,?_⟩;rw[f,Zae,Zar,b,Qvy];refine⟨[(51,.blk 51 0),(52,.blk 52 0),(78,.blk 78 1)],rfl,au0,?_,au18⟩;exact ZcF rfl rfl gg (Zcv rfl) (ZcF rfl rfl gg (ZcL (Zct (Qae _)) (ZcL (Zct (SU.QbG _)) (ZcL (Rn.x1 rfl rfl) ZcK))) (ZcF rfl rfl gg (Zcv (SU.Qau (SU.Qdb _) (by rw[noRefs,noRefs,SU.QcL];rfl))) ZcE))
  have e:i=c.ks.length:=by omega
  subst e;refine Zc5 (Zc6 a @Zao) ?_;refine⟨(),?_⟩;refine⟨[(51,.blk 51 0),(52,.blk 52 0)],rfl,au0,?_,au18⟩;exact ZcF rfl rfl gg (Zcv rfl) (ZcF rfl rfl gg (ZcL (Zct (Qae _)) (ZcL (Zct (SU.QbG _)) (ZcL (ZcM rfl rfl rfl rfl (Qhh _) (Zcv (SU.Qdb _))) ZcK))) ZcE)
 rintro _ _;refine Zc4 ?_;refine⟨.inr trivial,_,rfl,?_⟩;exact Zct (by rw[noRef];exact Qb4)
end Go.AM.SO
namespace Go.AM.SO
open Go.Proofs Go.AM.SD Go.AM.SE
def idxQ{α:Type}(q:α->Bool)(l:List α):Int:=if l.any q then(l.findIdx q:Int)else-1
theorem Qb5{α:Type}{q:α->Bool}{l:List α}(h:∀x∈l,q x=false):idxQ q l=-1:=by unfold idxQ;rw[if_neg];rw[ZbX];rintro⟨x,b,a⟩;rw[h x b]at a;cases a
theorem QcS{α:Type}{q:α->Bool}{l:List α}{i:Nat}{x:α}(hx:l[i]?=some x)(hq:q x=true)(hb:∀(j:Nat)y,j<i->l[j]?=some y->q y=false):idxQ q l=i:=by
 have hlt:i<l.length:=by
  rcases ZbE i l.length with h|h;·exact h
  ·rw[ZaF h]at hx;cases hx
 have h1:l.any q=true:=ZbX.2 ⟨x,Zac hx,hq⟩;have h2:l.findIdx q=i:=by rw[List.findIdx_eq hlt];refine⟨by rw[Zal hlt]at hx;cases hx;exact hq,fun j hj=>hb j l[j] hj (Zal (by omega))⟩
 unfold idxQ;rw[if_pos h1,h2]
theorem Qhu{α:Type}{q:α->Bool}{l:List α}:decide (0<=idxQ q l)=l.any q:=by
 unfold idxQ;cases h:l.any q;·simp
 simp
theorem Qbg{K:Nat}{cap:List AV}(h:noRefs cap=true):noRef (.fn K [] cap)=true:=by simp only[noRef,noRefs,h];rfl
theorem index110{K:Nat}{cap:List AV}(q:Nat->Bool)(l:List Nat)(s:l.length<=1000000)(hc:noRefs cap=true)(hk:∀x∈l,PSpec Tryz.prog K (.int .i64 (x:Int)::cap) (.bool (q x))):PSpec Tryz.prog 97 [sliN l,.fn K [] cap] (.int .i64 (idxQ q l)):=by
 refine Zcy 64 ok97 rfl (by rw[noRefs,noRefs,Qbg hc,(Qae _)];rfl) rfl ?_;have c:=Qbg (K:=K) hc;have o:=(show(ints (nz l)).length=l.length*1 by simp[ints]);unfold s97;refine Zc5 @Zaq ?_;refine QaM 100 (fun i:Nat=>[(0,sliN l),(1,.fn K [] cap),(7,.int .i64 l.length),(8,.int .i64 i)]) (fun _=>[]) (fun i=>i<=l.length/\∀(j:Nat)y,j<i->l[j]?=some y->q y=false) (fun i=>l.length-i) 0 ?_ ⟨Zah _,fun j y k=>absurd k (ZaB _)⟩ ?_;·exact⟨[],rfl,ZcB,ZcE,ZcD (Zct (Qae _)) (ZcD (Zct c) (ZcD (Zct rfl) (ZcD (Zct rfl) ZcC)))⟩
 rintro i⟨hi,m⟩;by_cases a:i<l.length
 ·obtain⟨x,b⟩:=Qao a;have h:=hk x (Zac b);have d:=Qaz b;have f:1<=(List.drop (i*1) (ints (nz l))).length:=by rw[Zba,o];omega
  cases g:q x
  ·rw[g]at h;refine Zc5 (Zc9 a d f @Zbf @Zaq) ?_;refine⟨_,by simpa using h,?_⟩;refine Zc5 @Zaq ?_;refine⟨i+1,by omega,⟨by omega,fun j y k p=>?_⟩,?_⟩
   ·by_cases e:j=i;·subst e;rw[b]at p;cases p;exact g
    exact m j y (by omega) p
   exact⟨[],rfl,ZcB,ZcE,ZcD (Zct (Qae _)) (ZcD (Zct c) (ZcD (Zct rfl) (ZcD (Zct rfl) ZcC)))⟩
  rw[g]at h;refine Zc5 (Zc9 a d f @Zbf @Zaq) ?_;refine⟨_,by simpa using h,?_⟩;refine Zc5 @Zaq ?_;refine⟨.inr trivial,_,rfl,?_⟩;rw[QcS b g m];rfl
 refine Zc5 (Zc6 a @Zaq) ?_;refine⟨.inr trivial,_,rfl,?_⟩;rw[Qb5 fun x b=>by obtain⟨j,k,r⟩:=Zbj b;exact m j x (by omega) (by rw[Zal k,r])];rfl
theorem contains36{K:Nat}{cap:List AV}(q:Nat->Bool)(l:List Nat)(a:l.length<=1000000)(hc:noRefs cap=true)(hk:∀x∈l,PSpec Tryz.prog K (.int .i64 (x:Int)::cap) (.bool (q x))):PSpec Tryz.prog 46 [sliN l,.fn K [] cap] (.bool (l.any q)):=by
 refine Zcy 64 ok46 rfl (by rw[noRefs,noRefs,Qbg hc,Qae];rfl) rfl ?_;unfold s46;refine Zc5 @Zaq ?_;refine cp (index110 q l a hc hk) ?_;have e:=@Qhu Nat q l;cases h:l.any q;·rw[h,decide_eq_false_iff_not]at e;refine Zc5 (Zc6 e @Zaq) ?_;exact⟨.inr trivial,_,rfl,rfl⟩
 rw[h,decide_eq_true_eq]at e;refine Zc5 (Zc6 e @Zaq) ?_;exact⟨.inr trivial,_,rfl,rfl⟩
theorem ge166(x:Nat):PSpec Tryz.prog 130 [.int .i64 (x:Int),.fptr [.int .i64 5]] (.bool (decide (5<=x))):=by refine Zcy 64 ok130 rfl rfl rfl ?_;have e:decide ((5:Int)<=(x:Int))=decide (5<=x):=decide_eq_decide.2 (by omega);unfold s130;refine Zc5 (Zc6 e @Zaq) ?_;exact⟨.inr trivial,_,rfl,rfl⟩
end Go.AM.SO
namespace Go.AM.SR
open Go.Proofs
set_option maxHeartbeats 4000000
noncomputable section
def cf:YA.Cf:={most:=.pure,always:=[46].map fun k=>(k,.heap)}
def s74:SFn:=by
 refine(?f:YA.Yt Tryz.prog cf 74 [[0,1,8],[11,12,13,14],[2,3,4,5,10],[10,16,17,18,19],[2,3,4,5,15],[8,3,15,20,21,22],[23,24,25],[26],[2,4,5,9,27,28],[8,9,27,30,31,32,33],[2,4,5,29],[29,35,36,37,38],[2,4,5,34],[5,34,40,41,42,43,44],[2,4,39],[2,4,39,46,47,48,49,50,51],[45],[45]]) ?s ?h;case h=>exact YA.rr
 exact fun s _=>s
theorem ok74:okFn Tryz.prog 74 s74=true:=by kernel_rfl
end
end Go.AM.SR
namespace Go.AM.SO
open Go.Proofs Go.AM.SD Go.AM.SE
theorem QrD{A B:List Nat}(hA:A.Pairwise (·<·))(c:B.Pairwise (·<·))(h:∀x∈A,x∈B):mrg (fun a b=>a&&!b) A B=[]:=by rw[List.eq_nil_iff_forall_not_mem];intro x d;obtain⟨h1,f⟩:=(QbS hA c).1 d;simp at h1;exact h1.2 (h x h1.1)
theorem Qcc{a:Aut}(h:WfA a):a.al.length<=32:=QaN 32 a.al (by rw[ZaP];exact h.al.imp fun h=>by omega) h.al5
abbrev nmsB(l:List (List UInt8)):Blk:=.map 0 (mapS yes l)
theorem item83(i:List UInt8)(a:Aut)(B:List Nat)(names:List (List UInt8))(h:WfI a)(t:PSpec Tryz.prog 128 [.str i] (.bool true))(m:i∉names)(u:names.length<=100)(o:B.Pairwise (·<·))(k:B.length<=1000000)(q:∀x∈a.al,x∈B):HSpec Tryz.prog 74 [.agg [.str i,sliN a.al,.int .i64 (a.n:Int),sliN a.ms,egsN a.es],.int .i64 5,sliN B,.map 68 0] (hp [(68,nmsB names)]) (.int .i64 0) (hp [(68,nmsB (names++[i]))]):=by
 have r:=Qcc h.wf;have f:a.es.length<=1000000:=Zav h.el (by decide);have v:=check112 a h.wf f;have s:=isCanon60 a h.wf f h.can;have p:=h.pos;have l:¬(a.n:Int)=0:=by omega
 have d:=contains36 (K:=130) (cap:=[.fptr [.int .i64 5]]) (fun x=>decide (5<=x)) a.al (by omega) rfl (fun x _=>ge166 x);have g:a.al.any (fun x=>decide (5<=x))=false:=by rw[List.any_eq_false];intro x w;have:=h.a5 x w;simp;omega
 rw[g]at d;have b:=subset167 a.al B (by omega) k;rw[QrD h.wf.al o q]at b;have c:PSpec Tryz.prog 131 [sliN a.al,sliN B] (.bool true):=b;refine HSpec.QuQ (m:=69) 100 SR.ok74 rfl rfl rfl ?_;unfold SR.s74;refine Zc4 ?_;refine cp t ?_;refine Zc4 ?_;refine Qg9 gg m ?_;refine Zc4 ?_;refine QeT gg m (by omega) ?_;refine Zc5 @QiK ?_;refine cp v ?_;refine Zc4 ?_;refine cp s ?_;refine Zc5 l ?_;refine SU.chc (ZcQ (ZcT (Zcz _) (ZcT (FrzTo.fn ZcS (ZcT (ZcP (g:=0) (cs:=[.int .i64 5]) gg (ZcA _)) ZcS)) ZcS)) d rfl) ?_;refine Zc4 ?_;refine cp c ?_;refine Zc4 ?_;refine⟨.inr trivial,_,rfl,rfl,?_⟩;refine⟨[(68,.nil)],rfl,au0,?_,au18⟩;exact ZcJ rfl gg (RnM.mapS fun _ _=>Zct rfl) ZcE
theorem item83F{h:Heap}(b:List UInt8)(a:Aut)(B:List Nat)(names:List (List UInt8))(hw:WfI a)(m:PSpec Tryz.prog 128 [.str b] (.bool true))(g:b∉names)(f:names.length<=100)(k:B.Pairwise (·<·))(d:B.length<=1000000)(i:∀x∈a.al,x∈B)(c:h.get 68=some (nmsB names)):HSpec Tryz.prog 74 [.agg [.str b,sliN a.al,.int .i64 (a.n:Int),sliN a.ms,egsN a.es],.int .i64 5,sliN B,.map 68 0] h (.int .i64 0) (h.set 68 (nmsB (names++[b]))):=by
 have hm:∀(l:List (List UInt8)),∀e∈mapS yes l,noRef e.1=true/\noRef e.2=true:=fun l e he=>by unfold mapS at he;obtain⟨x,_,rfl⟩:=Zan.1 he;exact⟨rfl,rfl⟩
 exact HSpec.frameM (item83 b a B names hw m g f k d i) (OnlyD.cons (OnlyD.same (by rw[noRef];exact SU.Qei)) (OnlyD.cons (OnlyD.same rfl) (OnlyD.cons (OnlyD.same (Qae _)) (OnlyD.cons (OnlyD.map rfl) OnlyD.nil)))) (OnlyD.same rfl) (hm _) (hm _) c rfl
end Go.AM.SO
namespace Go.AM.SO
open Go.Proofs Go.AM.SD Go.AM.SE
def uUp(l:List (Nat×Aut)):List Nat:=l.foldl (fun out x=>mrg (fun a b=>a||b) out x.2.al) []
theorem Qhv:∀{l:List (Nat×Aut)}{out:List Nat},out.Pairwise (·<·)->(∀x∈l,x.2.al.Pairwise (·<·))->(l.foldl (fun out x=>mrg (fun a b=>a||b) out x.2.al) out).Pairwise (·<·)/\∀e,e∈l.foldl (fun out x=>mrg (fun a b=>a||b) out x.2.al) out↔e∈out\/∃y∈l,e∈y.2.al
 |[],out,h,_=>⟨h,fun e=>by simp⟩|x::l,out,h,f=>by
  have d:=f x (by simp);obtain⟨h1,g⟩:=Qhv (l:=l) (Qcq (k:=fun a b=>a||b) h d) fun y i=>f y (by simp[i]);refine⟨h1,fun e=>?_⟩;rw[ZaT,g e,QbS h d];simp only[Zas,exists_eq_or_imp,Zbt,decide_eq_true_eq];constructor
  ·rintro(⟨c,_⟩|c)
   ·rcases c with c|c;·exact .inl c
    exact .inr (.inl c)
   exact .inr (.inr c)
  rintro(c|c|c);·exact .inl ⟨.inl c,.inl c⟩
  ·exact .inl ⟨.inr c,.inr c⟩
  exact .inr c
theorem Qgg{l:List (Nat×Aut)}(h:∀x∈l,WfI x.2):(uUp l).Pairwise (·<·):=(Qhv (by simp) fun x a=>(h x a).wf.al).1
theorem Qhw{l:List (Nat×Aut)}(h:∀x∈l,WfI x.2){e:Nat}:e∈uUp l↔∃y∈l,e∈y.2.al:=by have:=(Qhv (l:=l) (out:=[]) (by simp) fun x a=>(h x a).wf.al).2 e;simpa[uUp]using this
theorem Qkd{l:List (Nat×Aut)}(h:∀x∈l,WfI x.2):(uUp l).length<=5:=by refine QaN 5 _ (by rw[ZaP];exact(Qgg h).imp fun h=>by omega) fun x a=>?_;obtain⟨y,b,he⟩:=(Qhw h).1 a;exact(h y b).a5 x he
theorem QsY{l:List (Nat×Aut)}{i:Nat}{x:Nat×Aut}(h:l[i]?=some x):uUp (l.take (i+1))=mrg (fun a b=>a||b) (uUp (l.take i)) x.2.al:=by unfold uUp;rw[take_succ' h,Za5];rfl
def nmsI(ch:UInt8)(l:List (Nat×Aut)):List (List UInt8):=l.map fun x=>[ch,UInt8.ofNat (48+x.1)]
theorem Qnn{ch:UInt8}{l:List (Nat×Aut)}{i:Nat}{x:Nat×Aut}(h:l[i]?=some x):nmsI ch (l.take (i+1))=nmsI ch (l.take i)++[[ch,UInt8.ofNat (48+x.1)]]:=by unfold nmsI;rw[take_succ' h,ZaJ];rfl
theorem Qt3{a b:Nat}(c:a<10)(d:b<10)(h:UInt8.ofNat (48+a)=UInt8.ofNat (48+b)):a=b:=by have:=congrArg UInt8.toNat h;simp at this;omega
theorem QjA{l:List (Nat×Aut)}(h:l.map (·.1)=List.range l.length){i:Nat}{x:Nat×Aut}(a:l[i]?=some x):x.1=i/\i<l.length:=by
 have hi:i<l.length:=by
  rcases ZbE i l.length with h|h;·exact h
  rw[ZaF h]at a;cases a
 have h1:(l.map (·.1))[i]?=some x.1:=by rw[ZaD,a];rfl
 rw[h,ZbM hi]at h1;cases h1;exact⟨rfl,hi⟩
theorem Qo7{ch:UInt8}{l:List (Nat×Aut)}(h:l.map (·.1)=List.range l.length)(h3:l.length<=9){i:Nat}{x:Nat×Aut}(hx:l[i]?=some x):[ch,UInt8.ofNat (48+x.1)]∉nmsI ch (l.take i):=by intro hm;obtain⟨y,hy,he⟩:=Zan.1 hm;obtain⟨j,hj,hjl⟩:=Zbj hy;rw[Zaw]at hj;rw[List.getElem_take]at hjl;obtain⟨e1,e2⟩:=QjA h hx;obtain⟨e3,e4⟩:=QjA h (i:=j) (x:=y) (by rw[<-hjl];exact Zal (by omega));have:=Qt3 (a:=y.1) (b:=x.1) (by omega) (by omega) (by simpa using he);omega
theorem QrE{a b:UInt8}(c:a≠b){s:UInt8}{l:List (Nat×Aut)}:[a,s]∉nmsI b l:=by intro hm;obtain⟨y,d,he⟩:=Zan.1 hm;simp at he;exact c he.1.symm
theorem Qnb{i:Nat}(h:i<3):PSpec Tryz.prog 128 [.str [99,UInt8.ofNat (48+i)]] (.bool true):=by
 have:i=0\/i=1\/i=2:=by omega
 rcases this with rfl|rfl|rfl;·exact SP.QtN
 ·exact SP.QtO
 exact SP.QtP
theorem Qvz{i:Nat}(h:i<2):PSpec Tryz.prog 128 [.str [114,UInt8.ofNat (48+i)]] (.bool true):=by
 have:i=0\/i=1:=by omega
 rcases this with rfl|rfl;·exact SP.QtQ
 exact SP.QtR
theorem Qhx{m:Nat}{π:Nat->Option Src}{h:Heap}:RnM m π h (mapS yes []) []:=trivial
theorem QaY(c:Cel):noRefs [evsV c.ev,its 99 c.cs,its 114 c.rs,exs c.xs,cos c.ks]=true:=by have:=SU.QaK c;rwa[celV,noRef]at this
theorem check21(c:Cel)(h:WfCel c):PSpec Tryz.prog 21 [celV c] (.int .i64 0):=by
 have a:=QaY c;refine Zcy 64 ok21 rfl (by rw[noRefs,SU.QaK];rfl) rfl ?_;have z:=check82 c.ev h.ev;have B:=h.c0;have E:=h.c3;have C:=h.r2;have g1:¬(c.cs.length:Int)=0:=by omega
 have g2:¬(8:Int)<(c.cs.length:Int):=by omega
 have g3:¬(12:Int)<(c.cs.length:Int)+(c.rs.length:Int):=by omega
 have v:=conds85 c h;have hdC:=conds32 c h;unfold s21;refine Zc4 ?_;refine cp z ?_;refine Zc5 (Zc7 g1 g2 g3) ?_;refine Qap 140 (fun i:Nat=>[(1,.ptr 50 0 0),(5,.map 68 0),(6,.sl 76 0 0 i 1),(7,.nilsl),(41,.int .i64 5),(42,.int .i64 i)]) (fun i=>[(50,.cells 0 [evsV c.ev,its 99 c.cs,its 114 c.rs,exs c.xs,cos c.ks]),(68,nmsB []),(76,.cells 0 (ints (nz (List.range i))))]) (fun i=>i<=5) (fun i=>5-i) 0 1 180 (fun _:Unit=>[(1,.ptr 50 0 0),(5,.map 68 0),(6,sliN (List.range 5)),(7,sliN [])]) (fun _=>[(50,.cells 0 [evsV c.ev,its 99 c.cs,its 114 c.rs,exs c.xs,cos c.ks]),(68,nmsB [])]) (fun _=>True) ?_ (Zah _) ?_ ?_;·refine⟨[(50,.blk 64 0),(68,.blk 90 0),(76,.nil)],rfl,au0,?_,au18⟩;exact ZcF rfl rfl gg (Zcv a) (ZcH rfl rfl gg Qhx (ZcG rfl rfl ZcE))
 ·rintro i hi;by_cases b:i<5
  ·have r:(i:Int)<5:=by omega
   have s:(ints (nz (List.range i))).length=i:=by simp[ints]
   refine Zc5 (Zc7 r @ZbS s) ?_;refine⟨i+1,by omega,by omega,?_⟩;rw[ZaQ,QaD,Qay];refine⟨[(50,.blk 50 0),(68,.blk 68 0),(76,.blk 76 1)],rfl,au0,?_,au18⟩;exact ZcF rfl rfl gg (Zcv a) (ZcH rfl rfl gg Qhx (ZcF rfl rfl gg (Zcv (SU.Qau (Qad _) rfl)) ZcE))
  have e:i=5:=by omega
  subst e;refine Zc4 ?_;refine⟨(),[(50,.blk 50 0),(68,.blk 68 0)],rfl,ZcB,?_,?_⟩;·exact ZcF rfl rfl gg (Zcv a) (ZcH rfl rfl gg Qhx ZcE)
  exact ZcD (Rn.x2 rfl rfl) (ZcD (Rn.x3 rfl rfl) (ZcD (Rn.fz (b:=76) (g:=0) gg rfl rfl rfl (Zcv rfl)) (ZcD Rn.nilK ZcC)))
 rintro _ _;refine Zc4 ?_;refine Qap 240 (fun i:Nat=>[(1,.ptr 50 0 0),(5,.map 68 0),(6,sliN (List.range 5)),(7,sliN (uUp (c.cs.take i))),(51,its 99 c.cs),(52,.int .i64 c.cs.length),(53,.int .i64 i)]) (fun i=>[(50,.cells 0 [evsV c.ev,its 99 c.cs,its 114 c.rs,exs c.xs,cos c.ks]),(68,nmsB (nmsI 99 (c.cs.take i)))]) (fun i=>i<=c.cs.length) (fun i=>c.cs.length-i) 0 3 280 (fun _:Unit=>[(1,.ptr 50 0 0),(5,.map 68 0),(7,sliN (uUp c.cs))]) (fun _=>[(50,.cells 0 [evsV c.ev,its 99 c.cs,its 114 c.rs,exs c.xs,cos c.ks]),(68,nmsB (nmsI 99 c.cs))]) (fun _=>True) ?_ (Zah _) ?_ ?_;·refine⟨[(50,.blk 50 0),(68,.blk 68 0)],rfl,au0,?_,au18⟩;exact ZcF rfl rfl gg (Zcv a) (ZcH rfl rfl gg Qhx ZcE)
 ·rintro i hi;by_cases b:i<c.cs.length
  ·obtain⟨x,f⟩:=Qao b;have m:=Zac f;have k:=SU.QbM (ch:=99) f;have q:5<=((c.cs.flatMap (itC 99)).drop (i*5)).length:=by rw[k];simp
   have g:=h.ca x m;have u:=QjA h.cn f;have o:(nmsI 99 (c.cs.take i)).length<=100:=by simp[nmsI];omega
   have t:=Qnb (i:=x.1) (by omega);have l:=Qo7 (ch:=99) h.cn (by omega) f;have d:(uUp (c.cs.take i)).length<=1000000:=by have:=Qkd (l:=c.cs.take i) fun y A=>h.ca y (ZaV A);omega
   have w:=union84 (uUp (c.cs.take i)) x.2.al d (by have:=Qcc g.wf;omega);rw[<-QsY f]at w;have p:=Qnn (ch:=99) f;refine Zc5 (Zc7 b k q) ?_;refine SU.chc (item83F _ _ _ _ g t l o Zb8 (by decide) (fun e he=>Zat.2 (g.a5 e he)) gg) ?_;refine Zc4 ?_;refine cp w ?_;refine Zc4 ?_;refine⟨i+1,by omega,by omega,?_⟩;rw[p];refine⟨[(50,.blk 50 0),(68,.blk 68 0)],rfl,au0,?_,au18⟩;exact ZcF rfl rfl gg (Zcv a) (ZcH rfl rfl gg (RnM.mapS fun _ _=>Zct rfl) ZcE)
  have e:i=c.cs.length:=by omega
  subst e;refine Zc5 (Zc6 b @Zao) ?_;refine⟨(),?_⟩;refine⟨[(50,.blk 50 0),(68,.blk 68 0)],rfl,au0,?_,au18⟩;exact ZcF rfl rfl gg (Zcv a) (ZcH rfl rfl gg (RnM.mapS fun _ _=>Zct rfl) ZcE)
 rintro _ _;refine Zc4 ?_;refine Qap 340 (fun i:Nat=>[(1,.ptr 50 0 0),(5,.map 68 0),(7,sliN (uUp c.cs)),(74,its 114 c.rs),(75,.int .i64 c.rs.length),(76,.int .i64 i)]) (fun i=>[(50,.cells 0 [evsV c.ev,its 99 c.cs,its 114 c.rs,exs c.xs,cos c.ks]),(68,nmsB (nmsI 99 c.cs++nmsI 114 (c.rs.take i)))]) (fun i=>i<=c.rs.length) (fun i=>c.rs.length-i) 0 5 380 (fun _:Unit=>[(1,.ptr 50 0 0)]) (fun _=>[(50,.cells 0 [evsV c.ev,its 99 c.cs,its 114 c.rs,exs c.xs,cos c.ks])]) (fun _=>True) ?_ (Zah _) ?_ ?_;·rw[show nmsI 99 c.cs++nmsI 114 (c.rs.take 0)=nmsI 99 c.cs by simp[nmsI]];refine⟨[(50,.blk 50 0),(68,.blk 68 0)],rfl,au0,?_,au18⟩;exact ZcF rfl rfl gg (Zcv a) (ZcH rfl rfl gg (RnM.mapS fun _ _=>Zct rfl) ZcE)
 ·rintro i hi;by_cases b:i<c.rs.length
  ·obtain⟨x,f⟩:=Qao b;have m:=Zac f;have k:=SU.QbM (ch:=114) f;have q:5<=((c.rs.flatMap (itC 114)).drop (i*5)).length:=by rw[k];simp
   have g:=h.ra x m;have u:=QjA h.rn f;have o:(nmsI 99 c.cs++nmsI 114 (c.rs.take i)).length<=100:=by simp[nmsI];omega
   have t:=Qvz (i:=x.1) (by omega);have l:[114,UInt8.ofNat (48+x.1)]∉nmsI 99 c.cs++nmsI 114 (c.rs.take i):=by
    intro hm;rcases Zay.1 hm with hm|hm;·exact QrE (by decide) hm
    exact Qo7 (ch:=114) h.rn (by omega) f hm
   have d:(uUp c.cs).length<=1000000:=by have:=Qkd (l:=c.cs) h.ca;omega
   have p:=Qnn (ch:=114) f;refine Zc5 (Zc7 b k q) ?_;refine SU.chc (item83F _ _ _ _ g t l o (Qgg h.ca) d (fun e he=>(Qhw h.ca).2 (h.rsub x m e he)) gg) ?_;refine Zc4 ?_;refine⟨i+1,by omega,by omega,?_⟩;rw[p,<-ZaR];refine⟨[(50,.blk 50 0),(68,.blk 68 0)],rfl,au0,?_,au18⟩;exact ZcF rfl rfl gg (Zcv a) (ZcH rfl rfl gg (RnM.mapS fun _ _=>Zct rfl) ZcE)
  refine Zc5 b ?_;refine⟨(),?_⟩;refine⟨[(50,.blk 50 0)],rfl,au0,?_,au18⟩;exact ZcF rfl rfl gg (Zcv a) ZcE
 rintro _ _;refine Zc4 ?_;refine cp v ?_;refine Zc4 ?_;refine cp hdC ?_;refine Zc4 ?_;exact⟨.inr trivial,_,rfl,rfl⟩
end Go.AM.SO
namespace Go.AM.SO
open Go.Proofs Go.AM.SD Go.AM.SE
def auC(a:Aut):List AV:=[sliN a.al,.int .i64 (a.n:Int),sliN a.ms,egsN a.es]
abbrev auts(l:List Aut):AV:=.fsl (l.flatMap auC) l.length 4
theorem QaV(l:List Aut):noRefs (l.flatMap auC)=true:=Qa3 (fun x=>by simp only[auC,noRefs,noRef,Qad,Qaf];rfl) l
theorem Qbk(l:List Aut):noRef (auts l)=true:=by simp only[noRef];exact QaV l
theorem Qhi(l:List Aut):(l.flatMap auC).length=l.length*4:=Qba (k:=4) (fun _=>rfl) l
theorem Qet{l:List Aut}{i:Nat}{x:Aut}(h:l[i]?=some x):(l.flatMap auC).drop (i*4)=sliN x.al::.int .i64 (x.n:Int)::sliN x.ms::egsN x.es::(l.drop (i+1)).flatMap auC:=Qa6 (f:=auC) (k:=4) (fun _=>rfl) h
theorem _root_.Go.AM.au19{p:Prop}(h:p:=by repeat(first|exact ZcC|(refine ZcD ?_ ?_;·(first|exact Rn.any|exact Rn.x1 rfl rfl|exact Rn.x2 rfl rfl|exact Rn.x3 rfl rfl|exact Rn.x4 rfl rfl|exact Rn.x5 rfl|exact Rn.x6 rfl|exact Rn.x7 rfl|(refine Rn.slot ?_ ?_;(first|rfl|(rw[ZaX];rfl));(first|rfl|(simp only[noRef,noRefs,Qag,Zag,Zad,Zai,Qad,Qan,Qae,Qah];done)))|(refine Rn.fn ?_ ?_<;>(repeat'(first|exact ZcK|refine ZcL ?_ ?_|exact Zct rfl|exact Rn.x6 rfl|exact Rn.x2 rfl rfl|exact Rn.x5 rfl|exact Rn.x1 rfl rfl))))))):p:=h
theorem _root_.Go.AM.au20{p:Prop}(h:p:=by repeat'(first|exact ZcE|(refine Zcv ?_;first|rfl|(simp only[noRef,noRefs,Qag,Zag,Zad,Zai,Qad,Qan,Qae,Qah];done))|exact ZcR rfl|exact ZcK|exact(True.intro:RnM _ _ _ [] [])|refine ZcL ?_ ?_|(refine Zct ?_;first|rfl|(simp only[noRef,noRefs,Qag,Zag,Zad,Zai,Qad,Qan,Qae,Qah];done))|exact Rn.x1 rfl rfl|exact Rn.x2 rfl rfl|exact Rn.x3 rfl rfl|exact Rn.x4 rfl rfl|exact Rn.x5 rfl|exact Rn.x6 rfl|exact Rn.x7 rfl|refine ZcG rfl rfl ?_|refine ZcF rfl rfl rfl ?_ ?_|refine ZcH rfl rfl rfl ?_ ?_|refine ZcI rfl rfl ?_ ?_|refine ZcJ rfl rfl ?_ ?_)):p:=h
theorem check95(l:List Aut)(h:∀a∈l,WfJ a)(m:l.length<=12):PSpec Tryz.prog 113 [auts l] (.int .i64 0):=by
 refine Zcy 64 TP.ok113 rfl (by rw[noRefs,Qbk];rfl) rfl ?_;have g1:¬(12:Int)<(l.length:Int):=by omega
 have c:=Qbk l;unfold TP.s113;refine Zc5 g1 ?_;refine Qap 100 (fun i:Nat=>[(9,auts l),(10,.int .i64 l.length),(11,.int .i64 i)]) (fun _=>[]) (fun i=>i<=l.length) (fun i=>l.length-i) 0 0 140 (fun _:Unit=>[]) (fun _=>[]) (fun _=>True) ?_ (Zah _) ?_ ?_;·exact⟨[],rfl,ZcB,ZcE,ZcD (Zct c) au19⟩
 ·rintro i hi;by_cases b:i<l.length
  ·obtain⟨x,k⟩:=Qao b;have d:=h x (Zac k);have f:=Qet k;have g:4<=((l.flatMap auC).drop (i*4)).length:=by rw[f];simp
   have hc:=check112 x d.wf (by have:=WfA.el1 d.wf;omega);refine Zc5 (Zc7 b f g) ?_;refine cp hc ?_;refine Zc4 ?_;exact⟨i+1,by omega,by omega,[],rfl,ZcB,ZcE,ZcD (Zct c) au19⟩
  refine Zc5 b ?_;exact⟨(),⟨[],rfl,au0,au20,au19⟩⟩
 rintro _ _;refine Zc4 ?_;exact⟨.inr trivial,_,rfl,rfl⟩
theorem QsZ{l:List Aut}{i:Nat}{x:Aut}(h:l[i]?=some x):evA (l.take (i+1))=mrg (fun a b=>a||b) (evA (l.take i)) x.al:=by unfold evA;rw[take_succ' h,Za5];rfl
theorem QfD(l:List Aut):evA l=uUp (l.map fun a=>(0,a)):=by unfold evA uUp;rw[List.foldl_map];rfl
theorem Qej{l:List Aut}(h:∀a∈l,WfI a):(evA l).Pairwise (·<·):=by rw[QfD];refine Qgg fun x c=>?_;obtain⟨a,b,rfl⟩:=Zan.1 c;exact h a b
theorem Qt4{l:List Aut}(h:∀a∈l,WfI a):(evA l).length<=5:=by rw[QfD];refine Qkd fun x c=>?_;obtain⟨a,b,rfl⟩:=Zan.1 c;exact h a b
theorem Qo8{l:List Aut}(h:∀a∈l,WfJ a):(evA l).Pairwise (·<·)/\∀e,e∈evA l↔∃a∈l,e∈a.al:=by
 have:=Qhv (l:=l.map fun a=>(0,a)) (out:=[]) (by simp) (fun x c=>by obtain⟨a,b,rfl⟩:=Zan.1 c;exact(h a b).wf.al);rw[QfD];refine⟨this.1,fun e=>(this.2 e).trans ?_⟩;constructor
 ·rintro(h|⟨y,d,he⟩);·cases h
  obtain⟨a,b,rfl⟩:=Zan.1 d;exact⟨a,b,he⟩
 rintro⟨a,b,c⟩;exact .inr ⟨_,Zan.2 ⟨a,b,rfl⟩,c⟩
theorem Qo9{l:List Aut}(h:∀a∈l,WfJ a):(evA l).length<=32:=by refine QaN 32 _ (by rw[ZaP];exact(Qo8 h).1.imp fun h=>by omega) fun x c=>?_;obtain⟨a,b,he⟩:=((Qo8 h).2 x).1 c;exact(h a b).wf.al5 x he
theorem events187(l:List Aut)(h:∀a∈l,WfJ a)(q:l.length<=12):PSpec Tryz.prog 196 [auts l] (sliN (evA l)):=by
 refine Zcx 64 TP.ok196 rfl (by rw[noRefs,Qbk];rfl) (Qae _) ?_;have d:=Qbk l;unfold TP.s196;refine Zc4 ?_;refine Qap 100 (fun i:Nat=>[(3,sliN (evA (l.take i))),(6,auts l),(7,.int .i64 l.length),(8,.int .i64 i)]) (fun _=>[]) (fun i=>i<=l.length) (fun i=>l.length-i) 0 0 140 (fun _:Unit=>[(3,sliN (evA l))]) (fun _=>[]) (fun _=>True) ?_ (Zah _) ?_ ?_;·exact⟨[],rfl,ZcB,ZcE,ZcD Rn.nilK (ZcD (Zct d) au19)⟩
 ·rintro i hi;by_cases c:i<l.length
  ·obtain⟨x,g⟩:=Qao c;have k:=h x (Zac g);have f:=Qet g;have m:4<=((l.flatMap auC).drop (i*4)).length:=by rw[f];simp
   have b:(evA (l.take i)).length<=1000000:=by have:=Qo9 (l:=l.take i) fun y p=>h y (ZaV p);omega
   have o:=union84 (evA (l.take i)) x.al b (by have:=Qcc k.wf;omega);rw[<-QsZ g]at o;refine Zc5 (Zc7 c f m) ?_;refine cp o ?_;refine Zc4 ?_;exact⟨i+1,by omega,by omega,[],rfl,ZcB,ZcE,ZcD (Zct (Qae _)) (ZcD (Zct d) au19)⟩
  have e:i=l.length:=by omega
  subst e;refine Zc5 (Zc6 c @Zao) ?_;exact⟨(),⟨[],rfl,au0,au20,au19⟩⟩
 rintro _ _;refine Zc4 ?_;exact⟨.inr trivial,_,rfl,Zct (Qae _)⟩
theorem has189(l:List Nat)(t:Nat)(b:l.Pairwise (·<·))(a:l.length<=1000000):PSpec Tryz.prog 142 [sliN l,.int .i64 (t:Int)] (.bool (l.contains t)):=by refine Zcy 64 TP.ok142 rfl (by(try simp only[noRefs,Qad,noRef,noRefs,Zag,Zad])<;>rfl) rfl ?_;have h:=find57 l t (b.imp fun h=>Nat.le_of_lt h) a;unfold TP.s142;refine Zc4 ?_;refine cp h ?_;refine Zc4 ?_;exact⟨.inr trivial,_,rfl,rfl⟩
end Go.AM.SO
namespace Go.AM.SO
open Go.Proofs Go.AM.SD Go.AM.SE
theorem _root_.Go.AM.Zc0{p q:Prop}(k:q)(h:p=q:=by conv=>lhs;simp(disch:=first|omega|exact PairsOK.mk rfl|(simp only[lenW]<;>omega))only[Qaa,Qab,Qac,wW,wV,simprocAttr]):p:=h▸k
theorem _root_.Go.AM.Zc1{p q A:Prop}(a:A)(k:q)(h:A->p=q:=by intro a;conv=>lhs;simp(disch:=first|omega|exact PairsOK.mk rfl|(simp only[lenW]<;>omega))only[a,Qaa,Qab,Qac,wW,wV,simprocAttr]):p:=h a▸k
theorem _root_.Go.AM.Zc3{p q A:Prop}(a:A)(k:q)(h:A->p=q:=by intro a;conv=>lhs;simp(disch:=first|omega|exact PairsOK.mk rfl|(simp only[lenW]<;>omega))only[a,Zao,Qaa,Qab,Qac,wW,wV,simprocAttr]):p:=h a▸k
theorem Qaw{α:Type}{f:α->AV}(h:∀x,noRef (f x)=true)(l:List α):noRefs (l.map f)=true:=by induction l with|nil=>rfl|cons x l a=>simp only[ZaO,noRefs,h,a];rfl
def pE(e:Ed):Nat×Nat:=(e.1,e.2.1)
def vE(es:List Ed)(p:Nat×Nat):AV:=.int .i64 (((stepA es p.1 p.2).getD 0:Nat):Int)
abbrev emV(a:Aut):AV:=fmapG kP (vE a.es) (a.es.map pE)
theorem QcM(a:Aut):noRef (emV a)=true:=by rw[emV,fmapG,noRef,Qaw (fun _=>rfl),Qaw (fun _=>rfl)];rfl
theorem Qaa{x y:List AV}:(AV.fmap x y).cells=[.fmap x y]:=rfl
theorem Qab{x y:List AV}:(AV.fmap x y).one=true:=rfl
theorem Qac{x y:List AV}:(AV.fmap x y).boxable=true:=rfl
abbrev macV(l:List Aut):AV:=.agg [auts l,sliN (evA l),.fsl (l.map emV) l.length 1]
theorem Qdc(l:List Aut):noRef (macV l)=true:=by rw[macV,noRef,noRefs,noRefs,noRefs,Qbk,Qae,noRef,Qaw QcM];rfl
theorem QjB{e:Ed}{es:List Ed}{s v:Nat}:stepA (e::es) s v=if e.1=s/\e.2.1=v then some e.2.2 else stepA es s v:=by unfold stepA;rw[List.find?_cons];by_cases h1:e.1=s<;>by_cases a:e.2.1=v<;>simp[h1,a,beq_eq_false_iff_ne.2]
theorem QdL:∀{es:List Ed},es.Pairwise (fun x y=>x.1<y.1\/(x.1=y.1/\x.2.1<y.2.1))->∀{e:Ed},e∈es->stepA es e.1 e.2.1=some e.2.2
 |x::es,h,e,he=>by
  rw[Zax]at h;rw[QjB];rcases Zas.1 he with rfl|he;·rw[if_pos ⟨rfl,rfl⟩]
  have :=h.1 e he;rw[if_neg (by omega)];exact QdL h.2 he
theorem QjC:∀{es:List Ed}{s v:Nat},(s,v)∉es.map pE->stepA es s v=none|[],s,v,_=>rfl|x::es,s,v,h=>by rw[ZaO,Zas,not_or]at h;rw[QjB,if_neg fun a=>h.1 (by unfold pE;rw[a.1,a.2])];exact QjC h.2
theorem Qe8{es:List Ed}{s v t:Nat}(h:stepA es s v=some t):(s,v)∈es.map pE:=by refine Decidable.byContradiction fun a=>?_;rw[QjC a]at h;cases h
theorem Qs0{es:List Ed}(h:es.Pairwise (fun x y=>x.1<y.1\/(x.1=y.1/\x.2.1<y.2.1))){j:Nat}{e:Ed}(he:es[j]?=some e):(e.1,e.2.1)∉(es.take j).map pE:=by
 intro hm;obtain⟨y,f,b⟩:=Zan.1 hm;obtain⟨k,hk⟩:=List.mem_iff_getElem?.1 f;have a:k<j:=by
  rcases ZbE k j with h|h;·exact h
  rw[ZaF (by rw[Zaw];omega)]at hk;cases hk
 rw[List.getElem?_take_of_lt a]at hk;obtain⟨k1,k2⟩:=Zaf.1 hk;obtain⟨c,d⟩:=Zaf.1 he;have:=Zbh.1 h k j k1 c a;rw[k2,d]at this;unfold pE at b;simp only[Zaj]at b;omega
theorem QvA{es:List Ed}(h:es.Pairwise (fun x y=>x.1<y.1\/(x.1=y.1/\x.2.1<y.2.1))){e:Ed}(he:e∈es):updG (vE es) (e.1,e.2.1) (.int .i64 (e.2.2:Int))=vE es:=by
 funext p;unfold updG;split;·rename_i hp;subst hp;unfold vE;rw[QdL h he];rfl
 rfl
theorem _root_.Go.AM.au21{p:Prop}(h:p:=by repeat(first|exact ZcC|(refine ZcD ?_ ?_;·(first|exact Rn.any|exact Rn.x1 rfl rfl|exact Rn.x2 rfl rfl|exact Rn.x3 rfl rfl|exact Rn.x4 rfl rfl|exact Rn.x5 rfl|exact Rn.x6 rfl|exact Rn.x7 rfl|(refine Rn.slot ?_ ?_;(first|rfl|(rw[ZaX];rfl));(first|rfl|(simp only[noRef,noRefs,Qag,Zag,Zad,Zai,Qad,Qan,Qae,Qah,QaV,Qaf];done)))|(refine Rn.fn ?_ ?_<;>(repeat'(first|exact ZcK|refine ZcL ?_ ?_|exact Zct rfl|exact Rn.x6 rfl|exact Rn.x2 rfl rfl|exact Rn.x5 rfl|exact Rn.x1 rfl rfl))))))):p:=h
theorem open96(l:List Aut)(h:∀a∈l,WfJ a)(w:l.length<=12):PSpec Tryz.prog 114 [auts l] (macV l):=by
 refine Zcx 64 TP.ok114 rfl (by rw[noRefs,Qbk];rfl) (Qdc l) ?_;have q:=events187 l h w;have b:=Qbk l;have hlen:(l.map emV).length=l.length:=Zaz ..;unfold TP.s114;refine Zc0 ?_;refine cp q ?_;refine Zc0 ?_;refine Qap 120 (fun i:Nat=>[(2,.ptr 51 0 0),(3,.ptr 52 0 0),(13,auts l),(14,.int .i64 l.length),(15,.int .i64 i)]) (fun i=>[(51,.cells 0 [.nilsl,.nilsl,.nilsl]),(52,.cells 0 [auts l,sliN (evA l),.sl 76 0 0 i 1]),(76,.cells 0 ((l.take i).map emV))]) (fun i=>i<=l.length) (fun i=>l.length-i) 0 0 300 (fun _:Unit=>[(2,.ptr 51 0 0),(3,.ptr 52 0 0)]) (fun _=>[(51,.cells 0 [.nilsl,.nilsl,.nilsl]),(52,.cells 0 [auts l,sliN (evA l),.fsl (l.map emV) l.length 1])]) (fun _=>True) ⟨[(51,.blk 64 0),(52,.blk 69 0),(76,.nil)],rfl,au0,?_,au21⟩ (Zah _) ?_ ?_;·exact ZcF rfl rfl gg (Zcv rfl) (ZcF rfl rfl gg (ZcL (Zct b) (ZcL (Zct (Qae _)) (ZcL (Rn.x4 rfl rfl) ZcK))) (ZcG rfl rfl ZcE))
 ·rintro i hi;by_cases f:i<l.length
  ·obtain⟨x,u⟩:=Qao f;have c:=h x (Zac u);have k:=Qet u;have r:4<=((l.flatMap auC).drop (i*4)).length:=by rw[k];simp
   have m:=take_succ' u;have t:(l.take i).length=i:=by rw[Zaw];omega
   have s:((l.take i).map emV).length=i:=by rw[Zaz,t]
   have z:=WfA.el1 c.wf;refine Zc1 (Zc7 f k r) ?_;refine Qap 220 (fun j:Nat=>[(2,.ptr 51 0 0),(3,.ptr 52 0 0),(13,auts l),(14,.int .i64 l.length),(15,.int .i64 i),(6,.map 77 0),(21,egsN x.es),(22,.int .i64 x.es.length),(23,.int .i64 j)]) (fun j=>[(51,.cells 0 [.nilsl,.nilsl,.nilsl]),(52,.cells 0 [auts l,sliN (evA l),.sl 76 0 0 i 1]),(76,.cells 0 ((l.take i).map emV)),(77,.map 0 (mapG kP (vE x.es) ((x.es.take j).map pE)))]) (fun j=>j<=x.es.length) (fun j=>x.es.length-j) 0 2 280 (fun _:Unit=>[(2,.ptr 51 0 0),(3,.ptr 52 0 0),(13,auts l),(14,.int .i64 l.length),(15,.int .i64 i),(6,emV x)]) (fun _=>[(51,.cells 0 [.nilsl,.nilsl,.nilsl]),(52,.cells 0 [auts l,sliN (evA l),.sl 76 0 0 i 1]),(76,.cells 0 ((l.take i).map emV))]) (fun _=>True) ⟨[(51,.blk 51 0),(52,.blk 52 0),(76,.blk 76 0),(77,.blk 125 0)],rfl,au0,?_,au21⟩ (Zah _) ?_ ?_;·exact ZcF rfl rfl gg (Zcv rfl) (ZcF rfl rfl gg (ZcL (Zct b) (ZcL (Zct (Qae _)) (ZcL (Rn.x1 rfl rfl) ZcK))) (ZcF rfl rfl gg (Zcv (Qaw QcM _)) (ZcH rfl rfl gg (ZcV fun _ _=>⟨rfl,rfl⟩) ZcE)))
   ·rintro j A;by_cases d:j<x.es.length
    ·obtain⟨e,he⟩:=Qao d;have g:=QaJ he;have o:3<=((x.es.flatMap edC).drop (j*3)).length:=by rw[g];simp
     have p:=Qs0 c.wf.es he;have v:=QvA c.wf.es (Zac he);refine Zc1 (Zc7 d g o) ?_;refine Qbf (c:=kP) (f:=vE x.es) (x:=(e.1,e.2.1)) (l:=(x.es.take j).map pE) (g:=0) gg Qm8 p (by omega) ?_;rw[v];refine Zc0 ?_;refine⟨j+1,by omega,by omega,?_⟩;rw[take_succ' he,ZaJ];refine⟨[(51,.blk 51 0),(52,.blk 52 0),(76,.blk 76 0),(77,.blk 77 0)],rfl,au0,?_,au21⟩;exact ZcF rfl rfl gg (Zcv rfl) (ZcF rfl rfl gg (ZcL (Zct b) (ZcL (Zct (Qae _)) (ZcL (Rn.x1 rfl rfl) ZcK))) (ZcF rfl rfl gg (Zcv (Qaw QcM _)) (ZcH rfl rfl gg (ZcV fun _ _=>⟨rfl,rfl⟩) ZcE)))
    have e:j=x.es.length:=by omega
    subst e;refine Zc3 d ?_;refine⟨(),[(51,.blk 51 0),(52,.blk 52 0),(76,.blk 76 0)],rfl,ZcB,?_,?_⟩;·exact ZcF rfl rfl gg (Zcv rfl) (ZcF rfl rfl gg (ZcL (Zct b) (ZcL (Zct (Qae _)) (ZcL (Rn.x1 rfl rfl) ZcK))) (ZcF rfl rfl gg (Zcv (Qaw QcM _)) ZcE))
    exact ZcD (Rn.x2 rfl rfl) (ZcD (Rn.x2 rfl rfl) (ZcD (Zct b) (ZcD (Zct rfl) (ZcD (Zct rfl) (ZcD (Rn.fzM (b:=77) (g:=0) gg rfl rfl fun _ _=>⟨rfl,rfl⟩) ZcC)))))
   rintro _ _;have y:=QcM x;refine Zc1 s ?_;refine⟨i+1,by omega,by omega,?_⟩;rw[m,ZaJ];refine⟨[(51,.blk 51 0),(52,.blk 52 0),(76,.blk 76 1)],rfl,au0,?_,au21⟩;exact ZcF rfl rfl gg (Zcv rfl) (ZcF rfl rfl gg (ZcL (Zct b) (ZcL (Zct (Qae _)) (ZcL (Rn.x1 rfl rfl) ZcK))) (ZcF rfl rfl gg (Zcv (SU.Qau (Qaw QcM _) (Qaw QcM [x]))) ZcE))
  have e:i=l.length:=by omega
  subst e;refine Zc3 f ?_;refine⟨(),?_⟩;refine⟨[(51,.blk 51 0),(52,.blk 52 0)],rfl,au0,?_,au21⟩;exact ZcF rfl rfl gg (Zcv rfl) (ZcF rfl rfl gg (ZcL (Zct b) (ZcL (Zct (Qae _)) (ZcL (ZcM rfl rfl rfl rfl (by simp) (Zcv (Qaw QcM _))) ZcK))) ZcE)
 rintro _ _;refine Zc0 ?_;refine⟨.inr trivial,_,rfl,?_⟩;exact Zct (Qdc l)
end Go.AM.SO
namespace Go.AM.SO
open Go.Proofs Go.AM.SD Go.AM.SE
theorem Qek(l:List Aut):noRefs [auts l,sliN (evA l),.fsl (l.map emV) l.length 1]=true:=by have:=Qdc l;rwa[macV,noRef]at this
theorem QrF(n:Nat)(x:Int):(List.replicate n [AV.int .i64 x]).flatten=ints (List.replicate n x):=by induction n with|zero=>rfl|succ n a=>rw[Zbv,ZbP,a];rfl
theorem QvB(n:Nat):nz (List.replicate n 0)=List.replicate n 0:=by simp[nz]
theorem initial97(l:List Aut)(h:∀a∈l,WfJ a)(q:0<l.length)(r:l.length<=12):PSpec Tryz.prog 115 [macV l] (.tup [sliN (List.replicate l.length 0),.bool true]):=by
 refine Zcx 64 TP.ok115 rfl (by rw[noRefs,Qdc];rfl) (by rw[noRef,noRefs,Qae];rfl) ?_;have p:=Qbk l;have b:=Qek l;have k:(l.length:Int)<=140737488355328:=by omega
 have g:(8:Int)*l.length<=140737488355328:=by omega
 unfold TP.s115;refine Zc0 ?_;refine Qap 100 (fun i:Nat=>[(1,.ptr 51 0 0),(7,auts l),(8,.int .i64 l.length),(9,.int .i64 i)]) (fun _=>[(51,.cells 0 [auts l,sliN (evA l),.fsl (l.map emV) l.length 1])]) (fun i=>i<=l.length) (fun i=>l.length-i) 0 0 140 (fun _:Unit=>[(1,.ptr 51 0 0)]) (fun _=>[(51,.cells 0 [auts l,sliN (evA l),.fsl (l.map emV) l.length 1])]) (fun _=>True) ⟨[(51,.blk 64 0)],rfl,au0,?_,au21⟩ (Zah _) ?_ ?_;·exact ZcF rfl rfl gg (Zcv b) ZcE
 ·rintro i hi;by_cases c:i<l.length
  ·obtain⟨x,o⟩:=Qao c;have m:=h x (Zac o);have d:=Qet o;have f:4<=((l.flatMap auC).drop (i*4)).length:=by rw[d];simp
   have hp:¬(x.n:Int)=0:=by have:=m.pos;omega
   simp(disch:=first|omega|exact PairsOK.mk rfl|(simp only[lenW]<;>omega))only[c,d,f,hp,Qaa,Qab,Qac,wW,wV,simprocAttr];refine⟨i+1,by omega,by omega,?_⟩;refine⟨[(51,.blk 51 0)],rfl,au0,?_,au21⟩;exact ZcF rfl rfl gg (Zcv b) ZcE
  refine Zc1 c ?_;refine⟨(),?_⟩;refine⟨[(51,.blk 51 0)],rfl,au0,?_,au21⟩;exact ZcF rfl rfl gg (Zcv b) ZcE
 rintro _ _;refine Zc5 (Zda k g @QrF @Qaa @Qab @Qac) ?_;refine⟨.inr trivial,_,rfl,?_⟩;refine Rn.tup (ZcL ?_ (Zcv rfl));have e:sliN (List.replicate l.length 0)=.fsl (ints (List.replicate l.length 0)) l.length 1:=by rw[sliN,QvB,ZbZ]
 rw[e];exact ZcN (b:=143) rfl (by simp[ints]) (Zcv (Qad _))
theorem _root_.Go.AM.au22{p:Prop}(h:p:=by repeat'(first|exact ZcE|(refine Zcv ?_;first|rfl|(simp only[noRef,noRefs,Qag,Zag,Zad,Zai,Qad,Qan,Qae,Qah,QaV,Qaf];done))|exact ZcR rfl|exact ZcK|exact(True.intro:RnM _ _ _ [] [])|refine ZcL ?_ ?_|(refine Zct ?_;first|rfl|(simp only[noRef,noRefs,Qag,Zag,Zad,Zai,Qad,Qan,Qae,Qah,QaV,Qaf];done))|exact Rn.x1 rfl rfl|exact Rn.x2 rfl rfl|exact Rn.x3 rfl rfl|exact Rn.x4 rfl rfl|exact Rn.x5 rfl|exact Rn.x6 rfl|exact Rn.x7 rfl|refine ZcG rfl rfl ?_|refine ZcF rfl rfl rfl ?_ ?_|refine ZcH rfl rfl rfl ?_ ?_|refine ZcI rfl rfl ?_ ?_|refine ZcJ rfl rfl ?_ ?_)):p:=h
theorem marked99(l:List Aut)(t:List Nat)(h:∀a∈l,WfJ a)(z:l.length<=12)(w:t.length=l.length):PSpec Tryz.prog 117 [macV l,sliN t] (.bool (mkdT l t)):=by
 refine Zcx 64 TP.ok117 rfl (by rw[noRefs,Qdc,noRefs,Qae];rfl) rfl ?_;have v:=Qbk l;have s:=Qek l;unfold TP.s117;refine Zc0 ?_;refine Qap 100 (fun i:Nat=>[(1,sliN t),(8,auts l),(9,.int .i64 l.length),(10,.int .i64 i)]) (fun _=>[]) (fun i=>i<=l.length/\mkdT l t=mkdT (l.drop i) (t.drop i)) (fun i=>l.length-i) 0 0 140 (fun _:Unit=>[]) (fun _=>[]) (fun _=>mkdT l t=true) ⟨[],rfl,au0,au22,au21⟩ ⟨Zah _,rfl⟩ ?_ ?_
 ·rintro i⟨hi,hm⟩;by_cases b:i<l.length
  ·obtain⟨x,o⟩:=Qao b;obtain⟨y,p⟩:=Qao (l:=t) (i:=i) (by omega);have d:=h x (Zac o);have g:=Qet o;have k:4<=((l.flatMap auC).drop (i*4)).length:=by rw[g];simp
   have f:i<t.length:=by omega
   have c:mkdT (l.drop i) (t.drop i)=(x.ms.contains y&&mkdT (l.drop (i+1)) (t.drop (i+1))):=by obtain⟨h1,r⟩:=Zaf.1 o;obtain⟨u,q⟩:=Zaf.1 p;rw[Zbi h1,Zbi u,r,q];rfl
   have hc:=has189 x.ms y d.wf.ms (by have:=QaN x.n x.ms d.wf.nd d.wf.msn;have:=d.n10;omega);cases m:x.ms.contains y;·rw[m]at hc c;refine Zc1 (Zc9 b f g k (Qaz p)) ?_;refine cp hc ?_;refine Zc0 ?_;refine⟨.inr trivial,_,rfl,?_⟩;rw[hm,c];exact Zct rfl
   rw[m,Zai]at c;rw[m]at hc;refine Zc1 (Zc9 b f g k (Qaz p)) ?_;refine cp hc ?_;refine Zc0 ?_;exact⟨i+1,by omega,⟨by omega,by rw[hm,c]⟩,⟨[],rfl,au0,au22,au21⟩⟩
  have e:i=l.length:=by omega
  subst e;refine Zc1 b ?_;refine⟨(),by rw[hm,List.drop_eq_nil_of_le (ZaN _)];rfl,?_⟩;exact⟨[],rfl,au0,au22,au21⟩
 rintro _ hm;refine Zc0 ?_;refine⟨.inr trivial,_,rfl,?_⟩;rw[hm];exact Zct rfl
def stV:Option (List Nat)->AV|some n=>.tup [sliN n,.bool true]|none=>.tup [.nilsl,.bool false]
theorem QrG(o:Option (List Nat)):noRef (stV o)=true:=by cases o with|none=>rfl|some n=>rw[stV,noRef,noRefs,Qae];rfl
theorem Qno{l:List Aut}{t:List Nat}{e:Nat}{k:Nat}(h:stp l t e k=none):∀m,stp l t e (k+m)=none|0=>h|m+1=>by have:=Qno h m;show stp l t e (k+m+1)=none;unfold stp;rw[this]
theorem QvC{l:List Nat}{i x:Nat}:(ints (nz l)).set i (.int .i64 (x:Int))=ints (nz (l.set i x)):=by simp[ints,nz,List.map_set]
theorem Qt5{l:List Aut}{i:Nat}{x:Aut}(h:l[i]?=some x):((l.map emV).drop i).head?=some (emV x):=by rw[Zca,ZaD,h];rfl
theorem step100(l:List Aut)(t:List Nat)(e:Nat)(h:∀a∈l,WfJ a)(N:0<l.length)(P:l.length<=12)(M:t.length=l.length):PSpec Tryz.prog 118 [macV l,sliN t,.int .i64 (e:Int)] (stV (stepT l t e)):=by
 refine Zcx 64 TP.ok118 rfl (by rw[noRefs,Qdc,noRefs,Qae];rfl) (QrG _) ?_;have J:=Qbk l;have o:=Qek l;have A:(l.map emV).length=l.length:=Zaz ..;have C:=clone56 t (by omega);unfold TP.s118;refine Zc0 ?_;refine ch (HSpec.of_O (b:=83) (by rw[noRefs,Qae];rfl) C (by repeat(first|exact Fresh.e|exact Fresh.le (by assumption) (by omega)|refine Fresh.set ?_ (by omega) (by omega))) rfl) ?_;refine Zc0 ?_;refine Qap 120 (fun s:Nat×List Nat=>[(1,sliN t),(2,.int .i64 (e:Int)),(3,.ptr 51 0 0),(8,.sl 60 0 0 t.length 1),(16,auts l),(17,.int .i64 l.length),(18,.int .i64 s.1)]) (fun s=>[(51,.cells 0 [auts l,sliN (evA l),.fsl (l.map emV) l.length 1]),(60,.cells 0 (ints (nz s.2)))]) (fun s=>s.1<=l.length/\s.2.length=t.length/\stp l t e s.1=some s.2) (fun s=>l.length-s.1) (0,t) 0 200 (fun n:List Nat=>[(8,.sl 60 0 0 t.length 1)]) (fun n=>[(60,.cells 0 (ints (nz n)))]) (fun n=>n.length=t.length/\stepT l t e=some n) ?_ ⟨Zah _,rfl,rfl⟩ ?_ ?_;·refine⟨[(51,.blk 64 0),(60,.blk 83 0)],rfl,au0,?_,au21⟩;exact ZcF rfl rfl gg (Zcv o) (ZcF rfl rfl gg (Zcv (Qad _)) ZcE)
 ·rintro⟨i,n⟩⟨hi,q,v⟩;dsimp only at hi q v⊢;by_cases g:i<l.length
  ·obtain⟨x,z⟩:=Qao g;obtain⟨y,G⟩:=Qao (l:=t) (i:=i) (by omega);have E:t.getD i 0=y:=by rw[Zak,G];rfl
   have k:=h x (Zac z);have m:=Qet z;have u:4<=((l.flatMap auC).drop (i*4)).length:=by rw[m];simp
   have c:i<t.length:=by omega
   have B:i+1<=n.length:=by omega
   have hc:=has189 x.al e k.wf.al (by have:=Qcc k.wf;omega);have b:stp l t e (i+1)=if e∈x.al then(match stepA x.es y e with|some to=>some (n.set i to)|none=>none)else some n:=by unfold stp;rw[v,z,E];try rfl
   by_cases w:e∈x.al
   ·rw[ZaE.2 w]at hc;rw[if_pos w]at b
    refine Zc1 (Zc8 g c m u) ?_;refine cp hc ?_;refine Zc1 (Zc9 g c (Qt5 z) (Qaz G) A) ?_;cases f:stepA x.es y e with|none=>
     rw[f]at b;have hk:(y,e)∉x.es.map pE:=fun hm=>by obtain⟨d,I,p⟩:=Zan.1 hm;have H:=QdL k.wf.es I;unfold pE at p;simp only[Zaj]at p;rw[p.1,p.2,f]at H;cases H
     have r:stepT l t e=none:=by have:=Qno b (l.length-(i+1));rwa[show i+1+(l.length-(i+1))=l.length by omega]at this
     refine Qeb (c:=kP) (f:=vE x.es) (x:=(y,e)) (l:=x.es.map pE) Qm8 hk ?_;refine Zc0 ?_;refine⟨.inr trivial,_,rfl,?_⟩;rw[r];exact Zct rfl|some to=>
     rw[f]at b;have L:vE x.es (y,e)=.int .i64 (to:Int):=by unfold vE;rw[f];rfl
     refine Qdn (c:=kP) (f:=vE x.es) (x:=(y,e)) (l:=x.es.map pE) Qm8 (Qe8 f) ?_;rw[L];refine Zc5 (Zda c B @QvC @Qaa @Qab @Qac) ?_;refine⟨(i+1,n.set i to),by dsimp only;omega,⟨by dsimp only;omega,by rw[List.length_set];exact q,b⟩,?_⟩;refine⟨[(51,.blk 51 0),(60,.blk 60 0)],rfl,au0,?_,au21⟩;exact ZcF rfl rfl gg (Zcv o) (ZcF rfl rfl gg (Zcv (Qad _)) ZcE)
   rw[show x.al.contains e=false by rw[ZaC];exact fun K=>w (ZaE.1 K)]at hc;rw[if_neg w]at b;refine Zc1 (Zc8 g c m u) ?_;refine cp hc ?_;refine Zc0 ?_;refine⟨(i+1,n),by dsimp only;omega,⟨by dsimp only;omega,q,b⟩,?_⟩;refine⟨[(51,.blk 51 0),(60,.blk 60 0)],rfl,au0,?_,au21⟩;exact ZcF rfl rfl gg (Zcv o) (ZcF rfl rfl gg (Zcv (Qad _)) ZcE)
  have p:i=l.length:=by omega
  subst p;refine Zc1 g ?_;refine⟨n,⟨q,v⟩,?_⟩;refine⟨[(60,.blk 60 0)],rfl,au0,?_,au21⟩;exact ZcF rfl rfl gg (Zcv (Qad _)) ZcE
 rintro n⟨q,v⟩;refine Zc0 ?_;refine⟨.inr trivial,_,rfl,?_⟩;rw[v];refine Rn.tup (ZcL ?_ (Zcv rfl));rw[<-q];exact ZcN gg (by simp[ints]) (Zcv (Qad _))
end Go.AM.SO
namespace Go.AM.TK
open Go.Proofs
set_option maxHeartbeats 4000000
noncomputable section
def cf:YA.Cf:={}
noncomputable def ft:FT2:=YA.tre Tryz.prog cf 20 [62,108,109,116,119,194,197,198,249,287]
theorem ft_ok:ft.OK Tryz.prog:=YA.QgS _ _ (YA.QfW (by kernel_rfl))
end
end Go.AM.TK
namespace Go.AM.SO
open Go.Proofs Go.AM.SD
noncomputable section
def keyT(t:List Nat):List UInt8:=t.flatMap fun x=>[UInt8.ofNat (48+x),32]
def keyB(k:Nat)(t:List Nat):Bool:=callR ansB noOrc TK.ft.get (exR ansB noOrc TK.ft.get 1000) (.c .pure) k [sliN t] .e 64 (fun u _ _=>eqAV (.str (keyT t)) u)
theorem QjD{k:Nat}{t:List Nat}(h:keyB k t=true):PSpec Tryz.prog k [sliN t] (.str (keyT t)):=Qcs (t:=TK.ft) TK.ft_ok QeQ (d:=1000) (eqAV _) (fun u h=>(Qdz _ _ h).symm) h
def allK(k n:Nat):List Nat->Bool:=@Nat.rec (fun _=>List Nat->Bool) (fun t=>keyB k t) (fun _ a t=>ifB (a (t++[0])) (ifB (a (t++[1])) (a (t++[2])) false) false) n
theorem QfE{k:Nat}:∀{t u:List Nat},allK k t.length u=true->(∀x∈t,x<3)->keyB k (u++t)=true
 |[],u,h,_=>by rw[Zaq];exact h|x::t,u,h,a=>by
  have e:allK k (x::t).length u=ifB (allK k t.length (u++[0])) (ifB (allK k t.length (u++[1])) (allK k t.length (u++[2])) false) false:=rfl;rw[e]at h;simp only[QaF]at h;have d:=a x (by simp);have b:allK k t.length (u++[x])=true:=by grind
  have:=QfE b fun y c=>a y (by simp[c]);simp_all
theorem Qt6:allK 116 1 []=true:=by kernel_rfl
theorem Qt7:allK 116 2 []=true:=by kernel_rfl
theorem Qt8:allK 116 3 []=true:=by kernel_rfl
theorem key98{t:List Nat}(c:0<t.length)(b:t.length<=3)(a:∀x∈t,x<3):PSpec Tryz.prog 116 [sliN t] (.str (keyT t)):=by refine QjD (QfE (u:=[]) ?_ a);grind[Qt6,Qt7,Qt8]
theorem Qnp:∀{s t:List Nat},s.length=t.length->(∀x∈s,x<10)->(∀x∈t,x<10)->keyT s=keyT t->s=t
 |[],[],_,_,_,_=>rfl|x::s,y::t,d,b,c,h=>by
  have g:keyT (x::s)=UInt8.ofNat (48+x)::32::keyT s:=rfl;have f:keyT (y::t)=UInt8.ofNat (48+y)::32::keyT t:=rfl;rw[g,f]at h;simp only[List.cons.injEq,true_and]at h;have k:=b x (by simp);have i:=c y (by simp);have h1:x=y:=by have:=congrArg UInt8.toNat h.1;grind[UInt8.toNat_ofNat']
  subst h1;rw[Qnp (by simpa using d) (fun z a=>b z (by simp[a])) (fun z a=>c z (by simp[a])) h.2]
end
end Go.AM.SO
namespace Go.AM.SO
open Go.Proofs Go.AM.SD Go.AM.SE
abbrev ixT(T:List (List Nat))(n:List Nat):Nat:=T.findIdx (·==n)
theorem Qhy{A B:List (List Nat)}{n:List Nat}(h:A<+:B)(a:n∈A):ixT A n=ixT B n:=by obtain⟨C,rfl⟩:=h;grind
theorem Qke{A:List (List Nat)}{n:List Nat}(a:n∉A):ixT A n=A.length:=by grind
theorem Qt9{A:List (List Nat)}{n:List Nat}(a:n∉A):ixT A n=ixT (A++[n]) n:=by grind
theorem Qhz{A:List (List Nat)}{n:List Nat}(a:n∈A):A[ixT A n]?=some n:=by grind
theorem Qhj{A:List (List Nat)}{n:List Nat}(a:n∈A):ixT A n<A.length:=Zbp ⟨n,a,by simp⟩
theorem QrH{A:List (List Nat)}{n:List Nat}{i:Nat}(a:A.Nodup)(h:A[i]?=some n):ixT A n=i:=by grind[Qhz,List.getElem?_inj]
def rowE(l:List Aut)(ev:List Nat)(T:List (List Nat))(j:Nat)(t:List Nat):List Ed:=ev.filterMap fun e=>(stepT l t e).map fun n=>(j,e,ixT T n)
theorem QpX{l:List Aut}{ev:List Nat}{A B:List (List Nat)}{j:Nat}{t:List Nat}(h:A<+:B)(hc:∀e∈ev,∀n,stepT l t e=some n->n∈A):rowE l ev A j t=rowE l ev B j t:=by unfold rowE;refine a fun e he=>?_;cases b:stepT l t e with|none=>rfl|some n=>simp only[ZbD,Qhy h (hc e he n b)]where a{α β:Type}{f g:α->Option β}:∀{l:List α},(∀x∈l,f x=g x)->l.filterMap f=l.filterMap g|[],_=>rfl|x::l,h=>by rw[ZbA,ZbA,h x (by simp),a (l:=l) fun y c=>h y (by simp[c])]
theorem Qls{l:List Aut}{i:Nat}{t:List Nat}:∀{ev:List Nat}{s:List (List Nat)×List Ed},(pRow l ev i t s).2=s.2++rowE l ev (pRow l ev i t s).1 i t/\∀e∈ev,∀n,stepT l t e=some n->n∈(pRow l ev i t s).1|[],s=>by simp_all[pRow,rowE]|e::ev,s=>by have h:=Qls (l:=l) (i:=i) (t:=t) (ev:=ev) (s:=pEv l i t s e);have hp:=QcK (l:=l) (i:=i) (t:=t) (ev:=ev) (s:=pEv l i t s e);have h1:pRow l (e::ev) i t s=pRow l ev i t (pEv l i t s e):=rfl;rw[h1];obtain⟨d,i2⟩:=h;cases p:stepT l t e with
 |none=>
  have b:pEv l i t s e=s:=by grind[pEv]
  rw[b]at d i2 hp⊢;refine⟨?_,fun g c n k=>?_⟩;·simp_all[rowE]
  grind|some n=>
  have b:pEv l i t s e=(if n∈s.1 then s.1 else s.1++[n],s.2++[(i,e,ixT s.1 n)]):=by grind[pEv]
  rw[b]at d i2 hp⊢;have a:n∈(if n∈s.1 then s.1 else s.1++[n]):=by grind
  have m:ixT s.1 n=ixT (if n∈s.1 then s.1 else s.1++[n]) n:=by grind
  have f:=Qhy hp a;refine⟨?_,fun g c o k=>?_⟩;·generalize pRow l ev i t (if n∈s.1 then s.1 else s.1++[n],s.2++[(i,e,ixT s.1 n)])=R at*;simp_all[rowE]
  grind
structure PE(l:List Aut)(ev:List Nat)(i:Nat)(s:List (List Nat)×List Ed):Prop where
 ed:s.2=(List.range i).flatMap fun j=>rowE l ev s.1 j (s.1.getD j [])cl:∀j t,j<i->s.1[j]?=some t->∀e∈ev,∀n,stepT l t e=some n->n∈s.1
 le:i<=s.1.length
theorem QiL{A B:List (List Nat)}(h:A<+:B){j:Nat}(a:j<A.length):B.getD j []=A.getD j []:=by obtain⟨C,rfl⟩:=h;grind
theorem QhA{A B:List (List Nat)}(h:A<+:B){j:Nat}(a:j<A.length):B[j]?=A[j]?:=by obtain⟨C,rfl⟩:=h;grind
theorem flatMap_congr'{α β:Type}{f g:α->List β}:∀{l:List α},(∀x∈l,f x=g x)->l.flatMap f=l.flatMap g|[],_=>rfl|x::l,h=>by rw[ZaA,ZaA,h x (by simp),flatMap_congr' (l:=l) fun y a=>h y (by simp[a])]
theorem PE.row{l:List Aut}{ev:List Nat}{i:Nat}{s:List (List Nat)×List Ed}{t:List Nat}(h:PE l ev i s)(f:s.1[i]?=some t):PE l ev (i+1) (pRow l ev i t s):=by
 have hp:=QcK (l:=l) (i:=i) (t:=t) (ev:=ev) (s:=s);obtain⟨h1,g⟩:=Qls (l:=l) (i:=i) (t:=t) (ev:=ev) (s:=s);have hi:i<s.1.length:=by grind
 refine⟨?_,fun j u a hu e he n b=>?_,Zav hi hp.length_le⟩
 ·rw[h1,ZaQ,Zar,ZaA,Zb7,Zaq];have d:(pRow l ev i t s).1.getD i []=t:=by rw[QiL hp hi,Zak,f];rfl
  rw[d];congr 1;rw[h.ed];refine flatMap_congr' fun j a=>?_;have c:=Zat.1 a;obtain⟨u,hu⟩:=Qao (l:=s.1) (i:=j) (by omega);rw[QiL hp (by omega)];refine QpX hp fun e he n b=>?_;rw[Zak,hu]at b;exact h.cl j u c hu e he n b
 rcases Nat.lt_succ_iff_lt_or_eq.1 a with a|rfl;·rw[QhA hp (by omega)]at hu;exact hp.subset (h.cl j u a hu e he n b)
 grind[QhA]
theorem Qpa{l:List Aut}{ev:List Nat}(hw:∀a∈l,∀e∈a.es,e.1<a.n/\e.2.2<a.n):∀{k i:Nat}{s:List (List Nat)×List Ed},PI l s->box l<k+i->PE l ev i s->PE l ev (pQ l ev k i s).1.length (pQ l ev k i s)|0,i,s,h,hk,he=>by have h1:=Qdo h.nd h.inT;have c:=he.le;omega|k+1,i,s,h,hk,he=>by unfold pQ;cases b:s.1[i]? with
 |none=>
  have c:=he.le;have:i=s.1.length:=by grind
  rwa[this]at he|some t=>exact Qpa hw (Qes hw (h.inT t (Zac b)) h) (by omega) (he.row b)
theorem Qhk{l:List Aut}(c:∀a∈l,0<a.n)(hw:∀a∈l,∀e∈a.es,e.1<a.n/\e.2.2<a.n):PE l (evA l) (sync0 l).1.length (sync0 l):=Qpa hw (Qgd c) (by omega) ⟨rfl,fun j t b=>absurd b (ZaB _),Zah _⟩
theorem sync_pre{l:List Aut}:[List.replicate l.length 0]<+:(sync0 l).1:=Qjz (s:=([List.replicate l.length 0],[]))
end Go.AM.SO
namespace Go.AM.SO
open Go.Proofs Go.AM.SD Go.AM.SE
def keyC(t:List Nat):AV:=.str (keyT t)
def ixV(T:List (List Nat))(t:List Nat):AV:=.int .i64 ((ixT T t:Nat):Int)
abbrev tuV(T:List (List Nat)):AV:=.fsl (T.map sliN) T.length 1
theorem Qa9(T:List (List Nat)):noRef (tuV T)=true:=by rw[tuV,noRef];exact Qaw Qae _
theorem InT.ltJ{l:List Aut}(h:∀a∈l,WfJ a){t:List Nat}(d:InT l t){x:Nat}(f:x∈t):x<10:=by obtain⟨i,hi,b⟩:=Qd1 f;obtain⟨a,c⟩:=Qao (l:=l) (i:=i) (by rw[<-d.1];exact b);have h1:=d.2 i a c;rw[Zak,hi]at h1;have g:=(h a (Zac c)).n10;simp only[Zb6]at h1;omega
theorem InT.lt{l:List Aut}(h:∀a∈l,WfI a){t:List Nat}(d:InT l t){x:Nat}(f:x∈t):x<3:=by obtain⟨i,hi,b⟩:=Qd1 f;obtain⟨a,c⟩:=Qao (l:=l) (i:=i) (by rw[<-d.1];exact b);have h1:=d.2 i a c;rw[Zak,hi]at h1;have g:=(h a (Zac c)).n3;simp only[Zb6]at h1;omega
theorem Qhl{l:List Aut}(h:∀a∈l,WfJ a){x:List Nat}{T:List (List Nat)}(f:InT l x)(g:∀t∈T,InT l t):KeyG false [.s] keyC x T:=by
 have key:∀y,InT l y->keyEq false [.s] (keyC x) (keyC y)=some (decide (x=y)):=by
  intro y b;have e:keyEq false [.s] (keyC x) (keyC y)=some (decide (keyT x=keyT y)):=Qg8;rw[e];congr 1;refine decide_eq_decide.2 ⟨fun c=>Qnp (by rw[f.1,b.1]) (fun z d=>?_) (fun z d=>?_) c,fun c=>by rw[c]⟩;·have:=f.ltJ h d;omega
  have:=b.ltJ h d;omega
 refine⟨?_,fun y b=>key y (g y b)⟩;unfold keyOK;rw[key x f]
theorem Qpb{T:List (List Nat)}{n:List Nat}(b:n∉T):mapG keyC (updG (ixV T) n (.int .i64 ((T.length:Nat):Int))) (T++[n])=mapG keyC (ixV (T++[n])) (T++[n]):=by
 refine Qjv fun x a=>?_;unfold updG;split;·rename_i e;subst e;unfold ixV;rw[<-Qt9 b,Qke b]
 rename_i e;unfold ixV;rw[Qhy (List.prefix_append T [n]) (by
  rcases Zay.1 a with a|a;·exact a
  simp at a;exact absurd a e)]
def marks(l:List Aut)(T:List (List Nat))(i:Nat):List Nat:=(List.range i).filter fun j=>mkdT l (T.getD j [])
theorem QpY{l:List Aut}{T:List (List Nat)}{i:Nat}{t:List Nat}(a:T[i]?=some t):marks l T (i+1)=if mkdT l t=true then marks l T i++[i]else marks l T i:=by
 have e:T.getD i []=t:=by rw[Zak,a];rfl
 unfold marks;rw[ZaQ,Za7];by_cases hm:mkdT l t=true;·rw[if_pos hm,List.filter_cons_of_pos (by rw[e];exact hm),List.filter_nil]
 rw[if_neg hm,List.filter_cons_of_neg (by rw[e];exact hm),List.filter_nil,Zaq]
theorem Qlt{l:List Aut}{A B:List (List Nat)}(h:A<+:B){i:Nat}(hi:i<=A.length):marks l B i=marks l A i:=by unfold marks;refine ZbL fun j a=>?_;rw[QiL h (by have:=Zat.1 a;omega)]
theorem Qlu{l:List Aut}{T:List (List Nat)}{i:Nat}:(marks l T i).length<=i:=by have:=ZaG (fun j=>mkdT l (T.getD j [])) (List.range i);rwa[ZbS]at this
theorem Qua{l:List Aut}{i e:Nat}{t:List Nat}{s:List (List Nat)×List Ed}:(pEv l i t s e).2.length<=s.2.length+1:=by unfold pEv;cases stepT l t e with|none=>exact Nat.le_succ _|some n=>simp
theorem QeV{l:List Aut}{i:Nat}{t:List Nat}:∀{ev:List Nat}{s:List (List Nat)×List Ed},(pRow l ev i t s).2.length<=s.2.length+ev.length|[],s=>ZaN _|e::ev,s=>by have h1:=QeV (l:=l) (i:=i) (t:=t) (ev:=ev) (s:=pEv l i t s e);have a:=@Qua l i e t s;show(pRow l ev i t (pEv l i t s e)).2.length<=_;rw[ZaI];omega
theorem Qlv{l:List Aut}{ev:List Nat}{i j e:Nat}{t:List Nat}{s:List (List Nat)×List Ed}(h:ev[j]?=some e):pRow l (ev.take (j+1)) i t s=pEv l i t (pRow l (ev.take j) i t s) e:=by unfold pRow;rw[take_succ' h,Za5];rfl
theorem QeW{T:List (List Nat)}{i:Nat}{t:List Nat}(h:T[i]?=some t):(T.map sliN)[i]?=some (sliN t):=by rw[ZaD,h];rfl
theorem Qub{l:List Aut}{ev:List Nat}{k i:Nat}{s:List (List Nat)×List Ed}(h:s.1[i]?=none):pQ l ev k i s=s:=by cases k with|zero=>rfl|succ k=>unfold pQ;rw[h]
theorem Qgv{l:List Aut}{ev:List Nat}{i k:Nat}{t:List Nat}{s:List (List Nat)×List Ed}:(pRow l (ev.take k) i t s).1<+:(pRow l ev i t s).1:=by
 have e:pRow l ev i t s=pRow l (ev.drop k) i t (pRow l (ev.take k) i t s):=by unfold pRow;rw[<-Za5,List.take_append_drop]
 rw[e];exact QcK
def synV(l:List Aut):AV:=if(sync0 l).1.length<=4096 then .tup [aV (syncA l),tuV (sync0 l).1,.int .i64 0]else .tup [.agg [.nilsl,.int .i64 0,.nilsl,.nilsl],.nilsl,.int .i64 3]
theorem sync28J(l:List Aut)(h:∀a∈l,WfJ a)(h0:0<l.length)(hl:l.length<=12)(G:∀t,InT l t->PSpec Tryz.prog 116 [sliN t] (.str (keyT t))):PSpec Tryz.prog 58 [auts l] (synV l):=by
 have hno:=Qbk l;have c:=Qek l;have S:noRef (.tup [aV (syncA l),tuV (sync0 l).1,.int .i64 0])=true:=by rw[noRef,noRefs,noRefs,Qa9,noRef,noRefs,noRefs,noRefs,noRefs,Qae,Qae,Qah];rfl
 have hnr:noRef (synV l)=true:=by
  unfold synV;split;·exact S
  rfl
 have X:(sync0 l).1.length<=4096->synV l=.tup [aV (syncA l),tuV (sync0 l).1,.int .i64 0]:=fun h=>if_pos h;have J:¬(sync0 l).1.length<=4096->synV l=.tup [.agg [.nilsl,.int .i64 0,.nilsl,.nilsl],.nilsl,.int .i64 3]:=fun h=>if_neg h;generalize synV l=V at*;refine Zcx 64 TP.ok58 rfl (by rw[noRefs,hno];rfl) hnr ?_;have hw:∀a∈l,∀e∈a.es,e.1<a.n/\e.2.2<a.n:=fun a ha=>(h a ha).wf.esn;have hpos:∀a∈l,0<a.n:=fun a ha=>(h a ha).pos;have hc:=check95 l h (by omega);have ho:=open96 l h (by omega);have hi:=initial97 l h h0 (by omega);have T:=Qgd (l:=l) hpos;have R:InT l (List.replicate l.length 0):=T.inT _ (by simp);have hk0:=G _ R;have hev5:=Qo9 h;have hml:(l.map emV).length=l.length:=Zaz ..;unfold TP.s58;refine Zc0 ?_;refine cp hc ?_;refine Zc0 ?_;refine cp ho ?_;refine Zc0 ?_;refine cp hi ?_;refine Zc0 ?_;refine cp hk0 ?_;refine Zc0 ?_;refine Qbf (c:=keyC) (f:=fun _=>.nilsl) (x:=List.replicate l.length 0) (l:=[]) (g:=0) gg (Qhl h R fun t P=>by cases P) (by simp) (by omega) ?_;have hm0:mapG keyC (updG (fun _=>.nilsl) (List.replicate l.length 0) (.int .i64 0)) ([]++[List.replicate l.length 0])=mapG keyC (ixV [List.replicate l.length 0]) [List.replicate l.length 0]:=by
  refine Qjv fun x hx=>?_;have hx:x=List.replicate l.length 0:=by simpa using hx
  subst hx;unfold updG ixV;rw[if_pos rfl];simp[ixT]
 rw[hm0];refine Zc0 ?_;refine Qap 320 (fun q:Nat×(List (List Nat)×List Ed)=>[(2,.ptr 51 0 0),(6,.ptr 52 0 0),(3,.sl 60 0 0 q.2.1.length 1),(9,.map 53 0),(10,.int .i64 (q.1))]) (fun q=>[(51,.cells 0 [sliN (evA l),.int .i64 0,.sl 70 0 0 (marks l q.2.1 q.1).length 1,.sl 71 0 0 q.2.2.length 3]),(52,.cells 0 [auts l,sliN (evA l),.fsl (l.map emV) l.length 1]),(53,.map 0 (mapG keyC (ixV q.2.1) q.2.1)),(60,.cells 0 (q.2.1.map sliN)),(70,.cells 0 (ints (nz (marks l q.2.1 q.1)))),(71,.cells 0 (q.2.2.flatMap edC))]) (fun q=>q.1<=q.2.1.length/\PI l q.2/\q.2.2.length<=q.1*32/\q.2.1.length<=4096/\pQ l (evA l) (box l+1-q.1) q.1 q.2=sync0 l) (fun q=>box l+1-q.1) (0,([List.replicate l.length 0],[])) 0 900 (fun _:Unit=>[(2,.ptr 51 0 0),(3,tuV (sync0 l).1)]) (fun _=>[(51,.cells 0 [sliN (evA l),.int .i64 0,sliN (marks l (sync0 l).1 (sync0 l).1.length),egsN (sync0 l).2])]) (fun _=>(sync0 l).1.length<=4096) ?_ ⟨Zah _,T,Zah _,by show[List.replicate l.length 0].length<=4096;simp,rfl⟩ ?_ ?_;·refine⟨[(51,.blk 64 0),(52,.blk 74 0),(53,.blk 92 0),(60,.blk 90 0),(70,.nil),(71,.nil)],rfl,au0,?_,au21⟩;exact ZcF rfl rfl gg (ZcL (Zct (Qae _)) (ZcL (Zct rfl) (ZcL (Rn.x4 rfl rfl) (ZcL (Rn.x4 rfl rfl) ZcK)))) (ZcF rfl rfl gg (Zcv c) (ZcH rfl rfl gg (ZcV fun _ _=>⟨rfl,rfl⟩) (ZcF rfl rfl gg (RnL.eq (by simp) (Qaw Qae _)) (ZcG rfl rfl (ZcG rfl rfl ZcE)))))
 ·rintro⟨i,s⟩⟨hi,hp,hel,N,hq⟩;dsimp only at hi hp hel N hq⊢;have hsb:=Qdo hp.nd hp.inT;have hsml:(s.1.map sliN).length=s.1.length:=Zaz ..;by_cases d:i<s.1.length
  ·obtain⟨t,P⟩:=Qao d;have v:=hp.inT t (Zac P);have M:=marked99 l t h (by omega) v.1;have y:=QpY (l:=l) P;have hml5:=@Qlu l s.1 i;have L:=QcK (l:=l) (i:=i) (t:=t) (ev:=evA l) (s:=s);have hpo:=Qes (i:=i) (ev:=evA l) hw v hp;have hpn:=QeV (l:=l) (i:=i) (t:=t) (ev:=evA l) (s:=s);have Q:pQ l (evA l) (box l+1-(i+1)) (i+1) (pRow l (evA l) i t s)=sync0 l:=by rw[<-hq,show box l+1-i=(box l+1-(i+1))+1 by omega];simp only[pQ,P]
   cases hmb:mkdT l t
   ·rw[hmb]at M y;rw[if_neg (by simp)]at y;refine Zc1 (Zc6 d (QeW P)) ?_;refine cp M ?_;refine Zc0 ?_;have hmk:marks l s.1 (i+1)=marks l s.1 i:=y;refine Qap 420 (fun j:Nat=>[(2,.ptr 51 0 0),(6,.ptr 52 0 0),(3,.sl 60 0 0 (pRow l ((evA l).take j) i t s).1.length 1),(9,.map 53 0),(10,.int .i64 (i)),(61,sliN (evA l)),(62,.int .i64 (evA l).length),(63,.int .i64 j)]) (fun j=>[(51,.cells 0 [sliN (evA l),.int .i64 0,.sl 70 0 0 (marks l s.1 (i+1)).length 1,.sl 71 0 0 (pRow l ((evA l).take j) i t s).2.length 3]),(52,.cells 0 [auts l,sliN (evA l),.fsl (l.map emV) l.length 1]),(53,.map 0 (mapG keyC (ixV (pRow l ((evA l).take j) i t s).1) (pRow l ((evA l).take j) i t s).1)),(60,.cells 0 ((pRow l ((evA l).take j) i t s).1.map sliN)),(70,.cells 0 (ints (nz (marks l s.1 (i+1))))),(71,.cells 0 ((pRow l ((evA l).take j) i t s).2.flatMap edC))]) (fun j=>j<=(evA l).length/\(pRow l ((evA l).take j) i t s).1.length<=4096) (fun j=>(evA l).length-j) 0 2 700 (fun _:Unit=>[(2,.ptr 51 0 0),(6,.ptr 52 0 0),(3,.sl 60 0 0 (pRow l (evA l) i t s).1.length 1),(9,.map 53 0),(10,.int .i64 (i))]) (fun _=>[(51,.cells 0 [sliN (evA l),.int .i64 0,.sl 70 0 0 (marks l s.1 (i+1)).length 1,.sl 71 0 0 (pRow l (evA l) i t s).2.length 3]),(52,.cells 0 [auts l,sliN (evA l),.fsl (l.map emV) l.length 1]),(53,.map 0 (mapG keyC (ixV (pRow l (evA l) i t s).1) (pRow l (evA l) i t s).1)),(60,.cells 0 ((pRow l (evA l) i t s).1.map sliN)),(70,.cells 0 (ints (nz (marks l s.1 (i+1))))),(71,.cells 0 ((pRow l (evA l) i t s).2.flatMap edC))]) (fun _=>(pRow l (evA l) i t s).1.length<=4096) ?_ ⟨Zah _,N⟩ ?_ ?_;·show Rec _ _ [(51,.cells 0 [sliN (evA l),.int .i64 0,.sl 70 0 0 (marks l s.1 (i+1)).length 1,.sl 71 0 0 s.2.length 3]),(52,.cells 0 [auts l,sliN (evA l),.fsl (l.map emV) l.length 1]),(53,.map 0 (mapG keyC (ixV s.1) s.1)),(60,.cells 0 (s.1.map sliN)),(70,.cells 0 (ints (nz (marks l s.1 (i+1))))),(71,.cells 0 (s.2.flatMap edC))] _ _;rw[hmk];refine⟨[(51,.blk 51 0),(52,.blk 52 0),(53,.blk 53 0),(60,.blk 60 0),(70,.blk 70 0),(71,.blk 71 0)],rfl,au0,?_,au21⟩;exact ZcF rfl rfl gg (ZcL (Zct (Qae _)) (ZcL (Zct rfl) (ZcL (Rn.x1 rfl rfl) (ZcL (Rn.x1 rfl rfl) ZcK)))) (ZcF rfl rfl gg (Zcv c) (ZcH rfl rfl gg (ZcV fun _ _=>⟨rfl,rfl⟩) (ZcF rfl rfl gg (Zcv (Qaw Qae _)) (ZcF rfl rfl gg (Zcv (Qad _)) (ZcF rfl rfl gg (Zcv (Qaf _)) ZcE)))))
    ·rintro j⟨hj,o⟩;by_cases m:j<(evA l).length
     ·obtain⟨e,he⟩:=Qao m;have w:=Qes (i:=i) (ev:=(evA l).take j) hw v hp;have C:=QcK (l:=l) (i:=i) (t:=t) (ev:=(evA l).take j) (s:=s);have Z:=QeV (l:=l) (i:=i) (t:=t) (ev:=(evA l).take j) (s:=s);have Y:=Qgv (l:=l) (ev:=evA l) (i:=i) (k:=j+1) (t:=t) (s:=s);have b:=Qlv (l:=l) (i:=i) (t:=t) (s:=s) he;rw[Zaw]at Z;generalize pRow l ((evA l).take j) i t s=u at*;have I:i<u.1.length:=ZaS d C.length_le;have B:u.1[i]?=some t:=by rw[QhA C d];exact P
      have hub:=Qdo w.nd w.inT;have E:(u.1.map sliN).length=u.1.length:=Zaz ..;have r:(u.2.flatMap edC).length=u.2.length*3:=Qba (k:=3) (fun _=>rfl) u.2;have p:=step100 l t e h h0 (by omega) v.1;cases z:stepT l t e with|none=>
       rw[z]at p;have g:pEv l i t u e=u:=by unfold pEv;rw[z]
       rw[g]at b;refine Zc1 (Zc8 m I (Qaz he) (QeW B)) ?_;refine cp p ?_;simp(disch:=first|omega|exact PairsOK.mk rfl|(simp only[lenW]<;>omega))only[stV,Qaa,Qab,Qac,wW,wV,simprocAttr];refine⟨j+1,by omega,⟨by omega,by rw[b];exact o⟩,?_⟩;rw[b];refine⟨[(51,.blk 51 0),(52,.blk 52 0),(53,.blk 53 0),(60,.blk 60 0),(70,.blk 70 0),(71,.blk 71 0)],rfl,au0,?_,au21⟩;exact ZcF rfl rfl gg (ZcL (Zct (Qae _)) (ZcL (Zct rfl) (ZcL (Rn.x1 rfl rfl) (ZcL (Rn.x1 rfl rfl) ZcK)))) (ZcF rfl rfl gg (Zcv c) (ZcH rfl rfl gg (ZcV fun _ _=>⟨rfl,rfl⟩) (ZcF rfl rfl gg (Zcv (Qaw Qae _)) (ZcF rfl rfl gg (Zcv (Qad _)) (ZcF rfl rfl gg (Zcv (Qaf _)) ZcE)))))|some n=>
       rw[z]at p;have H:=Qgc hw v z;have K:=G n H;have k:=Qhl h H w.inT;refine Zc1 (Zc8 m I (Qaz he) (QeW B)) ?_;refine cp p ?_;simp(disch:=first|omega|exact PairsOK.mk rfl|(simp only[lenW]<;>omega))only[stV,Qaa,Qab,Qac,wW,wV,simprocAttr];refine cp K ?_;refine Zc0 ?_;by_cases hm:n∈u.1
       ·have g:pEv l i t u e=(u.1,u.2++[(i,e,ixT u.1 n)]):=by unfold pEv;rw[z];simp only[if_pos hm]
        rw[g]at b;refine QbE (c:=keyC) (f:=ixV u.1) (x:=n) (l:=u.1) (g:=0) gg k hm ?_;simp(disch:=first|omega|exact PairsOK.mk rfl|(simp only[lenW]<;>omega))only[ixV,r,Qaa,Qab,Qac,wW,wV,simprocAttr];refine⟨j+1,by omega,⟨by omega,by rw[b];exact o⟩,?_⟩;rw[b,Zae,Zar];refine⟨[(51,.blk 51 0),(52,.blk 52 0),(53,.blk 53 0),(60,.blk 60 0),(70,.blk 70 0),(71,.blk 71 1)],rfl,au0,?_,au21⟩;exact ZcF rfl rfl gg (ZcL (Zct (Qae _)) (ZcL (Zct rfl) (ZcL (Rn.x1 rfl rfl) (ZcL (Rn.x1 rfl rfl) ZcK)))) (ZcF rfl rfl gg (Zcv c) (ZcH rfl rfl gg (ZcV fun _ _=>⟨rfl,rfl⟩) (ZcF rfl rfl gg (Zcv (Qaw Qae _)) (ZcF rfl rfl gg (Zcv (Qad _)) (ZcF rfl rfl gg (Zcv (SU.Qau (Qaf _) rfl)) ZcE)))))
       have g:pEv l i t u e=(u.1++[n],u.2++[(i,e,u.1.length)]):=by unfold pEv;rw[z];simp only[if_neg hm];rw[show u.1.findIdx (·==n)=u.1.length from Qke hm]
       rw[g]at b;have U:=Qpb hm;by_cases h4:u.1.length=4096
       ·have f:((u.1.length:Nat):Int)=4096:=by omega
        have A:¬(sync0 l).1.length<=4096:=by have q1:=Y.length_le;rw[b,Zae,Zbg]at q1;have q2:=(Qjz (l:=l) (ev:=evA l) (k:=box l+1-(i+1)) (i:=i+1) (s:=pRow l (evA l) i t s)).length_le;rw[Q]at q2;omega
        rw[J A];refine Qbe (c:=keyC) (f:=ixV u.1) (x:=n) (l:=u.1) (g:=0) gg k hm ?_;refine Zc1 f ?_;exact⟨.inr trivial,_,rfl,Zct rfl⟩
       have f:¬((u.1.length:Nat):Int)=4096:=by omega
       refine Qbe (c:=keyC) (f:=ixV u.1) (x:=n) (l:=u.1) (g:=0) gg k hm ?_;refine Zc1 f ?_;refine cp K ?_;refine Zc0 ?_;refine Qbf (c:=keyC) (f:=ixV u.1) (x:=n) (l:=u.1) (g:=0) gg k hm (by omega) ?_;rw[U];refine Zc5 (Zda E r @Qae @Qaa @Qab @Qac) ?_;refine⟨j+1,by omega,⟨by omega,by rw[b,Zae,Zbg];omega⟩,?_⟩;rw[b,Zae,Zae,Zar,ZaJ];refine⟨[(51,.blk 51 0),(52,.blk 52 0),(53,.blk 53 0),(60,.blk 60 1),(70,.blk 70 0),(71,.blk 71 1)],rfl,au0,?_,au21⟩;exact ZcF rfl rfl gg (ZcL (Zct (Qae _)) (ZcL (Zct rfl) (ZcL (Rn.x1 rfl rfl) (ZcL (Rn.x1 rfl rfl) ZcK)))) (ZcF rfl rfl gg (Zcv c) (ZcH rfl rfl gg (ZcV fun _ _=>⟨rfl,rfl⟩) (ZcF rfl rfl gg (Zcv (SU.Qau (Qaw Qae _) (Qaw Qae [n]))) (ZcF rfl rfl gg (Zcv (Qad _)) (ZcF rfl rfl gg (Zcv (SU.Qau (Qaf _) rfl)) ZcE)))))
     have e2:j=(evA l).length:=by omega
     subst e2;rw[Zao]at o;refine Zc3 m ?_;refine⟨(),o,?_⟩;refine⟨[(51,.blk 51 0),(52,.blk 52 0),(53,.blk 53 0),(60,.blk 60 0),(70,.blk 70 0),(71,.blk 71 0)],rfl,au0,?_,au21⟩;exact ZcF rfl rfl gg (ZcL (Zct (Qae _)) (ZcL (Zct rfl) (ZcL (Rn.x1 rfl rfl) (ZcL (Rn.x1 rfl rfl) ZcK)))) (ZcF rfl rfl gg (Zcv c) (ZcH rfl rfl gg (ZcV fun _ _=>⟨rfl,rfl⟩) (ZcF rfl rfl gg (Zcv (Qaw Qae _)) (ZcF rfl rfl gg (Zcv (Qad _)) (ZcF rfl rfl gg (Zcv (Qaf _)) ZcE)))))
    rintro _ hR4;refine Zc0 ?_;refine⟨(i+1,pRow l (evA l) i t s),by dsimp only;omega,⟨Zav d L.length_le,hpo,by dsimp only;omega,hR4,Q⟩,?_⟩;dsimp only;rw[Qlt L d];refine⟨[(51,.blk 51 0),(52,.blk 52 0),(53,.blk 53 0),(60,.blk 60 0),(70,.blk 70 0),(71,.blk 71 0)],rfl,au0,?_,au21⟩;exact ZcF rfl rfl gg (ZcL (Zct (Qae _)) (ZcL (Zct rfl) (ZcL (Rn.x1 rfl rfl) (ZcL (Rn.x1 rfl rfl) ZcK)))) (ZcF rfl rfl gg (Zcv c) (ZcH rfl rfl gg (ZcV fun _ _=>⟨rfl,rfl⟩) (ZcF rfl rfl gg (Zcv (Qaw Qae _)) (ZcF rfl rfl gg (Zcv (Qad _)) (ZcF rfl rfl gg (Zcv (Qaf _)) ZcE)))))
   rw[hmb]at M y;rw[if_pos rfl]at y;refine Zc1 (Zc6 d (QeW P)) ?_;refine cp M ?_;refine Zc0 ?_;have hmk:marks l s.1 (i+1)=marks l s.1 i++[i]:=y;refine Qap 420 (fun j:Nat=>[(2,.ptr 51 0 0),(6,.ptr 52 0 0),(3,.sl 60 0 0 (pRow l ((evA l).take j) i t s).1.length 1),(9,.map 53 0),(10,.int .i64 (i)),(61,sliN (evA l)),(62,.int .i64 (evA l).length),(63,.int .i64 j)]) (fun j=>[(51,.cells 0 [sliN (evA l),.int .i64 0,.sl 70 0 0 (marks l s.1 (i+1)).length 1,.sl 71 0 0 (pRow l ((evA l).take j) i t s).2.length 3]),(52,.cells 0 [auts l,sliN (evA l),.fsl (l.map emV) l.length 1]),(53,.map 0 (mapG keyC (ixV (pRow l ((evA l).take j) i t s).1) (pRow l ((evA l).take j) i t s).1)),(60,.cells 0 ((pRow l ((evA l).take j) i t s).1.map sliN)),(70,.cells 0 (ints (nz (marks l s.1 (i+1))))),(71,.cells 0 ((pRow l ((evA l).take j) i t s).2.flatMap edC))]) (fun j=>j<=(evA l).length/\(pRow l ((evA l).take j) i t s).1.length<=4096) (fun j=>(evA l).length-j) 0 2 700 (fun _:Unit=>[(2,.ptr 51 0 0),(6,.ptr 52 0 0),(3,.sl 60 0 0 (pRow l (evA l) i t s).1.length 1),(9,.map 53 0),(10,.int .i64 (i))]) (fun _=>[(51,.cells 0 [sliN (evA l),.int .i64 0,.sl 70 0 0 (marks l s.1 (i+1)).length 1,.sl 71 0 0 (pRow l (evA l) i t s).2.length 3]),(52,.cells 0 [auts l,sliN (evA l),.fsl (l.map emV) l.length 1]),(53,.map 0 (mapG keyC (ixV (pRow l (evA l) i t s).1) (pRow l (evA l) i t s).1)),(60,.cells 0 ((pRow l (evA l) i t s).1.map sliN)),(70,.cells 0 (ints (nz (marks l s.1 (i+1))))),(71,.cells 0 ((pRow l (evA l) i t s).2.flatMap edC))]) (fun _=>(pRow l (evA l) i t s).1.length<=4096) ?_ ⟨Zah _,N⟩ ?_ ?_;·show Rec _ _ [(51,.cells 0 [sliN (evA l),.int .i64 0,.sl 70 0 0 (marks l s.1 (i+1)).length 1,.sl 71 0 0 s.2.length 3]),(52,.cells 0 [auts l,sliN (evA l),.fsl (l.map emV) l.length 1]),(53,.map 0 (mapG keyC (ixV s.1) s.1)),(60,.cells 0 (s.1.map sliN)),(70,.cells 0 (ints (nz (marks l s.1 (i+1))))),(71,.cells 0 (s.2.flatMap edC))] _ _;rw[hmk,Zae,QaD,Qay];refine⟨[(51,.blk 51 0),(52,.blk 52 0),(53,.blk 53 0),(60,.blk 60 0),(70,.blk 70 1),(71,.blk 71 0)],rfl,au0,?_,au21⟩;exact ZcF rfl rfl gg (ZcL (Zct (Qae _)) (ZcL (Zct rfl) (ZcL (Rn.x1 rfl rfl) (ZcL (Rn.x1 rfl rfl) ZcK)))) (ZcF rfl rfl gg (Zcv c) (ZcH rfl rfl gg (ZcV fun _ _=>⟨rfl,rfl⟩) (ZcF rfl rfl gg (Zcv (Qaw Qae _)) (ZcF rfl rfl gg (Zcv (SU.Qau (Qad _) rfl)) (ZcF rfl rfl gg (Zcv (Qaf _)) ZcE)))))
   ·rintro j⟨hj,o⟩;by_cases m:j<(evA l).length
    ·obtain⟨e,he⟩:=Qao m;have w:=Qes (i:=i) (ev:=(evA l).take j) hw v hp;have C:=QcK (l:=l) (i:=i) (t:=t) (ev:=(evA l).take j) (s:=s);have Z:=QeV (l:=l) (i:=i) (t:=t) (ev:=(evA l).take j) (s:=s);have Y:=Qgv (l:=l) (ev:=evA l) (i:=i) (k:=j+1) (t:=t) (s:=s);have b:=Qlv (l:=l) (i:=i) (t:=t) (s:=s) he;rw[Zaw]at Z;generalize pRow l ((evA l).take j) i t s=u at*;have I:i<u.1.length:=ZaS d C.length_le;have B:u.1[i]?=some t:=by rw[QhA C d];exact P
     have hub:=Qdo w.nd w.inT;have E:(u.1.map sliN).length=u.1.length:=Zaz ..;have r:(u.2.flatMap edC).length=u.2.length*3:=Qba (k:=3) (fun _=>rfl) u.2;have p:=step100 l t e h h0 (by omega) v.1;cases z:stepT l t e with|none=>
      rw[z]at p;have g:pEv l i t u e=u:=by unfold pEv;rw[z]
      rw[g]at b;refine Zc1 (Zc8 m I (Qaz he) (QeW B)) ?_;refine cp p ?_;simp(disch:=first|omega|exact PairsOK.mk rfl|(simp only[lenW]<;>omega))only[stV,Qaa,Qab,Qac,wW,wV,simprocAttr];refine⟨j+1,by omega,⟨by omega,by rw[b];exact o⟩,?_⟩;rw[b];refine⟨[(51,.blk 51 0),(52,.blk 52 0),(53,.blk 53 0),(60,.blk 60 0),(70,.blk 70 0),(71,.blk 71 0)],rfl,au0,?_,au21⟩;exact ZcF rfl rfl gg (ZcL (Zct (Qae _)) (ZcL (Zct rfl) (ZcL (Rn.x1 rfl rfl) (ZcL (Rn.x1 rfl rfl) ZcK)))) (ZcF rfl rfl gg (Zcv c) (ZcH rfl rfl gg (ZcV fun _ _=>⟨rfl,rfl⟩) (ZcF rfl rfl gg (Zcv (Qaw Qae _)) (ZcF rfl rfl gg (Zcv (Qad _)) (ZcF rfl rfl gg (Zcv (Qaf _)) ZcE)))))|some n=>
      rw[z]at p;have H:=Qgc hw v z;have K:=G n H;have k:=Qhl h H w.inT;refine Zc1 (Zc8 m I (Qaz he) (QeW B)) ?_;refine cp p ?_;simp(disch:=first|omega|exact PairsOK.mk rfl|(simp only[lenW]<;>omega))only[stV,Qaa,Qab,Qac,wW,wV,simprocAttr];refine cp K ?_;refine Zc0 ?_;by_cases hm:n∈u.1
      ·have g:pEv l i t u e=(u.1,u.2++[(i,e,ixT u.1 n)]):=by unfold pEv;rw[z];simp only[if_pos hm]
       rw[g]at b;refine QbE (c:=keyC) (f:=ixV u.1) (x:=n) (l:=u.1) (g:=0) gg k hm ?_;simp(disch:=first|omega|exact PairsOK.mk rfl|(simp only[lenW]<;>omega))only[ixV,r,Qaa,Qab,Qac,wW,wV,simprocAttr];refine⟨j+1,by omega,⟨by omega,by rw[b];exact o⟩,?_⟩;rw[b,Zae,Zar];refine⟨[(51,.blk 51 0),(52,.blk 52 0),(53,.blk 53 0),(60,.blk 60 0),(70,.blk 70 0),(71,.blk 71 1)],rfl,au0,?_,au21⟩;exact ZcF rfl rfl gg (ZcL (Zct (Qae _)) (ZcL (Zct rfl) (ZcL (Rn.x1 rfl rfl) (ZcL (Rn.x1 rfl rfl) ZcK)))) (ZcF rfl rfl gg (Zcv c) (ZcH rfl rfl gg (ZcV fun _ _=>⟨rfl,rfl⟩) (ZcF rfl rfl gg (Zcv (Qaw Qae _)) (ZcF rfl rfl gg (Zcv (Qad _)) (ZcF rfl rfl gg (Zcv (SU.Qau (Qaf _) rfl)) ZcE)))))
      have g:pEv l i t u e=(u.1++[n],u.2++[(i,e,u.1.length)]):=by unfold pEv;rw[z];simp only[if_neg hm];rw[show u.1.findIdx (·==n)=u.1.length from Qke hm]
      rw[g]at b;have U:=Qpb hm;by_cases h4:u.1.length=4096
      ·have f:((u.1.length:Nat):Int)=4096:=by omega
       have A:¬(sync0 l).1.length<=4096:=by have q1:=Y.length_le;rw[b,Zae,Zbg]at q1;have q2:=(Qjz (l:=l) (ev:=evA l) (k:=box l+1-(i+1)) (i:=i+1) (s:=pRow l (evA l) i t s)).length_le;rw[Q]at q2;omega
       rw[J A];refine Qbe (c:=keyC) (f:=ixV u.1) (x:=n) (l:=u.1) (g:=0) gg k hm ?_;refine Zc1 f ?_;exact⟨.inr trivial,_,rfl,Zct rfl⟩
      have f:¬((u.1.length:Nat):Int)=4096:=by omega
      refine Qbe (c:=keyC) (f:=ixV u.1) (x:=n) (l:=u.1) (g:=0) gg k hm ?_;refine Zc1 f ?_;refine cp K ?_;refine Zc0 ?_;refine Qbf (c:=keyC) (f:=ixV u.1) (x:=n) (l:=u.1) (g:=0) gg k hm (by omega) ?_;rw[U];refine Zc5 (Zda E r @Qae @Qaa @Qab @Qac) ?_;refine⟨j+1,by omega,⟨by omega,by rw[b,Zae,Zbg];omega⟩,?_⟩;rw[b,Zae,Zae,Zar,ZaJ];refine⟨[(51,.blk 51 0),(52,.blk 52 0),(53,.blk 53 0),(60,.blk 60 1),(70,.blk 70 0),(71,.blk 71 1)],rfl,au0,?_,au21⟩;exact ZcF rfl rfl gg (ZcL (Zct (Qae _)) (ZcL (Zct rfl) (ZcL (Rn.x1 rfl rfl) (ZcL (Rn.x1 rfl rfl) ZcK)))) (ZcF rfl rfl gg (Zcv c) (ZcH rfl rfl gg (ZcV fun _ _=>⟨rfl,rfl⟩) (ZcF rfl rfl gg (Zcv (SU.Qau (Qaw Qae _) (Qaw Qae [n]))) (ZcF rfl rfl gg (Zcv (Qad _)) (ZcF rfl rfl gg (Zcv (SU.Qau (Qaf _) rfl)) ZcE)))))
    have e2:j=(evA l).length:=by omega
    subst e2;rw[Zao]at o;refine Zc3 m ?_;refine⟨(),o,?_⟩;refine⟨[(51,.blk 51 0),(52,.blk 52 0),(53,.blk 53 0),(60,.blk 60 0),(70,.blk 70 0),(71,.blk 71 0)],rfl,au0,?_,au21⟩;exact ZcF rfl rfl gg (ZcL (Zct (Qae _)) (ZcL (Zct rfl) (ZcL (Rn.x1 rfl rfl) (ZcL (Rn.x1 rfl rfl) ZcK)))) (ZcF rfl rfl gg (Zcv c) (ZcH rfl rfl gg (ZcV fun _ _=>⟨rfl,rfl⟩) (ZcF rfl rfl gg (Zcv (Qaw Qae _)) (ZcF rfl rfl gg (Zcv (Qad _)) (ZcF rfl rfl gg (Zcv (Qaf _)) ZcE)))))
   rintro _ hR4;refine Zc0 ?_;refine⟨(i+1,pRow l (evA l) i t s),by dsimp only;omega,⟨Zav d L.length_le,hpo,by dsimp only;omega,hR4,Q⟩,?_⟩;dsimp only;rw[Qlt L d];refine⟨[(51,.blk 51 0),(52,.blk 52 0),(53,.blk 53 0),(60,.blk 60 0),(70,.blk 70 0),(71,.blk 71 0)],rfl,au0,?_,au21⟩;exact ZcF rfl rfl gg (ZcL (Zct (Qae _)) (ZcL (Zct rfl) (ZcL (Rn.x1 rfl rfl) (ZcL (Rn.x1 rfl rfl) ZcK)))) (ZcF rfl rfl gg (Zcv c) (ZcH rfl rfl gg (ZcV fun _ _=>⟨rfl,rfl⟩) (ZcF rfl rfl gg (Zcv (Qaw Qae _)) (ZcF rfl rfl gg (Zcv (Qad _)) (ZcF rfl rfl gg (Zcv (Qaf _)) ZcE)))))
  have hfin:s=sync0 l:=by rw[<-hq,Qub (ZaF (by omega))]
  have e2:i=s.1.length:=by omega
  subst e2;rw[<-hfin];refine Zc1 d ?_;refine⟨(),N,[(51,.blk 51 0)],rfl,ZcB,?_,?_⟩;·exact ZcF rfl rfl gg (ZcL (Zct (Qae _)) (ZcL (Zct rfl) (ZcL (ZcM rfl rfl rfl rfl (by simp[ints]) (Zcv (Qad _))) (ZcL (ZcM rfl rfl rfl rfl (Qba (k:=3) (fun _=>rfl) _) (Zcv (Qaf _))) ZcK)))) ZcE
  exact ZcD (Rn.x2 rfl rfl) (ZcD (Rn.fz (b:=60) (g:=0) gg rfl rfl (by simp) (Zcv (Qaw Qae _))) ZcC)
 rintro _ hE4;rw[X hE4];refine Zc0 ?_;refine⟨.inr trivial,_,rfl,?_⟩;exact Zct S
theorem sync28(l:List Aut)(h:∀a∈l,WfI a)(i:0<l.length)(g:l.length<=5)(d:∀t,InT l t->PSpec Tryz.prog 116 [sliN t] (.str (keyT t))):PSpec Tryz.prog 58 [auts l] (.tup [aV (syncA l),tuV (sync0 l).1,.int .i64 0]):=by have hw:∀a∈l,∀e∈a.es,e.1<a.n/\e.2.2<a.n:=fun a b=>(h a b).wf.esn;have c:∀a∈l,0<a.n:=fun a b=>(h a b).pos;have f:box l<=243:=Zav (Qrs (fun a b=>(h a b).n3) (by omega)) (Nat.pow_le_pow_right (n:=3) (by omega) g);have:=sync28J l (fun a b=>(h a b).j) i (by omega) d;unfold synV at this;rwa[if_pos (Zav (Qnj c hw) (by omega))]at this
end Go.AM.SO
namespace Go.AM.SO
open Go.Proofs Go.AM.SD Go.AM.SE
abbrev auL(l:List (Nat×Aut)):List Aut:=l.map (·.2)
theorem QrI{x:Nat×Aut}:List.flatMap auC (List.map (fun x:Nat×Aut=>x.2) [x])=[sliN x.2.al,.int .i64 (x.2.n:Int),sliN x.2.ms,egsN x.2.es]:=rfl
theorem Qa1{l:List (Nat×Aut)}:(auL l).length=l.length:=Zaz ..
theorem _root_.Go.AM.au23{p:Prop}(h:p:=by repeat(first|exact ZcC|(refine ZcD ?_ ?_;·(first|exact Rn.any|exact Rn.x1 rfl rfl|exact Rn.x2 rfl rfl|exact Rn.x3 rfl rfl|exact Rn.x4 rfl rfl|exact Rn.x5 rfl|exact Rn.x6 rfl|exact Rn.x7 rfl|(refine Rn.slot ?_ ?_;(first|rfl|(rw[ZaX];rfl));(first|rfl|(simp only[noRef,noRefs,Qag,Zag,Zad,Zai,Qad,Qan,Qae,Qah,QaV,Qaf,SU.Qbz];done)))|(refine Rn.fn ?_ ?_<;>(repeat'(first|exact ZcK|refine ZcL ?_ ?_|exact Zct rfl|exact Rn.x6 rfl|exact Rn.x2 rfl rfl|exact Rn.x5 rfl|exact Rn.x1 rfl rfl))))))):p:=h
theorem automata59{ch:UInt8}(l:List (Nat×Aut))(k:l.length<=1000):PSpec Tryz.prog 59 [its ch l] (auts (auL l)):=by
 refine Zcx 64 TP.ok59 rfl (by rw[noRefs,SU.QaC];rfl) (Qbk _) ?_;have h:=@SU.QaC ch l;unfold TP.s59;refine Zc0 ?_;refine Qap 100 (fun i:Nat=>[(3,.sl 60 0 0 i 4),(6,its ch l),(7,.int .i64 l.length),(8,.int .i64 i)]) (fun i=>[(60,.cells 0 ((auL (l.take i)).flatMap auC))]) (fun i=>i<=l.length) (fun i=>l.length-i) 0 0 160 (fun _:Unit=>[(3,auts (auL l))]) (fun _=>[]) (fun _=>True) ?_ (Zah _) ?_ ?_;·refine⟨[(60,.nil)],rfl,au0,?_,au23⟩;exact ZcG rfl rfl ZcE
 ·rintro i hi;by_cases a:i<l.length
  ·obtain⟨x,g⟩:=Qao a;have b:=SU.QbM (ch:=ch) g;have c:5<=((l.flatMap (itC ch)).drop (i*5)).length:=by rw[b];simp
   have d:(auL (l.take i)).length=i:=by rw[Qa1,Zaw];omega
   have f:((auL (l.take i)).flatMap auC).length=i*4:=by rw[Qhi,d]
   refine Zc5 (Zdd a b c f @Qae @Qah @Qaa @Qab @Qac) ?_;refine⟨i+1,by omega,by omega,?_⟩;rw[take_succ' g];show Rec _ _ [(60,.cells 0 ((List.map (fun x:Nat×Aut=>x.2) (l.take i++[x])).flatMap auC))] _ _;rw[ZaJ,Zar,QrI];refine⟨[(60,.blk 60 1)],rfl,au0,?_,au23⟩;exact ZcF rfl rfl gg (Zcv (SU.Qau (QaV _) (QaV [x.2]))) ZcE
  have e:i=l.length:=by omega
  subst e;refine Zc3 a ?_;exact⟨(),[],rfl,ZcB,ZcE,ZcD (ZcM (b:=60) (g:=0) gg rfl rfl Qa1 (by rw[Qhi,Qa1]) (Zcv (QaV _))) ZcC⟩
 rintro _ _;refine Zc0 ?_;exact⟨.inr trivial,_,rfl,Zct (Qbk _)⟩
theorem QrJ(l:List Aut):noRef (.tup [aV (syncA l),tuV (sync0 l).1,.int .i64 0])=true:=by rw[noRef,noRefs,noRefs,Qa9,noRef,noRefs,noRefs,noRefs,noRefs,Qae,Qae,Qah];rfl
theorem Qa5{c:Cel}(h:WfCel c):∀a∈auL c.cs,WfI a:=fun a b=>by obtain⟨x,d,rfl⟩:=Zan.1 b;exact h.ca x d
theorem Qs1{c:Cel}(h:WfCel c)(t:List Nat)(ht:InT (auL c.cs) t):PSpec Tryz.prog 116 [sliN t] (.str (keyT t)):=by have h0:=h.c0;have h3:=h.c3;have hl:=ht.1;rw[Qa1]at hl;exact key98 (by omega) (by omega) fun x hx=>ht.lt (Qa5 h) hx
theorem Quc(c:Cel)(h:WfCel c):PSpec Tryz.prog 58 [auts (auL c.cs)] (.tup [aV (syncA (auL c.cs)),tuV (sync0 (auL c.cs)).1,.int .i64 0]):=by have a:=h.c0;have b:=h.c3;exact sync28 (auL c.cs) (Qa5 h) (by rw[Qa1];omega) (by rw[Qa1];omega) (Qs1 h)
theorem plant17(c:Cel)(h:WfCel c):PSpec Tryz.prog 16 [celV c] (.tup [aV (syncA (auL c.cs)),tuV (sync0 (auL c.cs)).1,.int .i64 0]):=by have d:=QaY c;refine Zcx 64 TP.ok16 rfl (by rw[noRefs,SU.QaK];rfl) (QrJ _) ?_;have f:=h.c3;have hc:=check21 c h;have a:=automata59 (ch:=99) c.cs (by omega);have b:=Quc c h;unfold TP.s16;refine Zc0 ?_;refine cp hc ?_;refine Zc0 ?_;refine cp a ?_;refine Zc0 ?_;refine cp b ?_;refine Zc0 ?_;exact⟨.inr trivial,_,rfl,Zct (QrJ _)⟩
theorem QfF{T:List (List Nat)}{i:Nat}{t:List Nat}(h:T[i]?=some t):((T.map sliN).drop i).head?=some (sliN t):=by rw[Zca,QeW h]
end Go.AM.SO
namespace Go.AM.SO
open Go.Proofs Go.AM.SD Go.AM.SE
theorem index195{K:Nat}{cap:List AV}(q:(Nat×Nat)->Bool)(l:List (Nat×Nat))(s:l.length<=1000000)(hc:noRefs cap=true)(hk:∀x∈l,PSpec Tryz.prog K (.agg [.int .i64 (x.1:Int),.int .i64 (x.2:Int)]::cap) (.bool (q x))):PSpec Tryz.prog 291 [los l,.fn K [] cap] (.int .i64 (idxQ q l)):=by
 refine Zcy 64 TQ.ok291 rfl (by rw[noRefs,noRefs,Qbg hc,(SU.Qcj _)];rfl) rfl ?_;have c:=Qbg (K:=K) hc;have o:=SU.Qhg l;unfold TQ.s291;refine Zc0 ?_;refine QaM 100 (fun i:Nat=>[(0,los l),(1,.fn K [] cap),(7,.int .i64 l.length),(8,.int .i64 i)]) (fun _=>[]) (fun i=>i<=l.length/\∀(j:Nat)y,j<i->l[j]?=some y->q y=false) (fun i=>l.length-i) 0 ?_ ⟨Zah _,fun j y k=>absurd k (ZaB _)⟩ ?_;·exact⟨[],rfl,ZcB,ZcE,ZcD (Zct (SU.Qcj _)) (ZcD (Zct c) (ZcD (Zct rfl) (ZcD (Zct rfl) ZcC)))⟩
 rintro i⟨hi,m⟩;by_cases a:i<l.length
 ·obtain⟨x,b⟩:=Qao a;have h:=hk x (Zac b);have d:=Qkc b;have f:2<=(List.drop (i*2) (l.flatMap loC)).length:=by rw[Zba,o];omega
  cases g:q x
  ·rw[g]at h;refine Zc5 (Zdb a d f @Zbf @Qaa @Qab @Qac) ?_;refine⟨_,by simpa using h,?_⟩;refine Zc0 ?_;refine⟨i+1,by omega,⟨by omega,fun j y k p=>?_⟩,?_⟩
   ·by_cases e:j=i;·subst e;rw[b]at p;cases p;exact g
    exact m j y (by omega) p
   exact⟨[],rfl,ZcB,ZcE,ZcD (Zct (SU.Qcj _)) (ZcD (Zct c) (ZcD (Zct rfl) (ZcD (Zct rfl) ZcC)))⟩
  rw[g]at h;refine Zc5 (Zdb a d f @Zbf @Qaa @Qab @Qac) ?_;refine⟨_,by simpa using h,?_⟩;refine Zc0 ?_;refine⟨.inr trivial,_,rfl,?_⟩;rw[QcS b g m];rfl
 refine Zc1 a ?_;refine⟨.inr trivial,_,rfl,?_⟩;rw[Qb5 fun x b=>by obtain⟨j,k,r⟩:=Zbj b;exact m j x (by omega) (by rw[Zal k,r])];rfl
theorem index48{K:Nat}{cap:List AV}(q:Ed->Bool)(l:List Ed)(s:l.length<=1000000)(hc:noRefs cap=true)(hk:∀x∈l,PSpec Tryz.prog K (.agg [.int .i64 (x.1:Int),.int .i64 (x.2.1:Int),.int .i64 (x.2.2:Int)]::cap) (.bool (q x))):PSpec Tryz.prog 263 [egsN l,.fn K [] cap] (.int .i64 (idxQ q l)):=by
 refine Zcy 64 TQ.ok263 rfl (by rw[noRefs,noRefs,Qbg hc,(Qah _)];rfl) rfl ?_;have c:=Qbg (K:=K) hc;have o:=(Qba (k:=3) (fun _=>rfl) l:(l.flatMap edC).length=l.length*3);unfold TQ.s263;refine Zc0 ?_;refine QaM 100 (fun i:Nat=>[(0,egsN l),(1,.fn K [] cap),(7,.int .i64 l.length),(8,.int .i64 i)]) (fun _=>[]) (fun i=>i<=l.length/\∀(j:Nat)y,j<i->l[j]?=some y->q y=false) (fun i=>l.length-i) 0 ?_ ⟨Zah _,fun j y k=>absurd k (ZaB _)⟩ ?_;·exact⟨[],rfl,ZcB,ZcE,ZcD (Zct (Qah _)) (ZcD (Zct c) (ZcD (Zct rfl) (ZcD (Zct rfl) ZcC)))⟩
 rintro i⟨hi,m⟩;by_cases a:i<l.length
 ·obtain⟨x,b⟩:=Qao a;have h:=hk x (Zac b);have d:=QaJ b;have f:3<=(List.drop (i*3) (l.flatMap edC)).length:=by rw[Zba,o];omega
  cases g:q x
  ·rw[g]at h;refine Zc5 (Zdb a d f @Zbf @Qaa @Qab @Qac) ?_;refine⟨_,by simpa using h,?_⟩;refine Zc0 ?_;refine⟨i+1,by omega,⟨by omega,fun j y k p=>?_⟩,?_⟩
   ·by_cases e:j=i;·subst e;rw[b]at p;cases p;exact g
    exact m j y (by omega) p
   exact⟨[],rfl,ZcB,ZcE,ZcD (Zct (Qah _)) (ZcD (Zct c) (ZcD (Zct rfl) (ZcD (Zct rfl) ZcC)))⟩
  rw[g]at h;refine Zc5 (Zdb a d f @Zbf @Qaa @Qab @Qac) ?_;refine⟨_,by simpa using h,?_⟩;refine Zc0 ?_;refine⟨.inr trivial,_,rfl,?_⟩;rw[QcS b g m];rfl
 refine Zc1 a ?_;refine⟨.inr trivial,_,rfl,?_⟩;rw[Qb5 fun x b=>by obtain⟨j,k,r⟩:=Zbj b;exact m j x (by omega) (by rw[Zal k,r])];rfl
theorem contains115{K:Nat}{cap:List AV}(q:Nat×Nat->Bool)(l:List (Nat×Nat))(c:l.length<=1000000)(hc:noRefs cap=true)(hk:∀x∈l,PSpec Tryz.prog K (.agg [.int .i64 (x.1:Int),.int .i64 (x.2:Int)]::cap) (.bool (q x))):PSpec Tryz.prog 251 [los l,.fn K [] cap] (.bool (l.any q)):=by refine Zcy 64 TQ.ok251 rfl (by rw[noRefs,noRefs,Qbg hc,SU.Qcj];rfl) rfl ?_;have h:=index195 q l c hc hk;have d:=Qbg (K:=K) hc;have b:=@Qhu _ q l;generalize idxQ q l=a at*;unfold TQ.s251;refine Zc0 ?_;refine cp h ?_;refine Zc1 b ?_;exact⟨.inr trivial,_,rfl,rfl⟩
theorem other234(t:List Nat)(c s y:Nat)(a:t[c]?=some y):PSpec Tryz.prog 252 [.agg [.int .i64 (c:Int),.int .i64 (s:Int)],.fptr [sliN t]] (.bool (!decide (y=s))):=by refine Zcy 64 TQ.ok252 rfl (by simp only[noRefs,noRef,Qad];rfl) rfl ?_;have hc:c<t.length:=(Zaf.1 a).1;have b:decide ((y:Int)=(s:Int))=decide (y=s):=decide_eq_decide.2 (by omega);unfold TQ.s252;refine Zc1 (Zc7 (Qaz a) hc b) ?_;exact⟨.inr trivial,_,rfl,rfl⟩
def exQ(t:List Nat)(x:Nat×List (Nat×Nat)):Bool:=!x.2.any fun l=>!decide (t.getD l.1 0=l.2)
theorem excl233(t:List Nat)(x:Nat×List (Nat×Nat))(g:x.2.length<=1000)(d:∀l∈x.2,l.1<t.length):PSpec Tryz.prog 250 [sliN t,.fptr (exC x)] (.bool (exQ t x)):=by
 have a:noRefs (exC x)=true:=by simp only[exC,noRefs,noRef,SU.Qbu];rfl
 refine Zcy 64 TQ.ok250 rfl (by rw[noRefs,noRefs,Qae,noRef,a];rfl) rfl ?_;have f:=contains115 (K:=252) (cap:=[.fptr [sliN t]]) (fun l=>!decide (t.getD l.1 0=l.2)) x.2 (by omega) (by simp only[noRefs,noRef,Qad];rfl) fun l hm=>by obtain⟨y,c⟩:=Qao (d l hm);have:=other234 t l.1 l.2 y c;rwa[show t.getD l.1 0=y by rw[Zak,c];rfl]
 show wS _ _ _ _ _ (argT 0 [sliN t,.fptr [.str [101,UInt8.ofNat (48+x.1)],los x.2]]) _ _;unfold exQ;generalize x.2.any (fun l=>!decide (t.getD l.1 0=l.2))=b at*;unfold TQ.s250;refine Zc0 ?_;refine SU.chc (ZcQ (ZcT (Zcz _) (ZcT (FrzTo.fn ZcS (ZcT (ZcP (g:=0) (cs:=[sliN t]) gg (ZcA _)) ZcS)) ZcS)) f rfl) ?_;refine Zc0 ?_;exact⟨.inr trivial,_,rfl,rfl⟩
def koV(t:List Nat)(l:List (Nat×Int)):Int:=(l.map fun x=>x.2*(t.getD x.1 0:Int)).foldl (·+·) 0
theorem Qnq{t:List Nat}{l:List (Nat×Int)}{i:Nat}{x:Nat×Int}(h:l[i]?=some x):koV t (l.take (i+1))=koV t (l.take i)+x.2*(t.getD x.1 0:Int):=by unfold koV;rw[take_succ' h,ZaJ,Za5];rfl
theorem Qlw{a b:Int}(h:-4<a/\a<4)(c:0<=b/\b<3):-12<=a*b/\a*b<=12:=by
 obtain rfl|rfl|rfl:b=0\/b=1\/b=2:=by omega
 ·omega
 ·omega
 omega
theorem Qlx{t:List Nat}(b:∀x∈t,x<3){l:List (Nat×Int)}(c:∀x∈l,-4<x.2/\x.2<4):∀i,i<=l.length->-12*(i:Int)<=koV t (l.take i)/\koV t (l.take i)<=12*(i:Int)
 |0,_=>by simp[koV]|i+1,hi=>by
  obtain⟨x,a⟩:=Qao (l:=l) (i:=i) (by omega);rw[Qnq a];have h1:=Qlx b c i (by omega);have d:(0:Int)<=(t.getD x.1 0:Int)/\(t.getD x.1 0:Int)<3:=by
   refine⟨by omega,?_⟩;rcases ZbE x.1 t.length with h|h;·have :=b (t.getD x.1 0) (by rw[Zak,Zal h];exact List.getElem_mem h);omega
   rw[Zak,ZaF h];decide
  have f:=Qlw (c x (Zac a)) d;omega
theorem _root_.Go.AM.au24{p:Prop}(h:p:=by repeat'(first|exact ZcE|(refine Zcv ?_;first|rfl|(simp only[noRef,noRefs,Qag,Zag,Zad,Zai,Qad,Qan,Qae,SU.Qbu,SU.QaP,SU.Qbz,SU.Qbn,SU.Qdb];done))|exact ZcR rfl|exact ZcK|exact(True.intro:RnM _ _ _ [] [])|refine ZcL ?_ ?_|(refine Zct ?_;first|rfl|(simp only[noRef,noRefs,Qag,Zag,Zad,Zai,Qad,Qan,Qae,SU.Qbu,SU.QaP,SU.Qbz,SU.Qbn,SU.Qdb];done))|exact Rn.x1 rfl rfl|exact Rn.x2 rfl rfl|exact Rn.x3 rfl rfl|exact Rn.x4 rfl rfl|exact Rn.x5 rfl|exact Rn.x6 rfl|exact Rn.x7 rfl|refine ZcG rfl rfl ?_|refine ZcF rfl rfl rfl ?_ ?_|refine ZcH rfl rfl rfl ?_ ?_|refine ZcI rfl rfl ?_ ?_|refine ZcJ rfl rfl ?_ ?_)):p:=h
theorem value236(t:List Nat)(k:List (Nat×Int)×Int)(hk:k.1.length<=1000)(q:∀x∈t,x<3)(hc:∀x∈k.1,x.1<t.length/\-4<x.2/\x.2<4):PSpec Tryz.prog 254 [.agg (coC k),sliN t] (.int .i64 (koV t k.1)):=by
 have m:noRefs (coC k)=true:=by simp only[coC,noRefs,noRef,SU.QaP];rfl
 refine Zcy 64 TQ.ok254 rfl (by rw[noRefs,noRefs,Qae,noRef,m];rfl) rfl ?_;have r:=SU.Qdp k.1;have l:=Qlx q fun x c=>(hc x c).2;show wS _ _ _ _ _ (argT 0 [.agg [.str [107],tes k.1,.int .i64 k.2],sliN t]) _ _;unfold TQ.s254;refine Zc0 ?_;refine Qap 100 (fun i:Nat=>[(1,sliN t),(5,.int .i64 (koV t (k.1.take i))),(9,tes k.1),(10,.int .i64 k.1.length),(11,.int .i64 i)]) (fun _=>[]) (fun i=>i<=k.1.length) (fun i=>k.1.length-i) 0 0 160 (fun _:Unit=>[(5,.int .i64 (koV t k.1))]) (fun _=>[]) (fun _=>True) ?_ (Zah _) ?_ ?_;·exact⟨[],rfl,ZcB,ZcE,ZcD (Zct (Qae _)) (ZcD (Zct rfl) (ZcD (Zct (SU.QcL _)) au18))⟩
 ·rintro i hi;by_cases a:i<k.1.length
  ·obtain⟨x,c⟩:=Qao a;obtain⟨h1,v⟩:=hc x (Zac c);obtain⟨y,h⟩:=Qao h1;have s:=q y (Zac h);have p:t.getD x.1 0=y:=by rw[Zak,h];rfl
   have d:=SU.QdK c;have g:2<=((k.1.flatMap teC).drop (i*2)).length:=by rw[d];simp
   have b:=Qnq (t:=t) c;rw[p]at b;have hp:=Qlw v (b:=(y:Int)) ⟨by omega,by omega⟩;have u:=l i hi;have o:wr .i64 (x.2*(y:Int))=x.2*(y:Int):=QgP (by omega) (by omega);have f:wr .i64 (koV t (k.1.take i)+x.2*(y:Int))=koV t (k.1.take i)+x.2*(y:Int):=QgP (by omega) (by omega);refine Zc1 (Zdb a d g h1 (Qaz h) o f) ?_;refine⟨i+1,by omega,by omega,?_⟩;rw[b];exact⟨[],rfl,ZcB,ZcE,ZcD (Zct (Qae _)) (ZcD (Zct rfl) (ZcD (Zct (SU.QcL _)) au18))⟩
  have e:i=k.1.length:=by omega
  subst e;refine Zc3 a ?_;exact⟨(),⟨[],rfl,au0,au24,au18⟩⟩
 rintro _ _;refine Zc0 ?_;exact⟨.inr trivial,_,rfl,rfl⟩
def koQ(t:List Nat)(k:List (Nat×Int)×Int):Bool:=decide (k.2<koV t k.1)
theorem excd235(t:List Nat)(k:List (Nat×Int)×Int)(hk:k.1.length<=1000)(c:∀x∈t,x<3)(hc:∀x∈k.1,x.1<t.length/\-4<x.2/\x.2<4):PSpec Tryz.prog 253 [sliN t,.fptr (coC k)] (.bool (koQ t k)):=by
 have a:noRefs (coC k)=true:=by simp only[coC,noRefs,noRef,SU.QaP];rfl
 refine Zcy 64 TQ.ok253 rfl (by rw[noRefs,noRefs,Qae,noRef,a];rfl) rfl ?_;have b:=value236 t k hk c hc;show wS _ _ _ _ _ (argT 0 [sliN t,.fptr [.str [107],tes k.1,.int .i64 k.2]]) _ _;unfold koQ;unfold TQ.s253;refine Zc0 ?_;refine cp b ?_;refine Zc0 ?_;exact⟨.inr trivial,_,rfl,rfl⟩
def cdF:(Nat×List (Nat×Nat))⊕(List (Nat×Int)×Int)->AV|.inl x=>.fn 250 [] [.fptr (exC x)]|.inr k=>.fn 253 [] [.fptr (coC k)]
def cdQ(t:List Nat):(Nat×List (Nat×Nat))⊕(List (Nat×Int)×Int)->Bool|.inl x=>exQ t x|.inr k=>koQ t k
def cdA(xs:List (Nat×List (Nat×Nat)))(ks:List (List (Nat×Int)×Int)):List ((Nat×List (Nat×Nat))⊕(List (Nat×Int)×Int)):=xs.map .inl++ks.map .inr
abbrev cdL(l:List ((Nat×List (Nat×Nat))⊕(List (Nat×Int)×Int))):AV:=.fsl (l.map cdF) l.length 1
theorem QbH(x:(Nat×List (Nat×Nat))⊕(List (Nat×Int)×Int)):noRef (cdF x)=true:=by cases x with|inl x=>simp only[cdF,exC,noRef,noRefs,SU.Qbu];rfl|inr k=>simp only[cdF,coC,noRef,noRefs,SU.QaP];rfl
theorem Qdd(l:List ((Nat×List (Nat×Nat))⊕(List (Nat×Int)×Int))):noRef (cdL l)=true:=by rw[cdL,noRef];exact Qaw QbH _
theorem Qud{l:List ((Nat×List (Nat×Nat))⊕(List (Nat×Int)×Int))}{i:Nat}{x:(Nat×List (Nat×Nat))⊕(List (Nat×Int)×Int)}(h:l[i]?=some x):((l.map cdF).drop i).head?=some (cdF x):=by rw[Zca,ZaD,h];rfl
theorem index203{K:Nat}{cap:List AV}(q:((Nat×List (Nat×Nat))⊕(List (Nat×Int)×Int))->Bool)(l:List ((Nat×List (Nat×Nat))⊕(List (Nat×Int)×Int)))(s:l.length<=1000000)(hc:noRefs cap=true)(hk:∀x∈l,PSpec Tryz.prog K (cdF x::cap) (.bool (q x))):PSpec Tryz.prog 200 [cdL l,.fn K [] cap] (.int .i64 (idxQ q l)):=by
 refine Zcy 64 TQ.ok200 rfl (by rw[noRefs,noRefs,Qbg hc,(Qdd _)];rfl) rfl ?_;have c:=Qbg (K:=K) hc;have o:=(show(l.map cdF).length=l.length*1 by simp);unfold TQ.s200;refine Zc0 ?_;refine QaM 100 (fun i:Nat=>[(0,cdL l),(1,.fn K [] cap),(7,.int .i64 l.length),(8,.int .i64 i)]) (fun _=>[]) (fun i=>i<=l.length/\∀(j:Nat)y,j<i->l[j]?=some y->q y=false) (fun i=>l.length-i) 0 ?_ ⟨Zah _,fun j y k=>absurd k (ZaB _)⟩ ?_;·exact⟨[],rfl,ZcB,ZcE,ZcD (Zct (Qdd _)) (ZcD (Zct c) (ZcD (Zct rfl) (ZcD (Zct rfl) ZcC)))⟩
 rintro i⟨hi,m⟩;by_cases a:i<l.length
 ·obtain⟨x,b⟩:=Qao a;have h:=hk x (Zac b);have d:=Qud b;have f:1<=(List.drop (i*1) (l.map cdF)).length:=by rw[Zba,o];omega
  cases g:q x
  ·rw[g]at h;refine Zc5 (Zdb a d f @Zbf @Qaa @Qab @Qac) ?_;refine⟨_,by simpa using h,?_⟩;refine Zc0 ?_;refine⟨i+1,by omega,⟨by omega,fun j y k p=>?_⟩,?_⟩
   ·by_cases e:j=i;·subst e;rw[b]at p;cases p;exact g
    exact m j y (by omega) p
   exact⟨[],rfl,ZcB,ZcE,ZcD (Zct (Qdd _)) (ZcD (Zct c) (ZcD (Zct rfl) (ZcD (Zct rfl) ZcC)))⟩
  rw[g]at h;refine Zc5 (Zdb a d f @Zbf @Qaa @Qab @Qac) ?_;refine⟨_,by simpa using h,?_⟩;refine Zc0 ?_;refine⟨.inr trivial,_,rfl,?_⟩;rw[QcS b g m];rfl
 refine Zc1 a ?_;refine⟨.inr trivial,_,rfl,?_⟩;rw[Qb5 fun x b=>by obtain⟨j,k,r⟩:=Zbj b;exact m j x (by omega) (by rw[Zal k,r])];rfl
end Go.AM.SO
namespace Go.AM.SO
open Go.Proofs Go.AM.SD Go.AM.SE
structure TOk(S:List Nat)(t:List Nat)(xs:List (Nat×List (Nat×Nat)))(ks:List (List (Nat×Int)×Int)):Prop where
 ln:t.length=S.length
 l3:t.length<=1000
 t3:∀k∈ks,∀x∈t,x<3
 lt:∀(i:Nat)x n,t[i]?=some x->S[i]?=some n->x<n
 xl:∀x∈xs,x.2.length<=1000/\∀l∈x.2,l.1<t.length
 kl:∀k∈ks,k.1.length<=1000/\∀x∈k.1,x.1<t.length/\-4<x.2/\x.2<4
 xn:xs.length<=1000
 kn:ks.length<=1000
variable{S t:List Nat}{xs:List (Nat×List (Nat×Nat))}{ks:List (List (Nat×Int)×Int)}
theorem call204(h:TOk S t xs ks){x:(Nat×List (Nat×Nat))⊕(List (Nat×Int)×Int)}(a:x∈cdA xs ks):PSpec Tryz.prog 201 [cdF x,.fptr [sliN t]] (.bool (cdQ t x)):=by
 refine Zcy 64 TQ.ok201 rfl (by rw[noRefs,QbH,noRefs];simp only[noRefs,noRef,Qad];rfl) rfl ?_;unfold cdA at a;rcases Zay.1 a with a|a;·obtain⟨y,b,rfl⟩:=Zan.1 a;have hc:=excl233 t y (h.xl y b).1 (h.xl y b).2;simp(disch:=first|omega|exact PairsOK.mk rfl|(simp only[lenW]<;>omega))only[TQ.s201,cdF,Qaa,Qab,Qac,wW,wV,simprocAttr];refine⟨_,by simpa using hc,?_⟩;refine Zc0 ?_;exact⟨.inr trivial,_,rfl,rfl⟩
 obtain⟨y,b,rfl⟩:=Zan.1 a;have hc:=excd235 t y (h.kl y b).1 (h.t3 y b) (h.kl y b).2;simp(disch:=first|omega|exact PairsOK.mk rfl|(simp only[lenW]<;>omega))only[TQ.s201,cdF,Qaa,Qab,Qac,wW,wV,simprocAttr];refine⟨_,by simpa using hc,?_⟩;refine Zc0 ?_;exact⟨.inr trivial,_,rfl,rfl⟩
theorem Qeu:(cdA xs ks).length=xs.length+ks.length:=by simp[cdA]
theorem violated158(h:TOk S t xs ks):PSpec Tryz.prog 121 [cdL (cdA xs ks),sliN t] (.int .i64 (idxQ (cdQ t) (cdA xs ks))):=by have a:=Qdd (cdA xs ks);refine Zcy 64 TQ.ok121 rfl (by rw[noRefs,a,noRefs,Qae];rfl) rfl ?_;have b:=index203 (K:=201) (cap:=[.fptr [sliN t]]) (cdQ t) (cdA xs ks) (by rw[Qeu];have:=h.xn;have:=h.kn;omega) (by simp only[noRefs,noRef,Qad];rfl) fun x c=>call204 h c;generalize cdA xs ks=l at*;unfold TQ.s121;refine Zc0 ?_;refine SU.chc (ZcQ (ZcT (Zcz _) (ZcT (FrzTo.fn ZcS (ZcT (ZcP (g:=0) (cs:=[sliN t]) gg (ZcA _)) ZcS)) ZcS)) b rfl) ?_;refine Zc0 ?_;exact⟨.inr trivial,_,rfl,rfl⟩
theorem mk205(x:Nat×List (Nat×Nat)):PSpec Tryz.prog 202 [.agg (exC x)] (cdF (.inl x)):=by
 have a:noRefs (exC x)=true:=by simp only[exC,noRefs,noRef,SU.Qbu];rfl
 refine Zcx 64 TQ.ok202 rfl (by rw[noRefs,noRef,a];rfl) (QbH _) ?_;show wS _ _ _ _ _ (argT 0 [.agg [.str [101,UInt8.ofNat (48+x.1)],los x.2]]) _ _;unfold TQ.s202;refine Zc0 ?_;refine⟨.inr trivial,_,rfl,?_⟩;exact Rn.fn ZcK (ZcL (Rn.frzp (b:=64) (g:=0) rfl (Zah _) (fun c b _ e=>by simp[π0]at e) (by simp) (Zcv a)) ZcK)
theorem mk206(k:List (Nat×Int)×Int):PSpec Tryz.prog 203 [.agg (coC k)] (cdF (.inr k)):=by
 have a:noRefs (coC k)=true:=by simp only[coC,noRefs,noRef,SU.QaP];rfl
 refine Zcx 64 TQ.ok203 rfl (by rw[noRefs,noRef,a];rfl) (QbH _) ?_;show wS _ _ _ _ _ (argT 0 [.agg [.str [107],tes k.1,.int .i64 k.2]]) _ _;unfold TQ.s203;refine Zc0 ?_;refine⟨.inr trivial,_,rfl,?_⟩;exact Rn.fn ZcK (ZcL (Rn.frzp (b:=64) (g:=0) rfl (Zah _) (fun c b _ e=>by simp[π0]at e) (by simp) (Zcv a)) ZcK)
theorem Qly(x:(Nat×List (Nat×Nat))⊕(List (Nat×Int)×Int)):(cdF x).cells=[cdF x]:=by cases x<;>rfl
theorem Qpc(x:(Nat×List (Nat×Nat))⊕(List (Nat×Int)×Int)):(cdF x).one=true:=by cases x<;>rfl
theorem Qpd(x:(Nat×List (Nat×Nat))⊕(List (Nat×Int)×Int)):(cdF x).boxable=true:=by cases x<;>rfl
theorem conds159(m:xs.length<=1000)(hk:ks.length<=1000):PSpec Tryz.prog 122 [cdV S xs ks] (cdL (cdA xs ks)):=by
 have b:=@Qb4 S xs ks;refine Zcx 64 TQ.ok122 rfl (by rw[noRefs,noRef,b];rfl) (Qdd _) ?_;have p:=SU.QeU xs;have o:=Qhh ks;show wS _ _ _ _ _ (argT 0 [.agg [sliN S,exs xs,cos ks]]) _ _;unfold TQ.s122;refine Zc0 ?_;refine Qap 100 (fun i:Nat=>[(1,.ptr 51 0 0),(3,.sl 60 0 0 i 1),(9,exs xs),(10,.int .i64 xs.length),(11,.int .i64 i)]) (fun i=>[(51,.cells 0 [sliN S,exs xs,cos ks]),(60,.cells 0 ((cdA (xs.take i) []).map cdF))]) (fun i=>i<=xs.length) (fun i=>xs.length-i) 0 0 160 (fun _:Unit=>[(1,.ptr 51 0 0),(3,.sl 60 0 0 xs.length 1)]) (fun _=>[(51,.cells 0 [sliN S,exs xs,cos ks]),(60,.cells 0 ((cdA xs []).map cdF))]) (fun _=>True) ⟨[(51,.blk 64 0),(60,.nil)],rfl,au0,?_,au18⟩ (Zah _) ?_ ?_;·exact ZcF rfl rfl gg (Zcv b) (ZcG rfl rfl ZcE)
 ·rintro i hi;by_cases a:i<xs.length
  ·obtain⟨x,m⟩:=Qao a;have d:=QfB m;have g:2<=((xs.flatMap exC).drop (i*2)).length:=by rw[d];simp
   have h:((cdA (xs.take i) []).map cdF).length=i:=by rw[Zaz,Qeu,Zaw];simp;omega
   have hm:=mk205 x;have hc:=Qly (.inl x);have ho:=Qpc (.inl x);have l:=Qpd (.inl x);have f:(cdA (xs.take (i+1)) []).map cdF=(cdA (xs.take i) []).map cdF++[cdF (.inl x)]:=by rw[take_succ' m];simp[cdA]
   have c:=QbH (.inl x);generalize cdF (.inl x)=F at*;refine Zc1 (Zc7 a d g) ?_;refine cp hm ?_;refine Zc1 (Zc9 hc ho l h c) ?_;refine⟨i+1,by omega,by omega,?_⟩;rw[f];refine⟨[(51,.blk 51 0),(60,.blk 60 1)],rfl,au0,?_,au18⟩;exact ZcF rfl rfl gg (Zcv b) (ZcF rfl rfl gg (Zcv (SU.Qau (Qaw QbH _) (by rw[noRefs,c];rfl))) ZcE)
  have e:i=xs.length:=by omega
  subst e;refine Zc3 a ?_;refine⟨(),?_⟩;refine⟨[(51,.blk 51 0),(60,.blk 60 0)],rfl,au0,?_,au18⟩;exact ZcF rfl rfl gg (Zcv b) (ZcF rfl rfl gg (Zcv (Qaw QbH _)) ZcE)
 rintro _ _;refine Zc0 ?_;refine Qap 200 (fun i:Nat=>[(3,.sl 60 0 0 (xs.length+i) 1),(22,cos ks),(23,.int .i64 ks.length),(24,.int .i64 i)]) (fun i=>[(60,.cells 0 ((cdA xs (ks.take i)).map cdF))]) (fun i=>i<=ks.length) (fun i=>ks.length-i) 0 2 260 (fun _:Unit=>[(3,cdL (cdA xs ks))]) (fun _=>[]) (fun _=>True) ⟨[(60,.blk 60 0)],rfl,au0,?_,au18⟩ (Zah _) ?_ ?_;·exact ZcF rfl rfl gg (Zcv (Qaw QbH _)) ZcE
 ·rintro i hi;by_cases a:i<ks.length
  ·obtain⟨k,hk⟩:=Qao a;have d:=QfC hk;have g:3<=((ks.flatMap coC).drop (i*3)).length:=by rw[d];simp
   have h:((cdA xs (ks.take i)).map cdF).length=xs.length+i:=by rw[Zaz,Qeu,Zaw];omega
   have hm:=mk206 k;have hc:=Qly (.inr k);have ho:=Qpc (.inr k);have l:=Qpd (.inr k);have f:(cdA xs (ks.take (i+1))).map cdF=(cdA xs (ks.take i)).map cdF++[cdF (.inr k)]:=by rw[take_succ' hk];simp[cdA]
   have c:=QbH (.inr k);generalize cdF (.inr k)=F at*;refine Zc1 (Zc7 a d g) ?_;refine cp hm ?_;refine Zc1 (Zc9 hc ho l h c) ?_;refine⟨i+1,by omega,by omega,?_⟩;rw[f];refine⟨[(60,.blk 60 1)],rfl,au0,?_,au18⟩;exact ZcF rfl rfl gg (Zcv (SU.Qau (Qaw QbH _) (by rw[noRefs,c];rfl))) ZcE
  have e:i=ks.length:=by omega
  subst e;refine Zc3 a ?_;exact⟨(),[],rfl,ZcB,ZcE,ZcD (ZcM (b:=60) (g:=0) gg rfl rfl Qeu (by rw[Zaz,Qeu];simp) (Zcv (Qaw QbH _))) ZcC⟩
 rintro _ _;refine Zc0 ?_;exact⟨.inr trivial,_,rfl,Zct (Qdd _)⟩
end Go.AM.SO
namespace Go.AM.SO
open Go.Proofs Go.AM.SD Go.AM.SE
variable{S t:List Nat}{xs:List (Nat×List (Nat×Nat))}{ks:List (List (Nat×Int)×Int)}
theorem checkT202(h:TOk S t xs ks):PSpec Tryz.prog 199 [cdV S xs ks,sliN t] (.int .i64 0):=by
 have a:=@Qb4 S xs ks;refine Zcy 64 TQ.ok199 rfl (by rw[noRefs,noRef,a,noRefs,Qae];rfl) rfl ?_;have l:=h.l3;have c:(t.length=S.length)=True:=eq_true h.ln;have f:((t.length:Int)=(S.length:Int))=True:=eq_true (by rw[h.ln]);show wS _ _ _ _ _ (argT 0 [.agg [sliN S,exs xs,cos ks],sliN t]) _ _;unfold TQ.s199;refine Zc1 (Zc6 c f) ?_;refine Qap 100 (fun i:Nat=>[(2,.ptr 51 0 0),(13,sliN t),(14,.int .i64 t.length),(15,.int .i64 i)]) (fun _=>[(51,.cells 0 [sliN S,exs xs,cos ks])]) (fun i=>i<=t.length) (fun i=>t.length-i) 0 0 160 (fun _:Unit=>[]) (fun _=>[]) (fun _=>True) ?_ (Zah _) ?_ ?_;·refine⟨[(51,.blk 64 0)],rfl,au0,?_,au18⟩;exact ZcF rfl rfl gg (Zcv a) ZcE
 ·rintro i hi;by_cases b:i<t.length
  ·obtain⟨x,g⟩:=Qao b;obtain⟨n,k⟩:=Qao (l:=S) (i:=i) (by rw[<-h.ln];exact b);have d:i<S.length:=by rw[<-h.ln];exact b
   have m:=h.lt i x n g k;have g1:¬(x:Int)<0:=by omega
   have g2:¬(n:Int)<=(x:Int):=by omega
   refine Zc1 (Zda b d (Qaz g) (Qaz k) g1 g2) ?_;refine⟨i+1,by omega,by omega,?_⟩;refine⟨[(51,.blk 51 0)],rfl,au0,?_,au18⟩;exact ZcF rfl rfl gg (Zcv a) ZcE
  refine Zc1 b ?_;exact⟨(),⟨[],rfl,au0,au24,au18⟩⟩
 rintro _ _;refine Zc0 ?_;exact⟨.inr trivial,_,rfl,rfl⟩
theorem QrK{c:Cel}(h:WfCel c){t:List Nat}(m:InT (auL c.cs) t):TOk (szs c) t c.xs c.ks:=by
 have f:t.length=c.cs.length:=by rw[m.1,Qa1]
 have r:=h.c3;have a:=h.x2;have hk:=h.k1;refine⟨by rw[f,h.slen],by omega,fun _ _ x a=>m.lt (Qa5 h) a,fun i x n hi d=>?_,fun x a=>⟨by have:=h.xlen a;omega,fun l o=>?_⟩,fun k hk=>⟨by have:=h.klen hk;omega,fun x a=>?_⟩,by omega,by omega⟩
 ·have g:i<c.cs.length:=by rw[<-f];exact(Zaf.1 hi).1
  obtain⟨y,b⟩:=Qao g;have h1:=m.2 i y.2 (by rw[ZaD,b];rfl);rw[Zak,hi]at h1;unfold szs at d;rw[ZaD,b]at d;simp only[ZbD,Zab]at d;subst d;simpa using h1
 ·obtain⟨y,b,_⟩:=(h.xl x a).2.2 l o;rw[f];exact(Zaf.1 b).1
 obtain⟨h1,_,q,p⟩:=(h.kl k hk).2.2.1 x a;exact⟨by rw[f];exact h1,q,p⟩
theorem checkT157(c:Cel)(h:WfCel c){t:List Nat}(d:InT (auL c.cs) t):PSpec Tryz.prog 120 [cdV (szs c) c.xs c.ks,sliN t] (.int .i64 0):=by have a:=@Qb4 (szs c) c.xs c.ks;refine Zcy 64 TQ.ok120 rfl (by rw[noRefs,noRef,a,noRefs,Qae];rfl) rfl ?_;have h1:=conds32 c h;have b:=checkT202 (QrK h d);show wS _ _ _ _ _ (argT 0 [.agg [sliN (szs c),exs c.xs,cos c.ks],sliN t]) _ _;unfold TQ.s120;refine Zc0 ?_;refine cp h1 ?_;refine Zc0 ?_;refine cp b ?_;refine Zc0 ?_;exact⟨.inr trivial,_,rfl,rfl⟩
theorem QcN{α:Type}{q:α->Bool}{A:List α}:-1<=idxQ q A/\(0<=idxQ q A->idxQ q A<A.length):=by
 unfold idxQ;by_cases a:A.any q=true;·rw[if_pos a];have:A.findIdx q<A.length:=Zbp (by simpa using a);exact⟨by omega,fun _=>by omega⟩
 rw[if_neg a];exact⟨by omega,fun h=>by omega⟩
def vioV(t:List Nat)(xs:List (Nat×List (Nat×Nat)))(ks:List (List (Nat×Int)×Int)):Int×Int×Bool:=if idxQ (cdQ t) (cdA xs ks)<0 then(0,0,false)else if idxQ (cdQ t) (cdA xs ks)<xs.length then(1,idxQ (cdQ t) (cdA xs ks),true)else(2,idxQ (cdQ t) (cdA xs ks)-xs.length,true)
theorem violated73(c:Cel)(h:WfCel c){t:List Nat}(g:InT (auL c.cs) t):PSpec Tryz.prog 63 [cdV (szs c) c.xs c.ks,sliN t] (.tup [.int .i64 (vioV t c.xs c.ks).1,.int .i64 (vioV t c.xs c.ks).2.1,.bool (vioV t c.xs c.ks).2.2,.int .i64 0]):=by
 have b:=@Qb4 (szs c) c.xs c.ks;refine Zcy 64 TQ.ok63 rfl (by rw[noRefs,noRef,b,noRefs,Qae];rfl) rfl ?_;have h1:=checkT157 c h g;have ho:=QrK h g;have i:=conds159 (S:=szs c) ho.xn ho.kn;have m:=violated158 ho;have hle:=@QcN _ (cdQ t) (cdA c.xs c.ks);have k:=h.x2;have l:=h.k1;rw[Qeu]at hle;unfold vioV;generalize idxQ (cdQ t) (cdA c.xs c.ks)=a at*;show wS _ _ _ _ _ (argT 0 [.agg [sliN (szs c),exs c.xs,cos c.ks],sliN t]) _ _;unfold TQ.s63;refine Zc0 ?_;refine cp h1 ?_;refine Zc0 ?_;refine cp i ?_;refine Zc0 ?_;refine cp m ?_;by_cases d:a<0;·refine Zc1 d ?_;exact⟨.inr trivial,_,rfl,rfl⟩
 by_cases f:a<c.xs.length;·refine Zc1 (Zc6 d f) ?_;exact⟨.inr trivial,_,rfl,rfl⟩
 have hw:wr .i64 (a-(c.xs.length:Int))=a-(c.xs.length:Int):=QgP (by omega) (by omega);refine Zc1 (Zc7 d f hw) ?_;exact⟨.inr trivial,_,rfl,rfl⟩
end Go.AM.SO
namespace Go.AM.TR
open Go.Proofs
set_option maxHeartbeats 4000000
noncomputable section
def cf:YA.Cf:={most:=.pure,always:=[58,59].map fun k=>(k,.heap)}
def s60:SFn:=by
 refine(?f:YA.Yt Tryz.prog cf 60 [[0,2,3],[8,9,10],[5],[12,13,14,15,11,16,17,18,19,20,21,22],[23],[1,4,5,24,25],[2,3,24,27,28,29,30,31,32,33,34,35,36,26,37,38,39,40,41,42,43],[44],[1,4,5,45,46],[2,3,1,5,45,47,48,49,50,51,52,53,54,55],[56,57,58],[],[62,63,64,65],[6,7,66,67,68,69,70,71,72],[73],[4,59,60,61,74]] [(9,[(4,6)])]) ?s ?h;case h=>exact YA.rr
 exact fun s _=>s
def s123:SFn:=by
 refine(?f:YA.Yt Tryz.prog cf 123 [[2,11,12,13,14,15,16,10,17,18,6],[5],[],[22,23,24],[25,26,27,28],[8,9,29,30,31],[37,38]]) ?s ?h;case h=>exact YA.rr
 exact fun s _=>s
theorem ok60:okFn Tryz.prog 60 s60=true:=by kernel_rfl
theorem ok123:okFn Tryz.prog 123 s123=true:=by kernel_rfl
end
end Go.AM.TR
namespace Go.AM
variable{P:Program}
theorem HRel.give{ok:Okc}{c:Ctx ok}{h:Heap}{w:World}(H:HRel c h w){b g len sz:Nat}{ds:List AV}(G:h.get b=some (.cells g ds))(S:noRefs ds=true)(X:ds.length=len*sz)(I:Nat.blt b 1099511627775=true):∃c2,Evo c w c2 w/\HRel c2 (h.set b (.dead g)) w/\(∀v,VRel c w (.sl b g 0 len sz) v->VRel c2 w (.fsl ds len sz) v)/\∀x v,noRef x=true->VRel c w x v->VRel c2 w x v:=by
 have l:b<1099511627775:=by simp_all
 have a:Live h b g:=⟨_,G,rfl,fun _=>by simp⟩;let c2:Ctx ok:={c with F:=fun k=>c.F k\/∃base,c.ρ b g=some (.loc k base),O:=fun k=>c.O k/\¬∃base,c.ρ b g=some (.loc k base)};have d:∀k,(h.set b (.dead g)).get k=if k=b then some (.dead g)else h.get k:=fun k=>by
  by_cases e:k=b;·subst e;rw[QaA l,if_pos rfl]
  simp_all[QaH]
 have t:∀k y,Live (h.set b (.dead g)) k y->k≠b/\Live h k y:=by
  rintro k y⟨x,hk,hg,B⟩;rw[d]at hk;split at hk;·grind
  rename_i e;exact⟨e,x,hk,hg,B⟩
 have E:=Evo.refl c w;have E2:Evo c w c2 w:=⟨E.os,E.tape,E.output,E.size,E.shape,E.keep,E.rho,fun k hk=>.inl (E.frz k hk),fun k hk=>by
  rcases hk with hk|⟨base,hk⟩;·simp_all
  exact .inr (.inl (H.owned a hk)),fun k hk=>E.own k hk.1,E.base⟩;refine⟨c2,E2,⟨fun k hk y=>?_,fun k x hk y q=>?_,fun k x hk=>?_,fun k y M Y u base i l1 K p1 Z=>H.inj k y M Y u base i (t _ _ l1).2 (t _ _ K).2 p1 Z,fun k f hO=>?_,fun k f=>?_,fun k hO=>H.inO k hO.1⟩,fun v V=>?_,fun x v Q hv=>Zcr (c:=c) (c':=c2) (fun _ h=>.inl h) _ _ Q hv⟩
 ·rw[d]at hk;split at hk;·cases hk
  exact H.fresh k hk y
 ·rw[d]at hk;split at hk;·rename_i e;subst e;cases hk;exact H.later k _ G y q
  exact H.later k x hk y q
 ·rw[d]at hk;split at hk;·cases hk;trivial
  rename_i e;refine Zcq (c:=c) (c':=c2) (w:=w) (w':=w) ⟨fun _ _ _ h=>h,fun _ h=>.inl h,fun _ _ _ h=>h,fun _ C _ J h=>⟨C,J,h,rfl⟩⟩ (fun u base B hp=>?_) (H.blk k x hk);have p:Live h k x.gen:=⟨x,hk,rfl,B⟩;exact⟨⟨H.owned p hp,fun⟨i,z⟩=>e (H.inj _ _ _ _ _ _ _ p a hp z)⟩,rfl⟩
 ·rcases f with f|f;·exact H.disj k f hO.1
  grind
 ·rcases f with f|⟨base,f⟩;·exact H.inF k f
  exact H.inO k (H.owned a f)
 simp only[VRel]at V;rcases V with⟨hp,rfl,_,rfl⟩|⟨u,base,o,cap,C,e,J,hp,rfl,N,hC,s⟩;·simp_all[VRel]
 obtain⟨C',e',P,hO,r,R,T,m⟩:=H.here G hp;rw[hC]at r;cases r;have f:c2.F u:=.inr ⟨base,hp⟩;by_cases U:cap=0
 ·have A:len=0:=by omega
  subst A;have:ds=[]:=Zbm (by rw[X];simp);subst this;simp only[VRel];simp_all
 obtain⟨rfl,hbd⟩:=s.resolve_left U;have L:=VPre.noRef2 (c:=c) (c':=c2) (fun _ h=>.inl h) S m;simp only[VRel];grind
theorem HSpec.give1{f b g len sz:Nat}{ds:List AV}{h:Heap}{v:AV}(S:PSpec P f [.fsl ds len sz] v)(k:h.get b=some (.cells g ds))(p:noRefs ds=true)(o:ds.length=len*sz)(d:Nat.blt b 1099511627775=true):HSpec P f [.sl b g 0 len sz] h v (h.set b (.dead g)):=by
 have m:=S;obtain⟨_,_,r,hc,_⟩:=S;refine⟨hc,fun c w a H s=>?_⟩;obtain⟨c2,E2,H2,V2,_⟩:=H.give k p o d;have i:VRels c2 w [.fsl ds len sz] a.toList:=by grind[VRels]
 refine((m.pure H2 i).2).mono ?_;rintro e t⟨l,q,rfl,E,H',V⟩;exact⟨l,q,rfl,E2.trans E,H',V⟩
end Go.AM
namespace Go.AM
variable{P:Program}
def tight(i:Nat)(f:FP):Prop:=f.all=false/\∀b,b∈f.R\/b∈f.W->b∈[i]
def wpRS(P:Program)(z:Nat):Nat->List SOper->Tmps->Heap->(Tmps->Heap->Nat->Prop)->Prop|n,[],T,h,K=>K T h n|n,s::r,T,h,K=>∃v h1 f,StepV P n s T h v h1 f/\(n=z->tight n f)/\wpRS P z (n+1) r (putD T s.dst v) h1 K
theorem Qlz{z:Nat}:∀{r:List SOper}{n:Nat}{T:Tmps}{h:Heap}{K:Tmps->Heap->Nat->Prop},z<n->wpR P n r T h K->wpRS P z n r T h K|[],n,T,h,K,_,hk=>hk|s::r,n,T,h,K,c,⟨v,h1,f,a,b⟩=>⟨v,h1,f,a,fun e=>by omega,Qlz (by omega) b⟩
theorem Que{s:SOper}{K:Tmps->Heap->Nat->Prop}:∀(k:Nat)(r:List SOper)(n:Nat)(T:Tmps)(h:Heap),r[k]?=some s->wpR P n (r.take k) T h (fun T1 h1 d=>∃v a f,StepV P d s T1 h1 v a f/\tight d f/\wpR P (d+1) (r.drop (k+1)) (putD T1 s.dst v) a K)->wpRS P (n+k) n r T h K:=by intro k;induction k with
 |zero=>intro r n T h e hw;cases r with|nil=>cases e|cons t r=>rw[Zbn,Zab]at e;subst e;rw[Zch]at hw;simp only[wpR]at hw;obtain⟨v,a,f,b,c,g⟩:=hw;rw[Zbw,Zbo]at g;exact⟨v,a,f,b,fun _=>c,Qlz (by omega) g⟩
 |succ k i=>intro r n T h e hw;cases r with|nil=>cases e|cons t r=>rw[Zbc]at hw;simp only[wpR]at hw;obtain⟨v,h1,f,b,c⟩:=hw;refine⟨v,h1,f,b,fun e=>by omega,?_⟩;rw[show n+(k+1)=n+1+k by omega];exact i r (n+1) _ _ (by simpa using e) c
theorem Qnr{z:Nat}:∀{r:List SOper}{n:Nat}{T:Tmps}{h:Heap}{K:Tmps->Heap->Nat->Prop},wpRS P z n r T h K->∃T' h' n',K T' h' n'/\∀d,(∀s∈r,s.dst≠some d)->lk T' d=lk T d|[],n,T,h,K,hk=>⟨T,h,n,hk,fun _ _=>rfl⟩|s::r,n,T,h,K,⟨v,h1,f,c,_,a⟩=>by obtain⟨T',h',n',hk,he⟩:=Qnr a;refine⟨T',h',n',hk,fun d b=>?_⟩;simp_all[QbJ]
def touch3(z i:Nat)(ax:Opd->Option (List Nat))(s:SOp):Option (List Nat):=bif Nat.beq i z then some [i]else touch2 i ax s
def touchesN(z:Nat)(C:Claims)(n:Nat)(T:Tmps):List SOper->Abs->List (Option (List Nat))|[],_=>[]|s::r,A=>touch3 z n (absO T A) s.op::touchesN z C (n+1) T r (match s.dst with|some d=>(d,absH C d (s.op.absV n (absO T A)))::A|none=>A)
theorem Qns{T0:Tmps}{C:Claims}{z:Nat}:∀{r:List SOper}{n:Nat}{A:Abs}{T:Tmps}{h:Heap}{K:Tmps->Heap->Nat->Prop}(hA:AbsOK T0 A T)(K':List FP->Tmps->Heap->Nat->Prop)(l:∀T h n,K T h n->∀d bs,clm C d=some bs->Pts (lk T d) bs)(a:ssa C r=true),(∀fs T h n',fs.length=r.length->(∀(j:Nat)i,(touchesN z C n T0 r A).getD j none=some i->(fs.getD j ⟨false,[],[]⟩).all=false/\∀b,b∈(fs.getD j ⟨false,[],[]⟩).R\/b∈(fs.getD j ⟨false,[],[]⟩).W->b∈i)->K T h n'->K' fs T h n')->wpRS P z n r T h K->wpRF P n r T h K'
 |[],n,A,T,h,K,hA,K',l,a,p,hw=>p [] T h n rfl (fun j i c=>by simp_all) hw|s::r,n,A,T,h,K,hA,K',l,a,p,hw=>by
  obtain⟨v,h1,f,t,B,u⟩:=hw;simp only[ssa,Zaa]at a;obtain⟨g,m⟩:=a;refine⟨v,h1,f,t,?_⟩;have q:AbsOK T0 (match s.dst with|some d=>(d,absH C d (s.op.absV n (absO T0 A)))::A|none=>A) (putD T s.dst v):=by cases e:s.dst with|none=>exact hA|some d=>
   refine AbsOK.up hA fun bs k=>?_;unfold absH at k;split at k
   ·rename_i x hc;cases k;obtain⟨T',E,n',hk,he⟩:=Qnr u;have w:=l T' E n' hk d _ hc;rw[he d ?_,QbJ,if_pos e]at w;·exact w
    intro G o;rw[e]at g;simp only[hc,Option.isNone_some,Bool.false_or,ZaK]at g;have:=g G o;intro H;simp_all
   exact Qf0 hA.opd k t
  refine Qns q (fun fs T h n=>K' (f::fs) T h n) l m (fun fs T h n' y hf hk=>?_) u;refine p (f::fs) T h n' (by simp[y]) (fun j i c=>?_) hk;cases j with
  |zero=>simp only[touchesN,List.getD_cons_zero]at c⊢;unfold touch3 at c;cases e:Nat.beq n z with|true=>rw[e]at c;simp only[cond_true,Zab]at c;subst c;exact B (by simpa using e)|false=>rw[e]at c;exact Qg1 hA.opd c t
  |succ j=>simp only[touchesN,List.getD_cons_succ]at c⊢;exact hf j i c
def NewAt(P:Program)(N:NM)(x:Opd)(ag:List Opd)(d:Option Nat)(r:List SOper)(n:Nat)(T:Tmps)(h:Heap)(Q:QC):Prop:=∃f a len sz,ev T x=.fn f [] []/\NSpec P f (evs T ag) a len sz/\noRefs a=true/\n<lim/\h.get n=none/\wR P N r [] [] (n+1) (putD T d (.sl n 0 0 len sz)) (h.set n (.cells 0 a)) Q
theorem Qgh(C:Claims)(k:Nat){x:Opd}{ag:List Opd}{d:Option Nat}{N:NM}{ops:List SOper}{p:Nat×Nat}{u:List (Nat×Nat)}{dead:List Nat}{fs:List Fr}{n:Nat}{T:Tmps}{h:Heap}{Q:QC}{af:List Nat}(hk:ops[k]?=some ⟨d,.call .heap x ag,af,none⟩)(i:ssa C ops=true)(hp:pairsOK (touchesN (n+k) C n T ops []) (p::u)=true)(hw:wR P N (ops.take k) [] [] n T h fun e T h n=>NewAt P N x ag d (ops.drop (k+1)) n T h fun e T h n=>Clms T C/\wX P N .normal fs n (rm T dead) h Q):wS P N (.region ops (p::u) dead) fs n T h Q:=by
 have rm0:∀T:Tmps,rm T []=T:=by intro T;induction T with|nil=>rfl|cons p T m=>obtain⟨j,v⟩:=p;simp[rm,m]
 refine Qns (C:=C) (z:=n+k) (K:=fun T h n=>Clms T C/\wX P N .normal fs n (rm T dead) h Q) AbsOK.nil _ (fun T h n hk d w hc=>hk.1.get d w hc) i (fun R T h X Y hf hk=>⟨?_,hk.2⟩) ?_
 ·rw[ZaK];intro q B;have:=ZaK.1 hp q B;split at this
  ·rename_i a b E o;obtain⟨f1,f2⟩:=hf _ _ E;obtain⟨g1,g2⟩:=hf _ _ o;have U:∀x y,x∈a->y∈b->x≠y:=by grind
   have V:∀xs g:List Nat,(∀x∈xs,∀y∈g,x≠y)->disj xs g=true:=by intro xs g t;unfold disj;grind
   grind[FP.apart]
  cases this
 refine Que k ops n T h hk ?_;have l:wpR P n (ops.take k) T h fun T h n=>NewAt P N x ag d (ops.drop (k+1)) n (rm T []) h fun e T h n=>Clms T C/\wX P N .normal fs n (rm T dead) h Q:=hw;simp only[rm0]at l;have mono:∀{r:List SOper}{n:Nat}{T:Tmps}{h:Heap}{K K':Tmps->Heap->Nat->Prop},(∀T h n,K T h n->K' T h n)->wpR P n r T h K->wpR P n r T h K':=by intro r;induction r with|nil=>intro n T h K K' hi hw;exact hi _ _ _ hw|cons s r m=>intro n T h K K' hi hw;obtain⟨v,h1,f,z,H⟩:=hw;exact⟨v,h1,f,z,m hi H⟩
 refine mono (fun T1 h1 c t=>?_) l;obtain⟨f,g,len,sz,S,I,L,M,J,G⟩:=t;refine⟨.sl c 0 0 len sz,h1.set c (.cells 0 g),⟨false,[c],[c]⟩,?_,⟨rfl,fun b o=>?_⟩,?_⟩;·refine⟨.call .heap f (evs T1 ag),h1,?_,.inr (.inr (.inl ⟨evs T1 ag,[],.inl ⟨rfl,rfl⟩,.inl ⟨g,len,sz,I,.inr ⟨L,rfl⟩,M,J,rfl,rfl,rfl⟩⟩))⟩;simp_all[aop,aCall,HM.run]
 ·simpa using o
 have A:wpR P (c+1) (ops.drop (k+1)) (putD T1 d (.sl c 0 0 len sz)) (h1.set c (.cells 0 g)) fun T h n=>Clms (rm T []) C/\wX P N .normal fs n (rm (rm T []) dead) h Q:=G;simp_all
end Go.AM
namespace Go.AM.SO
open Go.Proofs Go.AM.SD Go.AM.SE
theorem u8_wf{n:Int}(h:(Lit.int .u8 n).wf=true):0<=n/\n<256:=by grind[Lit.wf,IntKind.min,IntKind.max,IntKind.signed,IntKind.bits]
theorem i8_wf{n:Int}(h:(Lit.int .i8 n).wf=true):-128<=n/\n<128:=by grind[Lit.wf,IntKind.min,IntKind.max,IntKind.signed,IntKind.bits]
def u8O:Ty->Bool|.int k=>k==.u8|.arr _ t=>u8O t|.st t=>u8O t|.unit=>true|.pair a b=>u8O a&&u8O b|_=>false
theorem Qgi{a b:List Nat}:u8s (a++b)=u8s a++u8s b:=by simp[u8s]
theorem QbW:∀(t:Ty),u8O t=true->∀(d:t.D),t.wf d->∃l:List Nat,l.length=t.sz/\(∀x∈l,x<256)/\t.cells d=u8s l
 |.int k,h,d,hw=>by
  have:k=.u8:=by grind[u8O]
  subst this;have:=u8_wf hw;refine⟨[Int.toNat d],rfl,by simp;omega,?_⟩;show[AV.int .u8 d]=[AV.int .u8 ((Int.toNat d:Nat):Int)];grind|.bool,h,_,_=>by cases h|.str,h,_,_=>by cases h|.sl _,h,_,_=>by cases h|.st t,h,d,hw=>QbW t h d hw|.unit,_,_,_=>⟨[],rfl,by simp,rfl⟩|.pair a b,h,d,hw=>by simp only[u8O,Zaa]at h;obtain⟨l,h1,g,i⟩:=QbW a h.1 d.1 hw.1;obtain⟨m,g1,g2,g3⟩:=QbW b h.2 d.2 hw.2;refine⟨l++m,by rw[Zae,h1,g1];rfl,fun x c=>(Zay.1 c).elim (g x) (g2 x),?_⟩;show a.cells d.1++b.cells d.2=_;rw[i,g3,Qgi]|.arr n t,h,d,hw=>by
  obtain⟨f,c⟩:=hw;have key:∀l:List t.D,(∀x∈l,t.wf x)->∃r:List Nat,r.length=l.length*t.sz/\(∀x∈r,x<256)/\l.flatMap t.cells=u8s r:=by intro l;induction l with|nil=>intro _;exact⟨[],by simp,by simp,rfl⟩|cons a l o=>intro f;obtain⟨r,g1,g2,g3⟩:=o fun y p=>f y (by simp[p]);obtain⟨m,h1,g,i⟩:=QbW t h a (f a (by simp));refine⟨m++r,by grind,fun x c=>(Zay.1 c).elim (g x) (g2 x),?_⟩;rw[ZaA,g3,i,Qgi]
  obtain⟨r,g1,g2,g3⟩:=key d c;refine⟨r,by rw[g1];show List.length d*t.sz=n*t.sz;rw[f],g2,g3⟩
abbrev tyTo:Ty:=.arr 5 (.arr 5 (.int .u8))
abbrev tyGr:Ty:=.st (.pair (.int .u8) (.pair (.int .u8) (.pair tyTo .unit)))
abbrev tyPln:Ty:=.st (.pair (.arr 5 (.int .u8)) (.pair (.int .u8) (.pair (.arr 3 (.int .u8)) (.pair (.arr 3 tyGr) (.pair (.int .u8) (.pair (.arr 2 (.int .u8)) (.pair (.arr 2 tyGr) (.pair (.sl (.arr 4 (.int .u8))) (.pair (.arr 3 (.int .i8)) (.pair (.int .i8) .unit))))))))))
theorem QeX{d:tyPln.D}(h:tyPln.wf d):∃p:Pln,POk p/\p.xn<=9223372036854775807/\tyPln.val d=plnV p:=by
 obtain⟨a,b,c,g,e,f,k,x,y,z,u⟩:=d;obtain⟨h1,E,A,w,t,B,C,r,v,q,_⟩:=h;dsimp only at h1 E A w t B C r v q;obtain⟨Y,a1,b1,c1⟩:=QbW (.arr 5 (.int .u8)) rfl _ h1;obtain⟨G,a2,b2,c2⟩:=QbW (.int .u8) rfl _ E;obtain⟨R,a3,b3,c3⟩:=QbW (.arr 3 (.int .u8)) rfl _ A;obtain⟨K,a4,b4,c4⟩:=QbW (.arr 3 tyGr) rfl _ w;obtain⟨U,a5,b5,M⟩:=QbW (.int .u8) rfl _ t;obtain⟨H,I,b6,S⟩:=QbW (.arr 2 (.int .u8)) rfl _ B;obtain⟨T,Z,b7,X⟩:=QbW (.arr 2 tyGr) rfl _ C;obtain⟨s,r⟩:=r;obtain⟨N,V,b8,P⟩:=QbW (.arr (List.length x) (.arr 4 (.int .u8))) rfl x ⟨rfl,r⟩;obtain⟨Q,i⟩:=v;obtain⟨o,m,l,rfl⟩:∃o m l,y=[o,m,l]:=by match y,Q with|[o,m,l],_=>exact⟨o,m,l,rfl⟩
 have L:=i8_wf (i o (by simp));have w1:=i8_wf (i m (by simp));have w2:=i8_wf (i l (by simp));have J:=i8_wf q;refine⟨⟨Y++G++R++K++U++H++T,N,List.length x,o,m,l,z⟩,⟨?_,?_,V,b8,L,w1,w2,J⟩,s,?_⟩;·simp only[Zae,a1,a2,a3,a4,a5,I,Z];rfl
 ·grind
 show AV.agg (tyPln.cells _)=_;congr 1;show(Ty.arr 5 (.int .u8)).cells a++((Ty.int .u8).cells b++((Ty.arr 3 (.int .u8)).cells c++((Ty.arr 3 tyGr).cells g++((Ty.int .u8).cells e++((Ty.arr 2 (.int .u8)).cells f++((Ty.arr 2 tyGr).cells k++([.fsl ((Ty.arr (List.length x) (.arr 4 (.int .u8))).cells x) (List.length x) 4]++((Ty.arr 3 (.int .i8)).cells [o,m,l]++((Ty.int .i8).cells z++[])))))))))=_;rw[c1,c2,c3,c4,M,S,X,P];simp only[plnC,Qgi,ZaR];rfl
end Go.AM.SO
namespace Go.AM.SO
open Go.Proofs Go.AM.SD Go.AM.SE
theorem short25(p:Pln)(h:POk p)(c:p.xn<=9223372036854775807):PSpec Tryz.prog 32 [plnV p] (.bool (decide (p.xn<=4))):=by refine Zcy 64 ok32 rfl (by simp only[noRefs,noRef,SU.Qeh];rfl) rfl ?_;have hlen:=SU.QcA h;have b:=SU.QcB h;have a:(plnC p)[147]?=some (.fsl (u8s p.X) p.xn 4):=SU.QfA h (k:=0);show wS _ _ _ _ _ (argT 0 [.agg (plnC p)]) _ _;generalize plnC p=C at*;have e:decide ((p.xn:Int)<=4)=decide (p.xn<=4):=decide_eq_decide.2 (by omega);unfold s32;refine Zc5 (Zc8 hlen b a e) ?_;exact⟨.inr trivial,_,rfl,rfl⟩
end Go.AM.SO
namespace Go.AM.SO
open Go.Proofs Go.AM.SD Go.AM.SE
theorem QrL{l:List Aut}{ev:List Nat}:∀{k i:Nat}{s:List (List Nat)×List Ed},(pQ l ev k i s).2.length<=s.2.length+k*ev.length|0,_,s=>by simp[pQ]|k+1,i,s=>by unfold pQ;cases s.1[i]? with|none=>dsimp only;omega|some t=>have h1:=QrL (l:=l) (ev:=ev) (k:=k) (i:=i+1) (s:=pRow l ev i t s);have a:=QeV (l:=l) (i:=i) (t:=t) (ev:=ev) (s:=s);have b:(k+1)*ev.length=k*ev.length+ev.length:=Zbq ..;dsimp only;omega
theorem Qll(x:Aut):autB x x=true:=by simp[autB]
theorem QiM{l:List Aut}(h:∀a∈l,WfI a)(f:l.length<=5):AOk (syncA l)/\(sync0 l).1.length<=243/\∀t∈(sync0 l).1,t.length<=5:=by
 have hw:∀a∈l,∀e∈a.es,e.1<a.n/\e.2.2<a.n:=fun a c=>(h a c).wf.esn;have b:∀a∈l,0<a.n:=fun a c=>(h a c).pos;have d:box l<=243:=Zav (Qrs (fun a c=>(h a c).n3) (by omega)) (Nat.pow_le_pow_right (n:=3) (by omega) f);have k:=Qnj b hw;have i:=Qt4 h;have he:(sync0 l).2.length<=244*5:=by refine Zav QrL ?_;have:=Zci (show box l+1<=244 by omega) i;simpa using this
 refine⟨⟨by show(evA l).length<=_;omega,?_,by show(sync0 l).2.length<=_;omega⟩,by omega,fun t g=>?_⟩;·have :=@Qlu l (sync0 l).1 (sync0 l).1.length;show(marks l (sync0 l).1 (sync0 l).1.length).length<=_;omega
 have :=((Qfz b hw).inT t g).1;omega
end Go.AM.SO
namespace Go.AM.SO
open Go.Proofs Go.AM.SD Go.AM.SE
theorem Quf:allK 62 1 []=true:=by kernel_rfl
theorem Qug:allK 62 2 []=true:=by kernel_rfl
theorem Quh:allK 62 3 []=true:=by kernel_rfl
theorem key72{c:Cel}(h:WfCel c){t:List Nat}(a:InT (auL c.cs) t):PSpec Tryz.prog 62 [sliN t] (.str (keyT t)):=by have f:=h.c0;have g:=h.c3;have d:=a.1;rw[Qa1]at d;refine QjD (QfE (u:=[]) ?_ fun x b=>a.lt (Qa5 h) b);grind[Quf,Qug,Quh]
def allA(c:Cel):List Aut:=auL c.cs++auL c.rs
theorem Qcd{c:Cel}(h:WfCel c):∀a∈allA c,WfI a:=fun a b=>by
 unfold allA at b;rcases Zay.1 b with b|b;·exact Qa5 h a b
 obtain⟨x,d,rfl⟩:=Zan.1 b;exact h.ra x d
theorem Qb8{c:Cel}:(allA c).length=c.cs.length+c.rs.length:=by simp[allA]
theorem Qs2:allK 116 3 [0]=true:=by kernel_rfl
theorem Qs3:allK 116 3 [1]=true:=by kernel_rfl
theorem Qs4:allK 116 3 [2]=true:=by kernel_rfl
theorem QrM:allK 116 3 [0,0]=true:=by kernel_rfl
theorem QrN:allK 116 3 [0,1]=true:=by kernel_rfl
theorem QrO:allK 116 3 [0,2]=true:=by kernel_rfl
theorem QrP:allK 116 3 [1,0]=true:=by kernel_rfl
theorem QrQ:allK 116 3 [1,1]=true:=by kernel_rfl
theorem QrR:allK 116 3 [1,2]=true:=by kernel_rfl
theorem QrS:allK 116 3 [2,0]=true:=by kernel_rfl
theorem QrT:allK 116 3 [2,1]=true:=by kernel_rfl
theorem QrU:allK 116 3 [2,2]=true:=by kernel_rfl
theorem key98w4{a:Nat}(h:a<3):allK 116 3 [a]=true:=by
 obtain rfl|rfl|rfl:a=0\/a=1\/a=2:=by omega
 ·exact Qs2
 ·exact Qs3
 exact Qs4
theorem key98w5{a b:Nat}(h:a<3)(c:b<3):allK 116 3 [a,b]=true:=by
 obtain rfl|rfl|rfl:a=0\/a=1\/a=2:=by omega
 ·obtain rfl|rfl|rfl:b=0\/b=1\/b=2:=by omega
  ·exact QrM
  ·exact QrN
  exact QrO
 ·obtain rfl|rfl|rfl:b=0\/b=1\/b=2:=by omega
  ·exact QrP
  ·exact QrQ
  exact QrR
 obtain rfl|rfl|rfl:b=0\/b=1\/b=2:=by omega
 ·exact QrS
 ·exact QrT
 exact QrU
theorem Qui{c:Cel}(h:WfCel c)(t:List Nat)(l:InT (allA c) t):PSpec Tryz.prog 116 [sliN t] (.str (keyT t)):=by
 have p:=h.c0;have o:=h.c3;have m:=h.r2;have k:=l.1;have g:∀x∈t,x<3:=fun x g=>l.lt (Qcd h) g;rw[Qb8]at k;by_cases i:t.length<=3;·grind[key98]
 match t,k,g,i with|[_,_,_],_,_,i=>exact absurd (by simp) i|[a,b,d,e],k,g,_=>exact QjD (QfE (t:=[b,d,e]) (u:=[a]) (key98w4 (g a (by simp))) fun x h=>g x (by simp_all))|[a,b,d,e,f],k,g,_=>exact QjD (QfE (t:=[d,e,f]) (u:=[a,b]) (key98w5 (g a (by simp)) (g b (by simp))) fun x h=>g x (by simp_all))|[],_,_,i=>exact absurd (by simp) i|[_],_,_,i=>exact absurd (by simp) i|[_,_],_,_,i=>exact absurd (by simp) i|_::_::_::_::_::_::_,k,_,_=>simp at k;omega
end Go.AM.SO
