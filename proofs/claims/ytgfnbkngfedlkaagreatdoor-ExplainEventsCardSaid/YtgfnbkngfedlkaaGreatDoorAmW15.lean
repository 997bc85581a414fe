/- Lemmas on the way to ExplainEventsCardSaid. Conditions: none of ours. -/
import Derived.Test.YtgfnbkngfedlkaaGreatDoorProg
import Derived.KernelRfl
import Derived.Test.YtgfnbkngfedlkaaGreatDoorAmW14
set_option linter.unusedSectionVars false
set_option maxHeartbeats 32000000
set_option maxRecDepth 100000
set_option linter.unusedVariables false
set_option linter.unusedSimpArgs false
namespace Go.AM.SO
open Go.Proofs Go.AM.SD Go.AM.SE
def szs(c:Cel):List Nat:=c.cs.map (·.2.n)
theorem WfCel.comp{c:Cel}(h:WfCel c){x:Nat×List (Nat×Nat)}(b:x∈c.xs):∀l∈x.2,∃n,(szs c)[l.1]?=some n/\l.2<n:=fun l a=>by obtain⟨y,h1,d⟩:=(h.xl x b).2.2 l a;exact⟨y.2.n,by unfold szs;rw[ZaB,h1];rfl,d⟩
theorem WfCel.xlen{c:Cel}(h:WfCel c){x:Nat×List (Nat×Nat)}(a:x∈c.xs):x.2.length<=3:=by
 have h1:=QaQ c.cs.length (x.2.map (·.1)) (by rw[ZaN];exact(h.xl x a).2.1.imp fun h=>by omega) (fun y d=>by
  obtain⟨l,b,rfl⟩:=Zan.1 d;obtain⟨z,h1,_⟩:=(h.xl x a).2.2 l b;rcases ZbE l.1 c.cs.length with h|h;·exact h
  rw[ZaD h]at h1;cases h1);rw[Zaz]at h1;exact Zaw h1 h.c3
theorem WfCel.klen{c:Cel}(h:WfCel c){x:List (Nat×Int)×Int}(a:x∈c.ks):x.1.length<=3:=by have h1:=QaQ c.cs.length (x.1.map (·.1)) (by rw[ZaN];exact(h.kl x a).2.1.imp fun h=>by omega) (fun y d=>by obtain⟨l,b,rfl⟩:=Zan.1 d;exact((h.kl x a).2.2.1 l b).1);rw[Zaz]at h1;exact Zaw h1 h.c3
theorem WfCel.slen{c:Cel}(h:WfCel c):(szs c).length=c.cs.length:=by simp[szs]
theorem WfCel.sz{c:Cel}(h:WfCel c):∀s∈szs c,1<=s/\s<=3:=fun s b=>by obtain⟨x,a,rfl⟩:=Zan.1 b;exact⟨(h.ca x a).pos,(h.ca x a).n3⟩
theorem QjX{l:List (Nat×List (Nat×Nat))}{i:Nat}{x:Nat×List (Nat×Nat)}(h:l[i]?=some x):(l.flatMap exC).drop (i*2)=.str [101,UInt8.ofNat (48+x.1)]::los x.2::(l.drop (i+1)).flatMap exC:=Qa7 (f:=exC) (k:=2) (fun _=>rfl) h
theorem QjY{l:List (List (Nat×Int)×Int)}{i:Nat}{x:List (Nat×Int)×Int}(h:l[i]?=some x):(l.flatMap coC).drop (i*3)=.str [107]::tes x.1::.int .i64 x.2::(l.drop (i+1)).flatMap coC:=Qa7 (f:=coC) (k:=3) (fun _=>rfl) h
theorem Qg3(l:List (List (Nat×Int)×Int)):(l.flatMap coC).length=l.length*3:=Qa9 (k:=3) (fun _=>rfl) l
theorem conds32(c:Cel)(h:WfCel c):Pq 76 [cdV (szs c) c.xs c.ks] (.int .i64 0):=by
 have a:=@QbU (szs c) c.xs c.ks;refine Zcu 64 SQ.ok76 rfl (by rw[noRefs,noRef,a];rfl) rfl ?_;have E:=h.slen;have C:=h.c3;have r:=h.x2;have w:=h.k1;have g1:¬(8:Int)<((szs c).length:Int):=by omega
 have g2:¬(32:Int)<(c.xs.length:Int):=by omega
 have g3:¬(32:Int)<(c.ks.length:Int):=by omega
 have z:∀x∈c.xs,x.2≠[]/\x.2.length<=3:=fun x g=>⟨(h.xl x g).1,h.xlen g⟩;unfold SQ.s76;refine Zc0 g1 ?_;refine Qaq 100 (fun i:Nat=>[(1,.ptr 50 0 0),(20,sliN (szs c)),(21,.int .i64 (szs c).length),(22,.int .i64 i)]) (fun _=>[(50,.cells 0 (cdC (szs c) c.xs c.ks))]) (fun i=>i<=(szs c).length) (fun i=>(szs c).length-i) 0 0 140 (fun _:Unit=>[(1,.ptr 50 0 0)]) (fun _=>[(50,.cells 0 (cdC (szs c) c.xs c.ks))]) (fun _=>True) ⟨[(50,.blk 64 0)],rfl,au0,?_,au18⟩ (Zah _) ?_ ?_;·exact ZcB rfl rfl gg (Zcr a) ZcA
 ·rintro i hi;by_cases b:i<(szs c).length
  ·obtain⟨s,p⟩:=Qap b;obtain⟨G,B⟩:=h.sz s (Zae p);have q1:¬(s:Int)<1:=by omega
   have q2:¬(4096:Int)<(s:Int):=by omega
   refine Zc0 (Zc3 b (Qaz p) @q1 @q2) ?_;refine⟨i+1,by omega,by omega,?_⟩;refine⟨[(50,.blk 50 0)],rfl,au0,?_,au18⟩;exact ZcB rfl rfl gg (Zcr a) ZcA
  refine Zc0 b ?_;refine⟨(),?_⟩;refine⟨[(50,.blk 50 0)],rfl,au0,?_,au18⟩;exact ZcB rfl rfl gg (Zcr a) ZcA
 rintro _ _;refine Zc0 (Zc1 g2 g3) ?_;refine Qaq 200 (fun i:Nat=>[(1,.ptr 50 0 0),(44,exs c.xs),(45,.int .i64 c.xs.length),(46,.int .i64 i)]) (fun _=>[(50,.cells 0 (cdC (szs c) c.xs c.ks))]) (fun i=>i<=c.xs.length) (fun i=>c.xs.length-i) 0 2 240 (fun _:Unit=>[(1,.ptr 50 0 0)]) (fun _=>[(50,.cells 0 (cdC (szs c) c.xs c.ks))]) (fun _=>True) ⟨[(50,.blk 50 0)],rfl,au0,?_,au18⟩ (Zah _) ?_ ?_;·exact ZcB rfl rfl gg (Zcr a) ZcA
 ·rintro i hi;by_cases b:i<c.xs.length
  ·obtain⟨x,g⟩:=Qap b;have d:=Zae g;have f:=QjX g;have k:2<=((c.xs.flatMap exC).drop (i*2)).length:=by rw[f];simp
   have t:=SN.nameX g r h.xn.1 h.xn.2 z a;have o:=excl103 (szs c) c.xs c.ks x (by omega) (fun s p=>by have:=h.sz s p;omega) (by have:=h.xlen d;omega) (h.xl x d).1 (h.xl x d).2.1 (h.comp d);have hex:exC x=[.str [101,UInt8.ofNat (48+x.1)],los x.2]:=rfl;rw[hex]at o;refine Zc0 (Zc2 b f k) ?_;refine SU.chc (ZcL (ZcO (Zcv _) (ZcO (FrzTo.fn ZcN (ZcO (ZcK (g:=0) (cs:=cdC (szs c) c.xs c.ks) gg (Zcw _)) (ZcO (ZcK (g:=0) (cs:=[.int .i64 (i:Int)]) gg (Zcw _)) ZcN))) ZcN)) t rfl) ?_;refine ZcZ ?_;refine cp o ?_;refine ZcZ ?_;refine⟨i+1,by omega,by omega,?_⟩;refine⟨[(50,.blk 50 0)],rfl,au0,?_,au18⟩;exact ZcB rfl rfl gg (Zcr a) ZcA
  refine Zc0 b ?_;refine⟨(),?_⟩;refine⟨[(50,.blk 50 0)],rfl,au0,?_,au18⟩;exact ZcB rfl rfl gg (Zcr a) ZcA
 rintro _ _;refine ZcZ ?_;refine QaL 300 (fun i:Nat=>[(1,.ptr 50 0 0),(67,cos c.ks),(68,.int .i64 c.ks.length),(69,.int .i64 i)]) (fun _=>[(50,.cells 0 (cdC (szs c) c.xs c.ks))]) (fun i=>i<=c.ks.length) (fun i=>c.ks.length-i) 0 ⟨[(50,.blk 50 0)],rfl,au0,?_,au18⟩ (Zah _) ?_;·exact ZcB rfl rfl gg (Zcr a) ZcA
 rintro i hi;by_cases b:i<c.ks.length
 ·obtain⟨x,g⟩:=Qap b;have v:i=0:=by omega
  subst v;have d:=Zae g;have f:=QjY g;rw[Nat.zero_mul]at f;have k:3<=(c.ks.flatMap coC).length:=by rw[Qg3];omega
  have q:c.ks=[x]:=by match hk:c.ks,g,w with|[y],g,_=>simp at g;rw[g]
  have t:=SN.nameK (S:=sliN (szs c)) (X:=exs c.xs) q a;obtain⟨k1,k2,k3,k4,I⟩:=h.kl x d;have o:=cons105 (szs c) c.xs c.ks x (by omega) (by have:=h.klen d;omega) k1 k2 (fun l A=>by obtain⟨q1,q2,J,H⟩:=k3 l A;exact⟨by omega,q2,by omega,by omega⟩) ⟨by omega,by omega⟩;have hex:coC x=[.str [107],tes x.1,.int .i64 x.2]:=rfl;rw[hex]at o;have m:(0:Int)<(c.ks.length:Int):=by omega
  rw[Zbm]at f;have u:List.take 3 (c.ks.flatMap coC)=[.str [107],tes x.1,.int .i64 x.2]:=by rw[f];rfl
  refine Zc0 (Zc3 b m u k) ?_;refine SU.chc (ZcL (ZcO (Zcv _) (ZcO (FrzTo.fn ZcN (ZcO (ZcK (g:=0) (cs:=cdC (szs c) c.xs c.ks) gg (Zcw _)) (ZcO (ZcK (g:=0) (cs:=[.int .i64 0]) gg (Zcw _)) ZcN))) ZcN)) t rfl) ?_;refine ZcZ ?_;refine cp o ?_;refine ZcZ ?_;refine⟨1,by omega,by omega,?_⟩;refine⟨[(50,.blk 50 0)],rfl,au0,?_,au18⟩;exact ZcB rfl rfl gg (Zcr a) ZcA
 refine Zc0 b ?_;exact⟨.inr trivial,_,rfl,rfl⟩
theorem Qf1{α:Type}{f:α->List AV}(hf:∀x,(f x).all AV.one=true):∀l:List α,(l.flatMap f).all AV.one=true|[]=>rfl|x::l=>by rw[Zay,Zb8,hf,Qf1 hf l];rfl
theorem clone148(l:List (Nat×Nat))(f:l.length<=1000)(c:l≠[]):Pq 139 [los l] (los l):=by
 refine Zct 100 ok139 rfl (by rw[noRefs,SU.Qcb];rfl) (SU.Qcb _) ?_;have d:aEqN false (los l)=.ret (.bool false):=by match l,c with|x::l,_=>rfl
 have a:(l.flatMap loC).all AV.one=true:=Qf1 (fun _=>rfl) l;have b:=SU.Qg2 l;unfold s139;refine Zc0 (Zc2 d a b) ?_;exact⟨.inr trivial,_,rfl,Rn.fz0 rfl b (Zcr (SU.Qbo _))⟩
theorem clone149(l:List (Nat×Int))(f:l.length<=1000)(c:l≠[]):Pq 140 [tes l] (tes l):=by
 refine Zct 100 ok140 rfl (by rw[noRefs,SU.QcC];rfl) (SU.QcC _) ?_;have d:aEqN false (tes l)=.ret (.bool false):=by match l,c with|x::l,_=>rfl
 have a:(l.flatMap teC).all AV.one=true:=Qf1 (fun _=>rfl) l;have b:=SU.Qdc l;unfold s140;refine Zc0 (Zc2 d a b) ?_;exact⟨.inr trivial,_,rfl,Rn.fz0 rfl b (Zcr (SU.QaO _))⟩
theorem take_succ'{α:Type}{l:List α}{i:Nat}{x:α}(h:l[i]?=some x):l.take (i+1)=l.take i++[x]:=by rw[ZaZ,h];rfl
theorem Qu4{x:Nat×List (Nat×Nat)}:List.flatMap exC [x]=[.str [101,UInt8.ofNat (48+x.1)],los x.2]:=rfl
theorem Qu5{x:List (Nat×Int)×Int}:List.flatMap coC [x]=[.str [107],tes x.1,.int .i64 x.2]:=rfl
theorem conds85(c:Cel)(h:WfCel c):Pq 77 [celV c] (cdV (szs c) c.xs c.ks):=by
 have g:noRefs [evsV c.ev,its 99 c.cs,its 114 c.rs,exs c.xs,cos c.ks]=true:=by have:=SU.QaM c;rwa[celV,noRef]at this
 refine Zct 64 ok77 rfl (by rw[noRefs,SU.QaM];rfl) (by rw[noRef];exact QbU) ?_;have w:=h.c3;have y:=h.x2;have v:=h.k1;have u:=@SU.QdX 99 c.cs;have t:=SU.QeJ c.xs;have z:=Qg3 c.ks;unfold s77;refine ZcZ ?_;refine Qaq 100 (fun i:Nat=>[(1,.ptr 50 0 0),(2,.ptr 51 0 0),(3,.ptr 52 0 0),(12,its 99 c.cs),(13,.int .i64 c.cs.length),(14,.int .i64 i)]) (fun i=>[(50,.cells 0 [evsV c.ev,its 99 c.cs,its 114 c.rs,exs c.xs,cos c.ks]),(51,.cells 0 [.nilsl,.nilsl,.nilsl]),(52,.cells 0 [.sl 76 0 0 (szs c|>.take i).length 1,.nilsl,.nilsl]),(76,.cells 0 (ints (nz ((szs c).take i))))]) (fun i=>i<=c.cs.length) (fun i=>c.cs.length-i) 0 0 160 (fun _:Unit=>[(1,.ptr 50 0 0),(2,.ptr 51 0 0),(3,.ptr 52 0 0)]) (fun _=>[(50,.cells 0 [evsV c.ev,its 99 c.cs,its 114 c.rs,exs c.xs,cos c.ks]),(51,.cells 0 [.nilsl,.nilsl,.nilsl]),(52,.cells 0 [sliN (szs c),.nilsl,.nilsl])]) (fun _=>True) ⟨[(50,.blk 64 0),(51,.blk 65 0),(52,.blk 67 0),(76,.nil)],rfl,au0,?_,au18⟩ (Zah _) ?_ ?_;·exact ZcB rfl rfl gg (Zcr g) (ZcB rfl rfl gg (Zcr rfl) (ZcB rfl rfl gg (ZcH (Rn.x4 rfl rfl) (Zcr rfl)) (ZcC rfl rfl ZcA)))
 ·rintro i hi;by_cases a:i<c.cs.length
  ·obtain⟨x,o⟩:=Qap a;have d:=SU.Qcq (ch:=99) o;have m:5<=((c.cs.flatMap (itC 99)).drop (i*5)).length:=by rw[d];simp
   have r:(szs c)[i]?=some x.2.n:=by unfold szs;rw[ZaB,o];rfl
   have f:=take_succ' r;have b:((szs c).take i).length=i:=by rw[Zav,h.slen];omega
   have s:=@SU.Qd8 [99,UInt8.ofNat (48+x.1)] x.2;refine Zc0 (Zc3 a d m b) ?_;refine⟨i+1,by omega,by omega,?_⟩;rw[f,Zaf,QaF,Qay,b];refine⟨[(50,.blk 50 0),(51,.blk 51 0),(52,.blk 52 0),(76,.blk 76 1)],rfl,au0,?_,au18⟩;exact ZcB rfl rfl gg (Zcr g) (ZcB rfl rfl gg (Zcr rfl) (ZcB rfl rfl gg (ZcH (Rn.x1 rfl rfl) (Zcr rfl)) (ZcB rfl rfl gg (Zcr (SU.Qav (Qad _) rfl)) ZcA)))
  have e:i=c.cs.length:=by omega
  subst e;have q:(szs c).take c.cs.length=szs c:=by rw[<-h.slen,Zar]
  refine Zc0 (Zc1 a q) ?_;refine⟨(),?_⟩;refine⟨[(50,.blk 50 0),(51,.blk 51 0),(52,.blk 52 0)],rfl,au0,?_,au18⟩;exact ZcB rfl rfl gg (Zcr g) (ZcB rfl rfl gg (Zcr rfl) (ZcB rfl rfl gg (ZcH (ZcI rfl rfl rfl rfl (by simp[ints]) (Zcr (Qad _))) (Zcr rfl)) ZcA))
 rintro _ _;refine ZcZ ?_;refine Qaq 200 (fun i:Nat=>[(1,.ptr 50 0 0),(2,.ptr 51 0 0),(3,.ptr 52 0 0),(28,exs c.xs),(29,.int .i64 c.xs.length),(30,.int .i64 i)]) (fun i=>[(50,.cells 0 [evsV c.ev,its 99 c.cs,its 114 c.rs,exs c.xs,cos c.ks]),(51,.cells 0 [.nilsl,.nilsl,.nilsl]),(52,.cells 0 [sliN (szs c),.sl 77 0 0 (c.xs.take i).length 2,.nilsl]),(77,.cells 0 ((c.xs.take i).flatMap exC))]) (fun i=>i<=c.xs.length) (fun i=>c.xs.length-i) 0 2 260 (fun _:Unit=>[(1,.ptr 50 0 0),(2,.ptr 51 0 0),(3,.ptr 52 0 0)]) (fun _=>[(50,.cells 0 [evsV c.ev,its 99 c.cs,its 114 c.rs,exs c.xs,cos c.ks]),(51,.cells 0 [.nilsl,.nilsl,.nilsl]),(52,.cells 0 [sliN (szs c),exs c.xs,.nilsl])]) (fun _=>True) ⟨[(50,.blk 50 0),(51,.blk 51 0),(52,.blk 52 0),(77,.nil)],rfl,au0,?_,au18⟩ (Zah _) ?_ ?_;·exact ZcB rfl rfl gg (Zcr g) (ZcB rfl rfl gg (Zcr rfl) (ZcB rfl rfl gg (ZcH (Zcq (Qae _)) (ZcH (Rn.x4 rfl rfl) (Zcr rfl))) (ZcC rfl rfl ZcA)))
 ·rintro i hi;by_cases a:i<c.xs.length
  ·obtain⟨x,o⟩:=Qap a;have l:=Zae o;have d:=QjX o;have m:2<=((c.xs.flatMap exC).drop (i*2)).length:=by rw[d];simp
   have f:=take_succ' o;have b:(c.xs.take i).length=i:=by rw[Zav];omega
   have p:=clone148 x.2 (by have:=h.xlen l;omega) (h.xl x l).1;have k:=SU.QeJ (c.xs.take i);rw[b]at k;refine Zc0 (Zc3 a d m b) ?_;refine cp p ?_;refine Zc0 k ?_;refine⟨i+1,by omega,by omega,?_⟩;rw[f,Zaf,Zaq,b,Qu4];refine⟨[(50,.blk 50 0),(51,.blk 51 0),(52,.blk 52 0),(77,.blk 77 1)],rfl,au0,?_,au18⟩;exact ZcB rfl rfl gg (Zcr g) (ZcB rfl rfl gg (Zcr rfl) (ZcB rfl rfl gg (ZcH (Zcq (Qae _)) (ZcH (Rn.x1 rfl rfl) (Zcr rfl))) (ZcB rfl rfl gg (Zcr (SU.Qav (SU.Qbi _) (by rw[noRefs,noRefs,SU.Qcb];rfl))) ZcA)))
  have e:i=c.xs.length:=by omega
  subst e;refine Zc0 (Zc1 a @Zar) ?_;refine⟨(),?_⟩;refine⟨[(50,.blk 50 0),(51,.blk 51 0),(52,.blk 52 0)],rfl,au0,?_,au18⟩;exact ZcB rfl rfl gg (Zcr g) (ZcB rfl rfl gg (Zcr rfl) (ZcB rfl rfl gg (ZcH (Zcq (Qae _)) (ZcH (ZcI rfl rfl rfl rfl (SU.QeJ _) (Zcr (SU.Qbi _))) (Zcr rfl))) ZcA))
 rintro _ _;refine ZcZ ?_;refine Qaq 300 (fun i:Nat=>[(2,.ptr 51 0 0),(3,.ptr 52 0 0),(47,cos c.ks),(48,.int .i64 c.ks.length),(49,.int .i64 i)]) (fun i=>[(51,.cells 0 [.nilsl,.nilsl,.nilsl]),(52,.cells 0 [sliN (szs c),exs c.xs,.sl 78 0 0 (c.ks.take i).length 3]),(78,.cells 0 ((c.ks.take i).flatMap coC))]) (fun i=>i<=c.ks.length) (fun i=>c.ks.length-i) 0 4 360 (fun _:Unit=>[(2,.ptr 51 0 0),(3,.ptr 52 0 0)]) (fun _=>[(51,.cells 0 [.nilsl,.nilsl,.nilsl]),(52,.cells 0 [sliN (szs c),exs c.xs,cos c.ks])]) (fun _=>True) ⟨[(51,.blk 51 0),(52,.blk 52 0),(78,.nil)],rfl,au0,?_,au18⟩ (Zah _) ?_ ?_;·exact ZcB rfl rfl gg (Zcr rfl) (ZcB rfl rfl gg (ZcH (Zcq (Qae _)) (ZcH (Zcq (SU.Qbz _)) (ZcH (Rn.x4 rfl rfl) ZcG))) (ZcC rfl rfl ZcA))
 ·rintro i hi;by_cases a:i<c.ks.length
  ·obtain⟨x,o⟩:=Qap a;have l:=Zae o;have d:=QjY o;have m:3<=((c.ks.flatMap coC).drop (i*3)).length:=by rw[d];simp
   have f:=take_succ' o;have b:(c.ks.take i).length=i:=by rw[Zav];omega
   have p:=clone149 x.1 (by have:=h.klen l;omega) (h.kl x l).1;have k:=Qg3 (c.ks.take i);rw[b]at k;refine Zc0 (Zc3 a d m b) ?_;refine cp p ?_;refine Zc0 k ?_;refine⟨i+1,by omega,by omega,?_⟩;rw[f,Zaf,Zaq,b,Qu5];refine⟨[(51,.blk 51 0),(52,.blk 52 0),(78,.blk 78 1)],rfl,au0,?_,au18⟩;exact ZcB rfl rfl gg (Zcr rfl) (ZcB rfl rfl gg (ZcH (Zcq (Qae _)) (ZcH (Zcq (SU.Qbz _)) (ZcH (Rn.x1 rfl rfl) ZcG))) (ZcB rfl rfl gg (Zcr (SU.Qav (SU.QcZ _) (by rw[noRefs,noRefs,SU.QcC];rfl))) ZcA))
  have e:i=c.ks.length:=by omega
  subst e;refine Zc0 (Zc1 a @Zar) ?_;refine⟨(),?_⟩;refine⟨[(51,.blk 51 0),(52,.blk 52 0)],rfl,au0,?_,au18⟩;exact ZcB rfl rfl gg (Zcr rfl) (ZcB rfl rfl gg (ZcH (Zcq (Qae _)) (ZcH (Zcq (SU.Qbz _)) (ZcH (ZcI rfl rfl rfl rfl (Qg3 _) (Zcr (SU.QcZ _))) ZcG))) ZcA)
 rintro _ _;refine ZcZ ?_;refine⟨.inr trivial,_,rfl,?_⟩;exact Zcq (by rw[noRef];exact QbU)
def idxQ{α:Type}(q:α->Bool)(l:List α):Int:=if l.any q then(l.findIdx q:Int)else-1
theorem QbV{α:Type}{q:α->Bool}{l:List α}(h:∀x∈l,q x=false):idxQ q l=-1:=by unfold idxQ;rw[if_neg];rw[ZbR];rintro⟨x,b,a⟩;rw[h x b]at a;cases a
theorem QcI{α:Type}{q:α->Bool}{l:List α}{i:Nat}{x:α}(a:l[i]?=some x)(c:q x=true)(d:∀(j:Nat)y,j<i->l[j]?=some y->q y=false):idxQ q l=i:=by
 have b:i<l.length:=by
  rcases ZbE i l.length with h|h;·exact h
  rw[ZaD h]at a;cases a
 have h1:l.any q=true:=ZbR.2 ⟨x,Zae a,c⟩;have g:l.findIdx q=i:=by rw[List.findIdx_eq b];refine⟨by rw[Zal b]at a;cases a;exact c,fun j f=>d j l[j] f (Zal (by omega))⟩
 unfold idxQ;rw[if_pos h1,g]
theorem Qhh{α:Type}{q:α->Bool}{l:List α}:decide (0<=idxQ q l)=l.any q:=by
 unfold idxQ;cases h:l.any q;·simp
 simp
theorem Qbc{K:Nat}{cap:List AV}(h:noRefs cap=true):noRef (.fn K [] cap)=true:=by simp only[noRef,noRefs,h];rfl
theorem index110{K:Nat}{cap:List AV}(q:Nat->Bool)(l:List Nat)(s:l.length<=1000000)(hc:noRefs cap=true)(hk:∀x∈l,Pq K (.int .i64 (x:Int)::cap) (.bool (q x))):Pq 97 [sliN l,.fn K [] cap] (.int .i64 (idxQ q l)):=by
 refine Zcu 64 ok97 rfl (by rw[noRefs,noRefs,Qbc hc,(Qae _)];rfl) rfl ?_;have c:=Qbc (K:=K) hc;have o:=(show(ints (nz l)).length=l.length*1 by simp[ints]);unfold s97;refine Zc0 @Zap ?_;refine QaL 100 (fun i:Nat=>[(0,sliN l),(1,.fn K [] cap),(7,.int .i64 l.length),(8,.int .i64 i)]) (fun _=>[]) (fun i=>i<=l.length/\∀(j:Nat)y,j<i->l[j]?=some y->q y=false) (fun i=>l.length-i) 0 ?_ ⟨Zah _,fun j y k=>absurd k (ZaC _)⟩ ?_;·exact⟨[],rfl,Zcx,ZcA,Zcz (Zcq (Qae _)) (Zcz (Zcq c) (Zcz (Zcq rfl) (Zcz (Zcq rfl) Zcy)))⟩
 rintro i⟨hi,m⟩;by_cases a:i<l.length
 ·obtain⟨x,b⟩:=Qap a;have h:=hk x (Zae b);have d:=Qaz b;have f:1<=(List.drop (i*1) (ints (nz l))).length:=by rw[Za3,o];omega
  cases g:q x
  ·rw[g]at h;refine Zc0 (Zc4 a d f @Zbc @Zap) ?_;refine⟨_,by simpa using h,?_⟩;refine Zc0 @Zap ?_;refine⟨i+1,by omega,⟨by omega,fun j y k p=>?_⟩,?_⟩
   ·by_cases e:j=i;·subst e;rw[b]at p;cases p;exact g
    exact m j y (by omega) p
   exact⟨[],rfl,Zcx,ZcA,Zcz (Zcq (Qae _)) (Zcz (Zcq c) (Zcz (Zcq rfl) (Zcz (Zcq rfl) Zcy)))⟩
  rw[g]at h;refine Zc0 (Zc4 a d f @Zbc @Zap) ?_;refine⟨_,by simpa using h,?_⟩;refine Zc0 @Zap ?_;refine⟨.inr trivial,_,rfl,?_⟩;rw[QcI b g m];rfl
 refine Zc0 (Zc1 a @Zap) ?_;refine⟨.inr trivial,_,rfl,?_⟩;rw[QbV fun x b=>by obtain⟨j,k,r⟩:=Zbg b;exact m j x (by omega) (by rw[Zal k,r])];rfl
theorem contains36{K:Nat}{cap:List AV}(q:Nat->Bool)(l:List Nat)(a:l.length<=1000000)(hc:noRefs cap=true)(hk:∀x∈l,Pq K (.int .i64 (x:Int)::cap) (.bool (q x))):Pq 46 [sliN l,.fn K [] cap] (.bool (l.any q)):=by
 refine Zcu 64 ok46 rfl (by rw[noRefs,noRefs,Qbc hc,Qae];rfl) rfl ?_;unfold s46;refine Zc0 @Zap ?_;refine cp (index110 q l a hc hk) ?_;have e:=@Qhh Nat q l;cases h:l.any q;·rw[h,decide_eq_false_iff_not]at e;refine Zc0 (Zc1 e @Zap) ?_;exact⟨.inr trivial,_,rfl,rfl⟩
 rw[h,decide_eq_true_eq]at e;refine Zc0 (Zc1 e @Zap) ?_;exact⟨.inr trivial,_,rfl,rfl⟩
theorem ge166(x:Nat):Pq 130 [.int .i64 (x:Int),.fptr [.int .i64 5]] (.bool (decide (5<=x))):=by refine Zcu 64 ok130 rfl rfl rfl ?_;have e:decide ((5:Int)<=(x:Int))=decide (5<=x):=decide_eq_decide.2 (by omega);unfold s130;refine Zc0 (Zc1 e @Zap) ?_;exact⟨.inr trivial,_,rfl,rfl⟩
end Go.AM.SO
namespace Go.AM.SR
open Go.Proofs
set_option maxHeartbeats 4000000
noncomputable section
def cf:YA.Cf:={most:=.pure,always:=[46].map fun k=>(k,.heap)}
def s74:SFn:=by
 refine(?f:YA.Yt Tryz.prog cf 74 [[0,1,8],[11,12,13,14],[2,3,4,5,10],[10,16,17,18,19],[2,3,4,5,15],[8,3,15,20,21,22],[23,24,25],[26],[2,4,5,9,27,28],[8,9,27,30,31,32,33],[2,4,5,29],[29,35,36,37,38],[2,4,5,34],[5,34,40,41,42,43,44],[2,4,39],[2,4,39,46,47,48,49,50,51],[45],[45]]) ?s ?h;case h=>exact YA.rr
 exact fun s _=>s
theorem ok74:Kq 74 s74=true:=by kernel_rfl
end
end Go.AM.SR
namespace Go.AM.SO
open Go.Proofs Go.AM.SD Go.AM.SE
theorem Qrk{A B:List Nat}(hA:A.Pairwise (·<·))(c:B.Pairwise (·<·))(h:∀x∈A,x∈B):mrg (fun a b=>a&&!b) A B=[]:=by rw[List.eq_nil_iff_forall_not_mem];intro x d;obtain⟨h1,f⟩:=(QbK hA c).1 d;simp at h1;exact h1.2 (h x h1.1)
theorem Qb4{a:Aut}(h:WfA a):a.al.length<=32:=QaQ 32 a.al (by rw[ZaN];exact h.al.imp fun h=>by omega) h.al5
abbrev nmsB(l:List (List UInt8)):Blk:=.map 0 (mapS yes l)
theorem item83(i:List UInt8)(a:Aut)(B:List Nat)(names:List (List UInt8))(h:WfI a)(t:Pq 128 [.str i] (.bool true))(m:i∉names)(u:names.length<=100)(o:B.Pairwise (·<·))(k:B.length<=1000000)(q:∀x∈a.al,x∈B):HSpec Tryz.prog 74 [.agg [.str i,sliN a.al,.int .i64 (a.n:Int),sliN a.ms,egsN a.es],.int .i64 5,sliN B,.map 68 0] (hp [(68,nmsB names)]) (.int .i64 0) (hp [(68,nmsB (names++[i]))]):=by
 have r:=Qb4 h.wf;have f:a.es.length<=1000000:=Zaw h.el (by decide);have v:=check112 a h.wf f;have s:=isCanon60 a h.wf f h.can;have p:=h.pos;have l:¬(a.n:Int)=0:=by omega
 have d:=contains36 (K:=130) (cap:=[.fptr [.int .i64 5]]) (fun x=>decide (5<=x)) a.al (by omega) rfl (fun x _=>ge166 x);have g:a.al.any (fun x=>decide (5<=x))=false:=by rw[List.any_eq_false];intro x w;have:=h.a5 x w;simp;omega
 rw[g]at d;have b:=subset167 a.al B (by omega) k;rw[Qrk h.wf.al o q]at b;have c:Pq 131 [sliN a.al,sliN B] (.bool true):=b;refine HSpec.Qun (m:=69) 100 SR.ok74 rfl rfl rfl ?_;unfold SR.s74;refine ZcZ ?_;refine cp t ?_;refine ZcZ ?_;refine QgV gg m ?_;refine ZcZ ?_;refine QeI gg m (by omega) ?_;refine Zc0 @Qiy ?_;refine cp v ?_;refine ZcZ ?_;refine cp s ?_;refine Zc0 l ?_;refine SU.chc (ZcL (ZcO (Zcv _) (ZcO (FrzTo.fn ZcN (ZcO (ZcK (g:=0) (cs:=[.int .i64 5]) gg (Zcw _)) ZcN)) ZcN)) d rfl) ?_;refine ZcZ ?_;refine cp c ?_;refine ZcZ ?_;refine⟨.inr trivial,_,rfl,rfl,?_⟩;refine⟨[(68,.nil)],rfl,au0,?_,au18⟩;exact ZcF rfl gg (RnM.mapS fun _ _=>Zcq rfl) ZcA
theorem item83F{h:Heap}(b:List UInt8)(a:Aut)(B:List Nat)(names:List (List UInt8))(hw:WfI a)(m:Pq 128 [.str b] (.bool true))(g:b∉names)(f:names.length<=100)(k:B.Pairwise (·<·))(d:B.length<=1000000)(i:∀x∈a.al,x∈B)(c:h.get 68=some (nmsB names)):HSpec Tryz.prog 74 [.agg [.str b,sliN a.al,.int .i64 (a.n:Int),sliN a.ms,egsN a.es],.int .i64 5,sliN B,.map 68 0] h (.int .i64 0) (h.set 68 (nmsB (names++[b]))):=by
 have hm:∀(l:List (List UInt8)),∀e∈mapS yes l,noRef e.1=true/\noRef e.2=true:=fun l e he=>by unfold mapS at he;obtain⟨x,_,rfl⟩:=Zan.1 he;exact⟨rfl,rfl⟩
 exact HSpec.frameM (item83 b a B names hw m g f k d i) (OnlyD.cons (OnlyD.same (by rw[noRef];exact SU.Qd8)) (OnlyD.cons (OnlyD.same rfl) (OnlyD.cons (OnlyD.same (Qae _)) (OnlyD.cons (OnlyD.map rfl) OnlyD.nil)))) (OnlyD.same rfl) (hm _) (hm _) c rfl
def uUp(l:List (Nat×Aut)):List Nat:=l.foldl (fun out x=>mrg (fun a b=>a||b) out x.2.al) []
theorem Qhi:∀{l:List (Nat×Aut)}{out:List Nat},out.Pairwise (·<·)->(∀x∈l,x.2.al.Pairwise (·<·))->(l.foldl (fun out x=>mrg (fun a b=>a||b) out x.2.al) out).Pairwise (·<·)/\∀e,e∈l.foldl (fun out x=>mrg (fun a b=>a||b) out x.2.al) out↔e∈out\/∃y∈l,e∈y.2.al
 |[],out,h,_=>⟨h,fun e=>by simp⟩|x::l,out,h,f=>by
  have d:=f x (by simp);obtain⟨h1,g⟩:=Qhi (l:=l) (Qcg (k:=fun a b=>a||b) h d) fun y i=>f y (by simp[i]);refine⟨h1,fun e=>?_⟩;rw[ZaP,g e,QbK h d];simp only[Zau,exists_eq_or_imp,Zbq,decide_eq_true_eq];constructor
  ·rintro(⟨c,_⟩|c)
   ·rcases c with c|c;·exact .inl c
    exact .inr (.inl c)
   exact .inr (.inr c)
  rintro(c|c|c);·exact .inl ⟨.inl c,.inl c⟩
  ·exact .inl ⟨.inr c,.inr c⟩
  exact .inr c
theorem Qf2{l:List (Nat×Aut)}(h:∀x∈l,WfI x.2):(uUp l).Pairwise (·<·):=(Qhi (by simp) fun x a=>(h x a).wf.al).1
theorem Qhj{l:List (Nat×Aut)}(h:∀x∈l,WfI x.2){e:Nat}:e∈uUp l↔∃y∈l,e∈y.2.al:=by have:=(Qhi (l:=l) (out:=[]) (by simp) fun x a=>(h x a).wf.al).2 e;simpa[uUp]using this
theorem QjZ{l:List (Nat×Aut)}(h:∀x∈l,WfI x.2):(uUp l).length<=5:=by refine QaQ 5 _ (by rw[ZaN];exact(Qf2 h).imp fun h=>by omega) fun x a=>?_;obtain⟨y,b,he⟩:=(Qhj h).1 a;exact(h y b).a5 x he
theorem Qsz{l:List (Nat×Aut)}{i:Nat}{x:Nat×Aut}(h:l[i]?=some x):uUp (l.take (i+1))=mrg (fun a b=>a||b) (uUp (l.take i)) x.2.al:=by unfold uUp;rw[take_succ' h,Za4];rfl
def nmsI(ch:UInt8)(l:List (Nat×Aut)):List (List UInt8):=l.map fun x=>[ch,UInt8.ofNat (48+x.1)]
theorem Qm6{ch:UInt8}{l:List (Nat×Aut)}{i:Nat}{x:Nat×Aut}(h:l[i]?=some x):nmsI ch (l.take (i+1))=nmsI ch (l.take i)++[[ch,UInt8.ofNat (48+x.1)]]:=by unfold nmsI;rw[take_succ' h,ZaK];rfl
theorem QtE{a b:Nat}(c:a<10)(d:b<10)(h:UInt8.ofNat (48+a)=UInt8.ofNat (48+b)):a=b:=by have:=congrArg UInt8.toNat h;simp at this;omega
theorem Qjl{l:List (Nat×Aut)}(h:l.map (·.1)=List.range l.length){i:Nat}{x:Nat×Aut}(a:l[i]?=some x):x.1=i/\i<l.length:=by
 have hi:i<l.length:=by
  rcases ZbE i l.length with h|h;·exact h
  rw[ZaD h]at a;cases a
 have h1:(l.map (·.1))[i]?=some x.1:=by rw[ZaB,a];rfl
 rw[h,ZbG hi]at h1;cases h1;exact⟨rfl,hi⟩
theorem QoQ{ch:UInt8}{l:List (Nat×Aut)}(h:l.map (·.1)=List.range l.length)(k:l.length<=9){i:Nat}{x:Nat×Aut}(b:l[i]?=some x):[ch,UInt8.ofNat (48+x.1)]∉nmsI ch (l.take i):=by intro hm;obtain⟨y,d,he⟩:=Zan.1 hm;obtain⟨j,c,a⟩:=Zbg d;rw[Zav]at c;rw[List.getElem_take]at a;obtain⟨o,m⟩:=Qjl h b;obtain⟨f,g⟩:=Qjl h (i:=j) (x:=y) (by rw[<-a];exact Zal (by omega));have:=QtE (a:=y.1) (b:=x.1) (by omega) (by omega) (by simpa using he);omega
theorem Qrl{a b:UInt8}(c:a≠b){s:UInt8}{l:List (Nat×Aut)}:[a,s]∉nmsI b l:=by intro hm;obtain⟨y,d,he⟩:=Zan.1 hm;simp at he;exact c he.1.symm
theorem QmU{i:Nat}(h:i<3):Pq 128 [.str [99,UInt8.ofNat (48+i)]] (.bool true):=by
 have:i=0\/i=1\/i=2:=by omega
 rcases this with rfl|rfl|rfl;·exact SP.Qto
 ·exact SP.Qtp
 exact SP.Qtq
theorem Qu6{i:Nat}(h:i<2):Pq 128 [.str [114,UInt8.ofNat (48+i)]] (.bool true):=by
 have:i=0\/i=1:=by omega
 rcases this with rfl|rfl;·exact SP.Qtr
 exact SP.Qts
theorem Qhk{m:Nat}{π:Nat->Option Src}{h:Heap}:RnM m π h (mapS yes []) []:=trivial
theorem Qa4(c:Cel):noRefs [evsV c.ev,its 99 c.cs,its 114 c.rs,exs c.xs,cos c.ks]=true:=by have:=SU.QaM c;rwa[celV,noRef]at this
theorem check21(c:Cel)(h:WfCel c):Pq 21 [celV c] (.int .i64 0):=by
 have a:=Qa4 c;refine Zcu 64 ok21 rfl (by rw[noRefs,SU.QaM];rfl) rfl ?_;have z:=check82 c.ev h.ev;have B:=h.c0;have E:=h.c3;have C:=h.r2;have g1:¬(c.cs.length:Int)=0:=by omega
 have g2:¬(8:Int)<(c.cs.length:Int):=by omega
 have g3:¬(12:Int)<(c.cs.length:Int)+(c.rs.length:Int):=by omega
 have v:=conds85 c h;have hdC:=conds32 c h;unfold s21;refine ZcZ ?_;refine cp z ?_;refine Zc0 (Zc2 g1 g2 g3) ?_;refine Qaq 140 (fun i:Nat=>[(1,.ptr 50 0 0),(5,.map 68 0),(6,.sl 76 0 0 i 1),(7,.nilsl),(41,.int .i64 5),(42,.int .i64 i)]) (fun i=>[(50,.cells 0 [evsV c.ev,its 99 c.cs,its 114 c.rs,exs c.xs,cos c.ks]),(68,nmsB []),(76,.cells 0 (ints (nz (List.range i))))]) (fun i=>i<=5) (fun i=>5-i) 0 1 180 (fun _:Unit=>[(1,.ptr 50 0 0),(5,.map 68 0),(6,sliN (List.range 5)),(7,sliN [])]) (fun _=>[(50,.cells 0 [evsV c.ev,its 99 c.cs,its 114 c.rs,exs c.xs,cos c.ks]),(68,nmsB [])]) (fun _=>True) ?_ (Zah _) ?_ ?_;·refine⟨[(50,.blk 64 0),(68,.blk 90 0),(76,.nil)],rfl,au0,?_,au18⟩;exact ZcB rfl rfl gg (Zcr a) (ZcD rfl rfl gg Qhk (ZcC rfl rfl ZcA))
 ·rintro i hi;by_cases b:i<5
  ·have r:(i:Int)<5:=by omega
   have s:(ints (nz (List.range i))).length=i:=by simp[ints]
   refine Zc0 (Zc2 r @Zb0 s) ?_;refine⟨i+1,by omega,by omega,?_⟩;rw[ZaO,QaF,Qay];refine⟨[(50,.blk 50 0),(68,.blk 68 0),(76,.blk 76 1)],rfl,au0,?_,au18⟩;exact ZcB rfl rfl gg (Zcr a) (ZcD rfl rfl gg Qhk (ZcB rfl rfl gg (Zcr (SU.Qav (Qad _) rfl)) ZcA))
  have e:i=5:=by omega
  subst e;refine ZcZ ?_;refine⟨(),[(50,.blk 50 0),(68,.blk 68 0)],rfl,Zcx,?_,?_⟩;·exact ZcB rfl rfl gg (Zcr a) (ZcD rfl rfl gg Qhk ZcA)
  exact Zcz (Rn.x2 rfl rfl) (Zcz (Rn.x3 rfl rfl) (Zcz (Rn.fz (b:=76) (g:=0) gg rfl rfl rfl (Zcr rfl)) (Zcz Rn.nilK Zcy)))
 rintro _ _;refine ZcZ ?_;refine Qaq 240 (fun i:Nat=>[(1,.ptr 50 0 0),(5,.map 68 0),(6,sliN (List.range 5)),(7,sliN (uUp (c.cs.take i))),(51,its 99 c.cs),(52,.int .i64 c.cs.length),(53,.int .i64 i)]) (fun i=>[(50,.cells 0 [evsV c.ev,its 99 c.cs,its 114 c.rs,exs c.xs,cos c.ks]),(68,nmsB (nmsI 99 (c.cs.take i)))]) (fun i=>i<=c.cs.length) (fun i=>c.cs.length-i) 0 3 280 (fun _:Unit=>[(1,.ptr 50 0 0),(5,.map 68 0),(7,sliN (uUp c.cs))]) (fun _=>[(50,.cells 0 [evsV c.ev,its 99 c.cs,its 114 c.rs,exs c.xs,cos c.ks]),(68,nmsB (nmsI 99 c.cs))]) (fun _=>True) ?_ (Zah _) ?_ ?_;·refine⟨[(50,.blk 50 0),(68,.blk 68 0)],rfl,au0,?_,au18⟩;exact ZcB rfl rfl gg (Zcr a) (ZcD rfl rfl gg Qhk ZcA)
 ·rintro i hi;by_cases b:i<c.cs.length
  ·obtain⟨x,f⟩:=Qap b;have m:=Zae f;have k:=SU.Qcq (ch:=99) f;have q:5<=((c.cs.flatMap (itC 99)).drop (i*5)).length:=by rw[k];simp
   have g:=h.ca x m;have u:=Qjl h.cn f;have o:(nmsI 99 (c.cs.take i)).length<=100:=by simp[nmsI];omega
   have t:=QmU (i:=x.1) (by omega);have l:=QoQ (ch:=99) h.cn (by omega) f;have d:(uUp (c.cs.take i)).length<=1000000:=by have:=QjZ (l:=c.cs.take i) fun y A=>h.ca y (ZaQ A);omega
   have w:=union84 (uUp (c.cs.take i)) x.2.al d (by have:=Qb4 g.wf;omega);rw[<-Qsz f]at w;have p:=Qm6 (ch:=99) f;refine Zc0 (Zc2 b k q) ?_;refine SU.chc (item83F _ _ _ _ g t l o Zb4 (by decide) (fun e he=>Zat.2 (g.a5 e he)) gg) ?_;refine ZcZ ?_;refine cp w ?_;refine ZcZ ?_;refine⟨i+1,by omega,by omega,?_⟩;rw[p];refine⟨[(50,.blk 50 0),(68,.blk 68 0)],rfl,au0,?_,au18⟩;exact ZcB rfl rfl gg (Zcr a) (ZcD rfl rfl gg (RnM.mapS fun _ _=>Zcq rfl) ZcA)
  have e:i=c.cs.length:=by omega
  subst e;refine Zc0 (Zc1 b @Zar) ?_;refine⟨(),?_⟩;refine⟨[(50,.blk 50 0),(68,.blk 68 0)],rfl,au0,?_,au18⟩;exact ZcB rfl rfl gg (Zcr a) (ZcD rfl rfl gg (RnM.mapS fun _ _=>Zcq rfl) ZcA)
 rintro _ _;refine ZcZ ?_;refine Qaq 340 (fun i:Nat=>[(1,.ptr 50 0 0),(5,.map 68 0),(7,sliN (uUp c.cs)),(74,its 114 c.rs),(75,.int .i64 c.rs.length),(76,.int .i64 i)]) (fun i=>[(50,.cells 0 [evsV c.ev,its 99 c.cs,its 114 c.rs,exs c.xs,cos c.ks]),(68,nmsB (nmsI 99 c.cs++nmsI 114 (c.rs.take i)))]) (fun i=>i<=c.rs.length) (fun i=>c.rs.length-i) 0 5 380 (fun _:Unit=>[(1,.ptr 50 0 0)]) (fun _=>[(50,.cells 0 [evsV c.ev,its 99 c.cs,its 114 c.rs,exs c.xs,cos c.ks])]) (fun _=>True) ?_ (Zah _) ?_ ?_;·rw[show nmsI 99 c.cs++nmsI 114 (c.rs.take 0)=nmsI 99 c.cs by simp[nmsI]];refine⟨[(50,.blk 50 0),(68,.blk 68 0)],rfl,au0,?_,au18⟩;exact ZcB rfl rfl gg (Zcr a) (ZcD rfl rfl gg (RnM.mapS fun _ _=>Zcq rfl) ZcA)
 ·rintro i hi;by_cases b:i<c.rs.length
  ·obtain⟨x,f⟩:=Qap b;have m:=Zae f;have k:=SU.Qcq (ch:=114) f;have q:5<=((c.rs.flatMap (itC 114)).drop (i*5)).length:=by rw[k];simp
   have g:=h.ra x m;have u:=Qjl h.rn f;have o:(nmsI 99 c.cs++nmsI 114 (c.rs.take i)).length<=100:=by simp[nmsI];omega
   have t:=Qu6 (i:=x.1) (by omega);have l:[114,UInt8.ofNat (48+x.1)]∉nmsI 99 c.cs++nmsI 114 (c.rs.take i):=by
    intro hm;rcases ZaE.1 hm with hm|hm;·exact Qrl (by decide) hm
    exact QoQ (ch:=114) h.rn (by omega) f hm
   have d:(uUp c.cs).length<=1000000:=by have:=QjZ (l:=c.cs) h.ca;omega
   have p:=Qm6 (ch:=114) f;refine Zc0 (Zc2 b k q) ?_;refine SU.chc (item83F _ _ _ _ g t l o (Qf2 h.ca) d (fun e he=>(Qhj h.ca).2 (h.rsub x m e he)) gg) ?_;refine ZcZ ?_;refine⟨i+1,by omega,by omega,?_⟩;rw[p,<-ZaV];refine⟨[(50,.blk 50 0),(68,.blk 68 0)],rfl,au0,?_,au18⟩;exact ZcB rfl rfl gg (Zcr a) (ZcD rfl rfl gg (RnM.mapS fun _ _=>Zcq rfl) ZcA)
  refine Zc0 b ?_;refine⟨(),?_⟩;refine⟨[(50,.blk 50 0)],rfl,au0,?_,au18⟩;exact ZcB rfl rfl gg (Zcr a) ZcA
 rintro _ _;refine ZcZ ?_;refine cp v ?_;refine ZcZ ?_;refine cp hdC ?_;refine ZcZ ?_;exact⟨.inr trivial,_,rfl,rfl⟩
def auC(a:Aut):List AV:=[sliN a.al,.int .i64 (a.n:Int),sliN a.ms,egsN a.es]
abbrev auts(l:List Aut):AV:=.fsl (l.flatMap auC) l.length 4
theorem QaT(l:List Aut):noRefs (l.flatMap auC)=true:=Qa1 (fun x=>by simp only[auC,noRefs,noRef,Qad,Qaf];rfl) l
theorem Qbf(l:List Aut):noRef (auts l)=true:=by simp only[noRef];exact QaT l
theorem Qg4(l:List Aut):(l.flatMap auC).length=l.length*4:=Qa9 (k:=4) (fun _=>rfl) l
theorem Qej{l:List Aut}{i:Nat}{x:Aut}(h:l[i]?=some x):(l.flatMap auC).drop (i*4)=sliN x.al::.int .i64 (x.n:Int)::sliN x.ms::egsN x.es::(l.drop (i+1)).flatMap auC:=Qa7 (f:=auC) (k:=4) (fun _=>rfl) h
theorem _root_.Go.AM.au19{p:Prop}(h:p:=by repeat(first|exact Zcy|(refine Zcz ?_ ?_;·(first|exact Rn.any|exact Rn.x1 rfl rfl|exact Rn.x2 rfl rfl|exact Rn.x3 rfl rfl|exact Rn.x4 rfl rfl|exact Rn.x5 rfl|exact Rn.x6 rfl|exact Rn.x7 rfl|(refine Rn.slot ?_ ?_;(first|rfl|(rw[ZaS];rfl));(first|rfl|(simp only[noRef,noRefs,Qag,Zad,Zac,Zai,Qad,Qan,Qae,Qai];done)))|(refine Rn.fn ?_ ?_<;>(repeat'(first|exact ZcG|refine ZcH ?_ ?_|exact Zcq rfl|exact Rn.x6 rfl|exact Rn.x2 rfl rfl|exact Rn.x5 rfl|exact Rn.x1 rfl rfl))))))):p:=h
theorem _root_.Go.AM.au20{p:Prop}(h:p:=by repeat'(first|exact ZcA|(refine Zcr ?_;first|rfl|(simp only[noRef,noRefs,Qag,Zad,Zac,Zai,Qad,Qan,Qae,Qai];done))|exact ZcM rfl|exact ZcG|exact(True.intro:RnM _ _ _ [] [])|refine ZcH ?_ ?_|(refine Zcq ?_;first|rfl|(simp only[noRef,noRefs,Qag,Zad,Zac,Zai,Qad,Qan,Qae,Qai];done))|exact Rn.x1 rfl rfl|exact Rn.x2 rfl rfl|exact Rn.x3 rfl rfl|exact Rn.x4 rfl rfl|exact Rn.x5 rfl|exact Rn.x6 rfl|exact Rn.x7 rfl|refine ZcC rfl rfl ?_|refine ZcB rfl rfl rfl ?_ ?_|refine ZcD rfl rfl rfl ?_ ?_|refine ZcE rfl rfl ?_ ?_|refine ZcF rfl rfl ?_ ?_)):p:=h
theorem check95(l:List Aut)(h:∀a∈l,WfJ a)(m:l.length<=12):Pq 113 [auts l] (.int .i64 0):=by
 refine Zcu 64 TP.ok113 rfl (by rw[noRefs,Qbf];rfl) rfl ?_;have g1:¬(12:Int)<(l.length:Int):=by omega
 have c:=Qbf l;unfold TP.s113;refine Zc0 g1 ?_;refine Qaq 100 (fun i:Nat=>[(9,auts l),(10,.int .i64 l.length),(11,.int .i64 i)]) (fun _=>[]) (fun i=>i<=l.length) (fun i=>l.length-i) 0 0 140 (fun _:Unit=>[]) (fun _=>[]) (fun _=>True) ?_ (Zah _) ?_ ?_;·exact⟨[],rfl,Zcx,ZcA,Zcz (Zcq c) au19⟩
 ·rintro i hi;by_cases b:i<l.length
  ·obtain⟨x,k⟩:=Qap b;have d:=h x (Zae k);have f:=Qej k;have g:4<=((l.flatMap auC).drop (i*4)).length:=by rw[f];simp
   have hc:=check112 x d.wf (by have:=WfA.el1 d.wf;omega);refine Zc0 (Zc2 b f g) ?_;refine cp hc ?_;refine ZcZ ?_;exact⟨i+1,by omega,by omega,[],rfl,Zcx,ZcA,Zcz (Zcq c) au19⟩
  refine Zc0 b ?_;exact⟨(),⟨[],rfl,au0,au20,au19⟩⟩
 rintro _ _;refine ZcZ ?_;exact⟨.inr trivial,_,rfl,rfl⟩
theorem QsA{l:List Aut}{i:Nat}{x:Aut}(h:l[i]?=some x):evA (l.take (i+1))=mrg (fun a b=>a||b) (evA (l.take i)) x.al:=by unfold evA;rw[take_succ' h,Za4];rfl
theorem Qfp(l:List Aut):evA l=uUp (l.map fun a=>(0,a)):=by unfold evA uUp;rw[List.foldl_map];rfl
theorem Qd9{l:List Aut}(h:∀a∈l,WfI a):(evA l).Pairwise (·<·):=by rw[Qfp];refine Qf2 fun x c=>?_;obtain⟨a,b,rfl⟩:=Zan.1 c;exact h a b
theorem QtF{l:List Aut}(h:∀a∈l,WfI a):(evA l).length<=5:=by rw[Qfp];refine QjZ fun x c=>?_;obtain⟨a,b,rfl⟩:=Zan.1 c;exact h a b
theorem QoR{l:List Aut}(h:∀a∈l,WfJ a):(evA l).Pairwise (·<·)/\∀e,e∈evA l↔∃a∈l,e∈a.al:=by
 have:=Qhi (l:=l.map fun a=>(0,a)) (out:=[]) (by simp) (fun x c=>by obtain⟨a,b,rfl⟩:=Zan.1 c;exact(h a b).wf.al);rw[Qfp];refine⟨this.1,fun e=>(this.2 e).trans ?_⟩;constructor
 ·rintro(h|⟨y,d,he⟩);·cases h
  obtain⟨a,b,rfl⟩:=Zan.1 d;exact⟨a,b,he⟩
 rintro⟨a,b,c⟩;exact .inr ⟨_,Zan.2 ⟨a,b,rfl⟩,c⟩
theorem QoS{l:List Aut}(h:∀a∈l,WfJ a):(evA l).length<=32:=by refine QaQ 32 _ (by rw[ZaN];exact(QoR h).1.imp fun h=>by omega) fun x c=>?_;obtain⟨a,b,he⟩:=((QoR h).2 x).1 c;exact(h a b).wf.al5 x he
theorem events187(l:List Aut)(h:∀a∈l,WfJ a)(q:l.length<=12):Pq 196 [auts l] (sliN (evA l)):=by
 refine Zct 64 TP.ok196 rfl (by rw[noRefs,Qbf];rfl) (Qae _) ?_;have d:=Qbf l;unfold TP.s196;refine ZcZ ?_;refine Qaq 100 (fun i:Nat=>[(3,sliN (evA (l.take i))),(6,auts l),(7,.int .i64 l.length),(8,.int .i64 i)]) (fun _=>[]) (fun i=>i<=l.length) (fun i=>l.length-i) 0 0 140 (fun _:Unit=>[(3,sliN (evA l))]) (fun _=>[]) (fun _=>True) ?_ (Zah _) ?_ ?_;·exact⟨[],rfl,Zcx,ZcA,Zcz Rn.nilK (Zcz (Zcq d) au19)⟩
 ·rintro i hi;by_cases c:i<l.length
  ·obtain⟨x,g⟩:=Qap c;have k:=h x (Zae g);have f:=Qej g;have m:4<=((l.flatMap auC).drop (i*4)).length:=by rw[f];simp
   have b:(evA (l.take i)).length<=1000000:=by have:=QoS (l:=l.take i) fun y p=>h y (ZaQ p);omega
   have o:=union84 (evA (l.take i)) x.al b (by have:=Qb4 k.wf;omega);rw[<-QsA g]at o;refine Zc0 (Zc2 c f m) ?_;refine cp o ?_;refine ZcZ ?_;exact⟨i+1,by omega,by omega,[],rfl,Zcx,ZcA,Zcz (Zcq (Qae _)) (Zcz (Zcq d) au19)⟩
  have e:i=l.length:=by omega
  subst e;refine Zc0 (Zc1 c @Zar) ?_;exact⟨(),⟨[],rfl,au0,au20,au19⟩⟩
 rintro _ _;refine ZcZ ?_;exact⟨.inr trivial,_,rfl,Zcq (Qae _)⟩
theorem has189(l:List Nat)(t:Nat)(b:l.Pairwise (·<·))(a:l.length<=1000000):Pq 142 [sliN l,.int .i64 (t:Int)] (.bool (l.contains t)):=by refine Zcu 64 TP.ok142 rfl (by(try simp only[noRefs,Qad,noRef,noRefs,Zad,Zac])<;>rfl) rfl ?_;have h:=find57 l t (b.imp fun h=>Nat.le_of_lt h) a;unfold TP.s142;refine ZcZ ?_;refine cp h ?_;refine ZcZ ?_;exact⟨.inr trivial,_,rfl,rfl⟩
theorem _root_.Go.AM.ZcV{p q:Prop}(k:q)(h:p=q:=by conv=>lhs;simp(disch:=first|omega|exact PairsOK.mk rfl|(simp only[lenW]<;>omega))only[Qaa,Qab,Qac,wW,wV,simprocAttr]):p:=h▸k
theorem _root_.Go.AM.ZcW{p q A:Prop}(a:A)(k:q)(h:A->p=q:=by intro a;conv=>lhs;simp(disch:=first|omega|exact PairsOK.mk rfl|(simp only[lenW]<;>omega))only[a,Qaa,Qab,Qac,wW,wV,simprocAttr]):p:=h a▸k
theorem _root_.Go.AM.ZcY{p q A:Prop}(a:A)(k:q)(h:A->p=q:=by intro a;conv=>lhs;simp(disch:=first|omega|exact PairsOK.mk rfl|(simp only[lenW]<;>omega))only[a,Zar,Qaa,Qab,Qac,wW,wV,simprocAttr]):p:=h a▸k
theorem Qaw{α:Type}{f:α->AV}(h:∀x,noRef (f x)=true)(l:List α):noRefs (l.map f)=true:=by induction l with|nil=>rfl|cons x l a=>simp only[ZaJ,noRefs,h,a];rfl
def pE(e:Ed):Nat×Nat:=(e.1,e.2.1)
def vE(es:List Ed)(p:Nat×Nat):AV:=.int .i64 (((stepA es p.1 p.2).getD 0:Nat):Int)
abbrev emV(a:Aut):AV:=fmapG kP (vE a.es) (a.es.map pE)
theorem QcD(a:Aut):noRef (emV a)=true:=by rw[emV,fmapG,noRef,Qaw (fun _=>rfl),Qaw (fun _=>rfl)];rfl
theorem Qaa{x y:List AV}:(AV.fmap x y).cells=[.fmap x y]:=rfl
theorem Qab{x y:List AV}:(AV.fmap x y).one=true:=rfl
theorem Qac{x y:List AV}:(AV.fmap x y).boxable=true:=rfl
abbrev macV(l:List Aut):AV:=.agg [auts l,sliN (evA l),.fsl (l.map emV) l.length 1]
theorem Qc0(l:List Aut):noRef (macV l)=true:=by rw[macV,noRef,noRefs,noRefs,noRefs,Qbf,Qae,noRef,Qaw QcD];rfl
theorem Qjm{e:Ed}{es:List Ed}{s v:Nat}:stepA (e::es) s v=if e.1=s/\e.2.1=v then some e.2.2 else stepA es s v:=by unfold stepA;rw[List.find?_cons];by_cases h1:e.1=s<;>by_cases a:e.2.1=v<;>simp[h1,a,beq_eq_false_iff_ne.2]
theorem QeK:∀{es:List Ed},es.Pairwise (fun x y=>x.1<y.1\/(x.1=y.1/\x.2.1<y.2.1))->∀{e:Ed},e∈es->stepA es e.1 e.2.1=some e.2.2
 |x::es,h,e,he=>by
  rw[Zax]at h;rw[Qjm];rcases Zau.1 he with rfl|he;·rw[if_pos ⟨rfl,rfl⟩]
  have :=h.1 e he;rw[if_neg (by omega)];exact QeK h.2 he
theorem Qjn:∀{es:List Ed}{s v:Nat},(s,v)∉es.map pE->stepA es s v=none|[],s,v,_=>rfl|x::es,s,v,h=>by rw[ZaJ,Zau,not_or]at h;rw[Qjm,if_neg fun a=>h.1 (by unfold pE;rw[a.1,a.2])];exact Qjn h.2
theorem QeW{es:List Ed}{s v t:Nat}(h:stepA es s v=some t):(s,v)∈es.map pE:=by refine Decidable.byContradiction fun a=>?_;rw[Qjn a]at h;cases h
theorem QsB{es:List Ed}(h:es.Pairwise (fun x y=>x.1<y.1\/(x.1=y.1/\x.2.1<y.2.1))){j:Nat}{e:Ed}(he:es[j]?=some e):(e.1,e.2.1)∉(es.take j).map pE:=by
 intro hm;obtain⟨y,f,b⟩:=Zan.1 hm;obtain⟨k,hk⟩:=List.mem_iff_getElem?.1 f;have a:k<j:=by
  rcases ZbE k j with h|h;·exact h
  rw[ZaD (by rw[Zav];omega)]at hk;cases hk
 rw[List.getElem?_take_of_lt a]at hk;obtain⟨k1,k2⟩:=Zag.1 hk;obtain⟨c,d⟩:=Zag.1 he;have:=Zbe.1 h k j k1 c a;rw[k2,d]at this;unfold pE at b;simp only[Zaj]at b;omega
theorem Qu7{es:List Ed}(h:es.Pairwise (fun x y=>x.1<y.1\/(x.1=y.1/\x.2.1<y.2.1))){e:Ed}(he:e∈es):updG (vE es) (e.1,e.2.1) (.int .i64 (e.2.2:Int))=vE es:=by
 funext p;unfold updG;split;·rename_i hp;subst hp;unfold vE;rw[QeK h he];rfl
 rfl
theorem _root_.Go.AM.au21{p:Prop}(h:p:=by repeat(first|exact Zcy|(refine Zcz ?_ ?_;·(first|exact Rn.any|exact Rn.x1 rfl rfl|exact Rn.x2 rfl rfl|exact Rn.x3 rfl rfl|exact Rn.x4 rfl rfl|exact Rn.x5 rfl|exact Rn.x6 rfl|exact Rn.x7 rfl|(refine Rn.slot ?_ ?_;(first|rfl|(rw[ZaS];rfl));(first|rfl|(simp only[noRef,noRefs,Qag,Zad,Zac,Zai,Qad,Qan,Qae,Qai,QaT,Qaf];done)))|(refine Rn.fn ?_ ?_<;>(repeat'(first|exact ZcG|refine ZcH ?_ ?_|exact Zcq rfl|exact Rn.x6 rfl|exact Rn.x2 rfl rfl|exact Rn.x5 rfl|exact Rn.x1 rfl rfl))))))):p:=h
theorem open96(l:List Aut)(h:∀a∈l,WfJ a)(w:l.length<=12):Pq 114 [auts l] (macV l):=by
 refine Zct 64 TP.ok114 rfl (by rw[noRefs,Qbf];rfl) (Qc0 l) ?_;have q:=events187 l h w;have b:=Qbf l;have hlen:(l.map emV).length=l.length:=Zaz ..;unfold TP.s114;refine ZcV ?_;refine cp q ?_;refine ZcV ?_;refine Qaq 120 (fun i:Nat=>[(2,.ptr 51 0 0),(3,.ptr 52 0 0),(13,auts l),(14,.int .i64 l.length),(15,.int .i64 i)]) (fun i=>[(51,.cells 0 [.nilsl,.nilsl,.nilsl]),(52,.cells 0 [auts l,sliN (evA l),.sl 76 0 0 i 1]),(76,.cells 0 ((l.take i).map emV))]) (fun i=>i<=l.length) (fun i=>l.length-i) 0 0 300 (fun _:Unit=>[(2,.ptr 51 0 0),(3,.ptr 52 0 0)]) (fun _=>[(51,.cells 0 [.nilsl,.nilsl,.nilsl]),(52,.cells 0 [auts l,sliN (evA l),.fsl (l.map emV) l.length 1])]) (fun _=>True) ⟨[(51,.blk 64 0),(52,.blk 69 0),(76,.nil)],rfl,au0,?_,au21⟩ (Zah _) ?_ ?_;·exact ZcB rfl rfl gg (Zcr rfl) (ZcB rfl rfl gg (ZcH (Zcq b) (ZcH (Zcq (Qae _)) (ZcH (Rn.x4 rfl rfl) ZcG))) (ZcC rfl rfl ZcA))
 ·rintro i hi;by_cases f:i<l.length
  ·obtain⟨x,u⟩:=Qap f;have c:=h x (Zae u);have k:=Qej u;have r:4<=((l.flatMap auC).drop (i*4)).length:=by rw[k];simp
   have m:=take_succ' u;have t:(l.take i).length=i:=by rw[Zav];omega
   have s:((l.take i).map emV).length=i:=by rw[Zaz,t]
   have z:=WfA.el1 c.wf;refine ZcW (Zc2 f k r) ?_;refine Qaq 220 (fun j:Nat=>[(2,.ptr 51 0 0),(3,.ptr 52 0 0),(13,auts l),(14,.int .i64 l.length),(15,.int .i64 i),(6,.map 77 0),(21,egsN x.es),(22,.int .i64 x.es.length),(23,.int .i64 j)]) (fun j=>[(51,.cells 0 [.nilsl,.nilsl,.nilsl]),(52,.cells 0 [auts l,sliN (evA l),.sl 76 0 0 i 1]),(76,.cells 0 ((l.take i).map emV)),(77,.map 0 (mapG kP (vE x.es) ((x.es.take j).map pE)))]) (fun j=>j<=x.es.length) (fun j=>x.es.length-j) 0 2 280 (fun _:Unit=>[(2,.ptr 51 0 0),(3,.ptr 52 0 0),(13,auts l),(14,.int .i64 l.length),(15,.int .i64 i),(6,emV x)]) (fun _=>[(51,.cells 0 [.nilsl,.nilsl,.nilsl]),(52,.cells 0 [auts l,sliN (evA l),.sl 76 0 0 i 1]),(76,.cells 0 ((l.take i).map emV))]) (fun _=>True) ⟨[(51,.blk 51 0),(52,.blk 52 0),(76,.blk 76 0),(77,.blk 125 0)],rfl,au0,?_,au21⟩ (Zah _) ?_ ?_;·exact ZcB rfl rfl gg (Zcr rfl) (ZcB rfl rfl gg (ZcH (Zcq b) (ZcH (Zcq (Qae _)) (ZcH (Rn.x1 rfl rfl) ZcG))) (ZcB rfl rfl gg (Zcr (Qaw QcD _)) (ZcD rfl rfl gg (ZcQ fun _ _=>⟨rfl,rfl⟩) ZcA)))
   ·rintro j A;by_cases d:j<x.es.length
    ·obtain⟨e,he⟩:=Qap d;have g:=QaJ he;have o:3<=((x.es.flatMap edC).drop (j*3)).length:=by rw[g];simp
     have p:=QsB c.wf.es he;have v:=Qu7 c.wf.es (Zae he);refine ZcW (Zc2 d g o) ?_;refine Qbs (c:=kP) (f:=vE x.es) (x:=(e.1,e.2.1)) (l:=(x.es.take j).map pE) (g:=0) gg QmR p (by omega) ?_;rw[v];refine ZcV ?_;refine⟨j+1,by omega,by omega,?_⟩;rw[take_succ' he,ZaK];refine⟨[(51,.blk 51 0),(52,.blk 52 0),(76,.blk 76 0),(77,.blk 77 0)],rfl,au0,?_,au21⟩;exact ZcB rfl rfl gg (Zcr rfl) (ZcB rfl rfl gg (ZcH (Zcq b) (ZcH (Zcq (Qae _)) (ZcH (Rn.x1 rfl rfl) ZcG))) (ZcB rfl rfl gg (Zcr (Qaw QcD _)) (ZcD rfl rfl gg (ZcQ fun _ _=>⟨rfl,rfl⟩) ZcA)))
    have e:j=x.es.length:=by omega
    subst e;refine ZcY d ?_;refine⟨(),[(51,.blk 51 0),(52,.blk 52 0),(76,.blk 76 0)],rfl,Zcx,?_,?_⟩;·exact ZcB rfl rfl gg (Zcr rfl) (ZcB rfl rfl gg (ZcH (Zcq b) (ZcH (Zcq (Qae _)) (ZcH (Rn.x1 rfl rfl) ZcG))) (ZcB rfl rfl gg (Zcr (Qaw QcD _)) ZcA))
    exact Zcz (Rn.x2 rfl rfl) (Zcz (Rn.x2 rfl rfl) (Zcz (Zcq b) (Zcz (Zcq rfl) (Zcz (Zcq rfl) (Zcz (Rn.fzM (b:=77) (g:=0) gg rfl rfl fun _ _=>⟨rfl,rfl⟩) Zcy)))))
   rintro _ _;have y:=QcD x;refine ZcW s ?_;refine⟨i+1,by omega,by omega,?_⟩;rw[m,ZaK];refine⟨[(51,.blk 51 0),(52,.blk 52 0),(76,.blk 76 1)],rfl,au0,?_,au21⟩;exact ZcB rfl rfl gg (Zcr rfl) (ZcB rfl rfl gg (ZcH (Zcq b) (ZcH (Zcq (Qae _)) (ZcH (Rn.x1 rfl rfl) ZcG))) (ZcB rfl rfl gg (Zcr (SU.Qav (Qaw QcD _) (Qaw QcD [x]))) ZcA))
  have e:i=l.length:=by omega
  subst e;refine ZcY f ?_;refine⟨(),?_⟩;refine⟨[(51,.blk 51 0),(52,.blk 52 0)],rfl,au0,?_,au21⟩;exact ZcB rfl rfl gg (Zcr rfl) (ZcB rfl rfl gg (ZcH (Zcq b) (ZcH (Zcq (Qae _)) (ZcH (ZcI rfl rfl rfl rfl (by simp) (Zcr (Qaw QcD _))) ZcG))) ZcA)
 rintro _ _;refine ZcV ?_;refine⟨.inr trivial,_,rfl,?_⟩;exact Zcq (Qc0 l)
theorem Qea(l:List Aut):noRefs [auts l,sliN (evA l),.fsl (l.map emV) l.length 1]=true:=by have:=Qc0 l;rwa[macV,noRef]at this
theorem Qrm(n:Nat)(x:Int):(List.replicate n [AV.int .i64 x]).flatten=ints (List.replicate n x):=by induction n with|zero=>rfl|succ n a=>rw[Zbr,ZbK,a];rfl
theorem Qu8(n:Nat):nz (List.replicate n 0)=List.replicate n 0:=by simp[nz]
theorem initial97(l:List Aut)(h:∀a∈l,WfJ a)(q:0<l.length)(r:l.length<=12):Pq 115 [macV l] (.tup [sliN (List.replicate l.length 0),.bool true]):=by
 refine Zct 64 TP.ok115 rfl (by rw[noRefs,Qc0];rfl) (by rw[noRef,noRefs,Qae];rfl) ?_;have p:=Qbf l;have b:=Qea l;have k:(l.length:Int)<=140737488355328:=by omega
 have g:(8:Int)*l.length<=140737488355328:=by omega
 unfold TP.s115;refine ZcV ?_;refine Qaq 100 (fun i:Nat=>[(1,.ptr 51 0 0),(7,auts l),(8,.int .i64 l.length),(9,.int .i64 i)]) (fun _=>[(51,.cells 0 [auts l,sliN (evA l),.fsl (l.map emV) l.length 1])]) (fun i=>i<=l.length) (fun i=>l.length-i) 0 0 140 (fun _:Unit=>[(1,.ptr 51 0 0)]) (fun _=>[(51,.cells 0 [auts l,sliN (evA l),.fsl (l.map emV) l.length 1])]) (fun _=>True) ⟨[(51,.blk 64 0)],rfl,au0,?_,au21⟩ (Zah _) ?_ ?_;·exact ZcB rfl rfl gg (Zcr b) ZcA
 ·rintro i hi;by_cases c:i<l.length
  ·obtain⟨x,o⟩:=Qap c;have m:=h x (Zae o);have d:=Qej o;have f:4<=((l.flatMap auC).drop (i*4)).length:=by rw[d];simp
   have hp:¬(x.n:Int)=0:=by have:=m.pos;omega
   simp(disch:=first|omega|exact PairsOK.mk rfl|(simp only[lenW]<;>omega))only[c,d,f,hp,Qaa,Qab,Qac,wW,wV,simprocAttr];refine⟨i+1,by omega,by omega,?_⟩;refine⟨[(51,.blk 51 0)],rfl,au0,?_,au21⟩;exact ZcB rfl rfl gg (Zcr b) ZcA
  refine ZcW c ?_;refine⟨(),?_⟩;refine⟨[(51,.blk 51 0)],rfl,au0,?_,au21⟩;exact ZcB rfl rfl gg (Zcr b) ZcA
 rintro _ _;refine Zc0 (Zc5 k g @Qrm @Qaa @Qab @Qac) ?_;refine⟨.inr trivial,_,rfl,?_⟩;refine Rn.tup (ZcH ?_ (Zcr rfl));have e:sliN (List.replicate l.length 0)=.fsl (ints (List.replicate l.length 0)) l.length 1:=by rw[sliN,Qu8,ZbT]
 rw[e];exact Rn.fz0 (b:=143) rfl (by simp[ints]) (Zcr (Qad _))
theorem _root_.Go.AM.au22{p:Prop}(h:p:=by repeat'(first|exact ZcA|(refine Zcr ?_;first|rfl|(simp only[noRef,noRefs,Qag,Zad,Zac,Zai,Qad,Qan,Qae,Qai,QaT,Qaf];done))|exact ZcM rfl|exact ZcG|exact(True.intro:RnM _ _ _ [] [])|refine ZcH ?_ ?_|(refine Zcq ?_;first|rfl|(simp only[noRef,noRefs,Qag,Zad,Zac,Zai,Qad,Qan,Qae,Qai,QaT,Qaf];done))|exact Rn.x1 rfl rfl|exact Rn.x2 rfl rfl|exact Rn.x3 rfl rfl|exact Rn.x4 rfl rfl|exact Rn.x5 rfl|exact Rn.x6 rfl|exact Rn.x7 rfl|refine ZcC rfl rfl ?_|refine ZcB rfl rfl rfl ?_ ?_|refine ZcD rfl rfl rfl ?_ ?_|refine ZcE rfl rfl ?_ ?_|refine ZcF rfl rfl ?_ ?_)):p:=h
theorem marked99(l:List Aut)(t:List Nat)(h:∀a∈l,WfJ a)(z:l.length<=12)(w:t.length=l.length):Pq 117 [macV l,sliN t] (.bool (mkdT l t)):=by
 refine Zct 64 TP.ok117 rfl (by rw[noRefs,Qc0,noRefs,Qae];rfl) rfl ?_;have v:=Qbf l;have s:=Qea l;unfold TP.s117;refine ZcV ?_;refine Qaq 100 (fun i:Nat=>[(1,sliN t),(8,auts l),(9,.int .i64 l.length),(10,.int .i64 i)]) (fun _=>[]) (fun i=>i<=l.length/\mkdT l t=mkdT (l.drop i) (t.drop i)) (fun i=>l.length-i) 0 0 140 (fun _:Unit=>[]) (fun _=>[]) (fun _=>mkdT l t=true) ⟨[],rfl,au0,au22,au21⟩ ⟨Zah _,rfl⟩ ?_ ?_
 ·rintro i⟨hi,hm⟩;by_cases b:i<l.length
  ·obtain⟨x,o⟩:=Qap b;obtain⟨y,p⟩:=Qap (l:=t) (i:=i) (by omega);have d:=h x (Zae o);have g:=Qej o;have k:4<=((l.flatMap auC).drop (i*4)).length:=by rw[g];simp
   have f:i<t.length:=by omega
   have c:mkdT (l.drop i) (t.drop i)=(x.ms.contains y&&mkdT (l.drop (i+1)) (t.drop (i+1))):=by obtain⟨h1,r⟩:=Zag.1 o;obtain⟨u,q⟩:=Zag.1 p;rw[Zbf h1,Zbf u,r,q];rfl
   have hc:=has189 x.ms y d.wf.ms (by have:=QaQ x.n x.ms d.wf.nd d.wf.msn;have:=d.n10;omega);cases m:x.ms.contains y;·rw[m]at hc c;refine ZcW (Zc4 b f g k (Qaz p)) ?_;refine cp hc ?_;refine ZcV ?_;refine⟨.inr trivial,_,rfl,?_⟩;rw[hm,c];exact Zcq rfl
   rw[m,Zai]at c;rw[m]at hc;refine ZcW (Zc4 b f g k (Qaz p)) ?_;refine cp hc ?_;refine ZcV ?_;exact⟨i+1,by omega,⟨by omega,by rw[hm,c]⟩,⟨[],rfl,au0,au22,au21⟩⟩
  have e:i=l.length:=by omega
  subst e;refine ZcW b ?_;refine⟨(),by rw[hm,List.drop_eq_nil_of_le (ZaM _)];rfl,?_⟩;exact⟨[],rfl,au0,au22,au21⟩
 rintro _ hm;refine ZcV ?_;refine⟨.inr trivial,_,rfl,?_⟩;rw[hm];exact Zcq rfl
def stV:Option (List Nat)->AV|some n=>.tup [sliN n,.bool true]|none=>.tup [.nilsl,.bool false]
theorem Qrn(o:Option (List Nat)):noRef (stV o)=true:=by cases o with|none=>rfl|some n=>rw[stV,noRef,noRefs,Qae];rfl
theorem Qm7{l:List Aut}{t:List Nat}{e:Nat}{k:Nat}(h:stp l t e k=none):∀m,stp l t e (k+m)=none|0=>h|m+1=>by have:=Qm7 h m;show stp l t e (k+m+1)=none;unfold stp;rw[this]
theorem Qu9{l:List Nat}{i x:Nat}:(ints (nz l)).set i (.int .i64 (x:Int))=ints (nz (l.set i x)):=by simp[ints,nz,List.map_set]
theorem QtG{l:List Aut}{i:Nat}{x:Aut}(h:l[i]?=some x):((l.map emV).drop i).head?=some (emV x):=by rw[Zb7,ZaB,h];rfl
theorem step100(l:List Aut)(t:List Nat)(e:Nat)(h:∀a∈l,WfJ a)(N:0<l.length)(P:l.length<=12)(M:t.length=l.length):Pq 118 [macV l,sliN t,.int .i64 (e:Int)] (stV (stepT l t e)):=by
 refine Zct 64 TP.ok118 rfl (by rw[noRefs,Qc0,noRefs,Qae];rfl) (Qrn _) ?_;have J:=Qbf l;have o:=Qea l;have A:(l.map emV).length=l.length:=Zaz ..;have C:=clone56 t (by omega);unfold TP.s118;refine ZcV ?_;refine ch (HSpec.of_O (b:=83) (by rw[noRefs,Qae];rfl) C (by repeat(first|exact Fresh.e|exact Fresh.le (by assumption) (by omega)|refine Fresh.set ?_ (by omega) (by omega))) rfl) ?_;refine ZcV ?_;refine Qaq 120 (fun s:Nat×List Nat=>[(1,sliN t),(2,.int .i64 (e:Int)),(3,.ptr 51 0 0),(8,.sl 60 0 0 t.length 1),(16,auts l),(17,.int .i64 l.length),(18,.int .i64 s.1)]) (fun s=>[(51,.cells 0 [auts l,sliN (evA l),.fsl (l.map emV) l.length 1]),(60,.cells 0 (ints (nz s.2)))]) (fun s=>s.1<=l.length/\s.2.length=t.length/\stp l t e s.1=some s.2) (fun s=>l.length-s.1) (0,t) 0 200 (fun n:List Nat=>[(8,.sl 60 0 0 t.length 1)]) (fun n=>[(60,.cells 0 (ints (nz n)))]) (fun n=>n.length=t.length/\stepT l t e=some n) ?_ ⟨Zah _,rfl,rfl⟩ ?_ ?_;·refine⟨[(51,.blk 64 0),(60,.blk 83 0)],rfl,au0,?_,au21⟩;exact ZcB rfl rfl gg (Zcr o) (ZcB rfl rfl gg (Zcr (Qad _)) ZcA)
 ·rintro⟨i,n⟩⟨hi,q,v⟩;dsimp only at hi q v⊢;by_cases g:i<l.length
  ·obtain⟨x,z⟩:=Qap g;obtain⟨y,G⟩:=Qap (l:=t) (i:=i) (by omega);have E:t.getD i 0=y:=by rw[Zak,G];rfl
   have k:=h x (Zae z);have m:=Qej z;have u:4<=((l.flatMap auC).drop (i*4)).length:=by rw[m];simp
   have c:i<t.length:=by omega
   have B:i+1<=n.length:=by omega
   have hc:=has189 x.al e k.wf.al (by have:=Qb4 k.wf;omega);have b:stp l t e (i+1)=if e∈x.al then(match stepA x.es y e with|some to=>some (n.set i to)|none=>none)else some n:=by unfold stp;rw[v,z,E];try rfl
   by_cases w:e∈x.al
   ·rw[ZaG.2 w]at hc;rw[if_pos w]at b
    refine ZcW (Zc3 g c m u) ?_;refine cp hc ?_;refine ZcW (Zc4 g c (QtG z) (Qaz G) A) ?_;cases f:stepA x.es y e with|none=>
     rw[f]at b;have hk:(y,e)∉x.es.map pE:=fun hm=>by obtain⟨d,I,p⟩:=Zan.1 hm;have H:=QeK k.wf.es I;unfold pE at p;simp only[Zaj]at p;rw[p.1,p.2,f]at H;cases H
     have r:stepT l t e=none:=by have:=Qm7 b (l.length-(i+1));rwa[show i+1+(l.length-(i+1))=l.length by omega]at this
     refine Qd1 (c:=kP) (f:=vE x.es) (x:=(y,e)) (l:=x.es.map pE) QmR hk ?_;refine ZcV ?_;refine⟨.inr trivial,_,rfl,?_⟩;rw[r];exact Zcq rfl|some to=>
     rw[f]at b;have L:vE x.es (y,e)=.int .i64 (to:Int):=by unfold vE;rw[f];rfl
     refine Qda (c:=kP) (f:=vE x.es) (x:=(y,e)) (l:=x.es.map pE) QmR (QeW f) ?_;rw[L];refine Zc0 (Zc5 c B @Qu9 @Qaa @Qab @Qac) ?_;refine⟨(i+1,n.set i to),by dsimp only;omega,⟨by dsimp only;omega,by rw[List.length_set];exact q,b⟩,?_⟩;refine⟨[(51,.blk 51 0),(60,.blk 60 0)],rfl,au0,?_,au21⟩;exact ZcB rfl rfl gg (Zcr o) (ZcB rfl rfl gg (Zcr (Qad _)) ZcA)
   rw[show x.al.contains e=false by rw[ZaA];exact fun K=>w (ZaG.1 K)]at hc;rw[if_neg w]at b;refine ZcW (Zc3 g c m u) ?_;refine cp hc ?_;refine ZcV ?_;refine⟨(i+1,n),by dsimp only;omega,⟨by dsimp only;omega,q,b⟩,?_⟩;refine⟨[(51,.blk 51 0),(60,.blk 60 0)],rfl,au0,?_,au21⟩;exact ZcB rfl rfl gg (Zcr o) (ZcB rfl rfl gg (Zcr (Qad _)) ZcA)
  have p:i=l.length:=by omega
  subst p;refine ZcW g ?_;refine⟨n,⟨q,v⟩,?_⟩;refine⟨[(60,.blk 60 0)],rfl,au0,?_,au21⟩;exact ZcB rfl rfl gg (Zcr (Qad _)) ZcA
 rintro n⟨q,v⟩;refine ZcV ?_;refine⟨.inr trivial,_,rfl,?_⟩;rw[v];refine Rn.tup (ZcH ?_ (Zcr rfl));rw[<-q];exact Rn.fz0 gg (by simp[ints]) (Zcr (Qad _))
end Go.AM.SO
namespace Go.AM.TK
open Go.Proofs
set_option maxHeartbeats 4000000
noncomputable section
def cf:YA.Cf:={}
noncomputable def ft:FT2:=YA.tre Tryz.prog cf 20 [62,108,109,116,119,194,197,198,249,287]
theorem ft_ok:ft.OK Tryz.prog:=YA.QgE _ _ (YA.QfI (by kernel_rfl))
end
end Go.AM.TK
namespace Go.AM.SO
open Go.Proofs Go.AM.SD
noncomputable section
def keyT(t:List Nat):List UInt8:=t.flatMap fun x=>[UInt8.ofNat (48+x),32]
def keyB(k:Nat)(t:List Nat):Bool:=callR ansB noOrc TK.ft.get (exR ansB noOrc TK.ft.get 1000) (.c .pure) k [sliN t] .e 64 (fun u _ _=>eqAV (.str (keyT t)) u)
theorem Qjo{k:Nat}{t:List Nat}(h:keyB k t=true):Pq k [sliN t] (.str (keyT t)):=Qcj (t:=TK.ft) TK.ft_ok QeF (d:=1000) (eqAV _) (fun u h=>(Qdn _ _ h).symm) h
def allK(k n:Nat):List Nat->Bool:=@Nat.rec (fun _=>List Nat->Bool) (fun t=>keyB k t) (fun _ a t=>ifB (a (t++[0])) (ifB (a (t++[1])) (a (t++[2])) false) false) n
theorem Qfq{k:Nat}:∀{t u:List Nat},allK k t.length u=true->(∀x∈t,x<3)->keyB k (u++t)=true
 |[],u,h,_=>by rw[Zap];exact h|x::t,u,h,a=>by
  have e:allK k (x::t).length u=ifB (allK k t.length (u++[0])) (ifB (allK k t.length (u++[1])) (allK k t.length (u++[2])) false) false:=rfl;rw[e]at h;simp only[QaE]at h;have d:=a x (by simp);have b:allK k t.length (u++[x])=true:=by grind
  have:=Qfq b fun y c=>a y (by simp[c]);simp_all
theorem QtH:allK 116 1 []=true:=by kernel_rfl
theorem QtI:allK 116 2 []=true:=by kernel_rfl
theorem QtJ:allK 116 3 []=true:=by kernel_rfl
theorem key98{t:List Nat}(c:0<t.length)(b:t.length<=3)(a:∀x∈t,x<3):Pq 116 [sliN t] (.str (keyT t)):=by refine Qjo (Qfq (u:=[]) ?_ a);grind[QtH,QtI,QtJ]
theorem Qm8:∀{s t:List Nat},s.length=t.length->(∀x∈s,x<10)->(∀x∈t,x<10)->keyT s=keyT t->s=t
 |[],[],_,_,_,_=>rfl|x::s,y::t,d,b,c,h=>by
  have g:keyT (x::s)=UInt8.ofNat (48+x)::32::keyT s:=rfl;have f:keyT (y::t)=UInt8.ofNat (48+y)::32::keyT t:=rfl;rw[g,f]at h;simp only[List.cons.injEq,true_and]at h;have k:=b x (by simp);have i:=c y (by simp);have h1:x=y:=by have:=congrArg UInt8.toNat h.1;grind[UInt8.toNat_ofNat']
  subst h1;rw[Qm8 (by simpa using d) (fun z a=>b z (by simp[a])) (fun z a=>c z (by simp[a])) h.2]
end
end Go.AM.SO
namespace Go.AM.SO
open Go.Proofs Go.AM.SD Go.AM.SE
abbrev ixT(T:List (List Nat))(n:List Nat):Nat:=T.findIdx (·==n)
theorem Qhl{A B:List (List Nat)}{n:List Nat}(h:A<+:B)(a:n∈A):ixT A n=ixT B n:=by obtain⟨C,rfl⟩:=h;grind
theorem Qj0{A:List (List Nat)}{n:List Nat}(a:n∉A):ixT A n=A.length:=by grind
theorem QtK{A:List (List Nat)}{n:List Nat}(a:n∉A):ixT A n=ixT (A++[n]) n:=by grind
theorem Qhm{A:List (List Nat)}{n:List Nat}(a:n∈A):A[ixT A n]?=some n:=by grind
theorem Qg5{A:List (List Nat)}{n:List Nat}(a:n∈A):ixT A n<A.length:=Zbn ⟨n,a,by simp⟩
theorem Qro{A:List (List Nat)}{n:List Nat}{i:Nat}(a:A.Nodup)(h:A[i]?=some n):ixT A n=i:=by grind[Qhm,List.getElem?_inj]
def rowE(l:List Aut)(ev:List Nat)(T:List (List Nat))(j:Nat)(t:List Nat):List Ed:=ev.filterMap fun e=>(stepT l t e).map fun n=>(j,e,ixT T n)
theorem QpF{l:List Aut}{ev:List Nat}{A B:List (List Nat)}{j:Nat}{t:List Nat}(h:A<+:B)(hc:∀e∈ev,∀n,stepT l t e=some n->n∈A):rowE l ev A j t=rowE l ev B j t:=by unfold rowE;refine a fun e he=>?_;cases b:stepT l t e with|none=>rfl|some n=>simp only[ZbC,Qhl h (hc e he n b)]where a{α β:Type}{f g:α->Option β}:∀{l:List α},(∀x∈l,f x=g x)->l.filterMap f=l.filterMap g|[],_=>rfl|x::l,h=>by rw[Zbw,Zbw,h x (by simp),a (l:=l) fun y c=>h y (by simp[c])]
theorem Qld{l:List Aut}{i:Nat}{t:List Nat}:∀{ev:List Nat}{s:List (List Nat)×List Ed},(pRow l ev i t s).2=s.2++rowE l ev (pRow l ev i t s).1 i t/\∀e∈ev,∀n,stepT l t e=some n->n∈(pRow l ev i t s).1|[],s=>by simp_all[pRow,rowE]|e::ev,s=>by have h:=Qld (l:=l) (i:=i) (t:=t) (ev:=ev) (s:=pEv l i t s e);have hp:=QcB (l:=l) (i:=i) (t:=t) (ev:=ev) (s:=pEv l i t s e);have h1:pRow l (e::ev) i t s=pRow l ev i t (pEv l i t s e):=rfl;rw[h1];obtain⟨d,i2⟩:=h;cases p:stepT l t e with
 |none=>
  have b:pEv l i t s e=s:=by grind[pEv]
  rw[b]at d i2 hp⊢;refine⟨?_,fun g c n k=>?_⟩;·simp_all[rowE]
  grind|some n=>
  have b:pEv l i t s e=(if n∈s.1 then s.1 else s.1++[n],s.2++[(i,e,ixT s.1 n)]):=by grind[pEv]
  rw[b]at d i2 hp⊢;have a:n∈(if n∈s.1 then s.1 else s.1++[n]):=by grind
  have m:ixT s.1 n=ixT (if n∈s.1 then s.1 else s.1++[n]) n:=by grind
  have f:=Qhl hp a;refine⟨?_,fun g c o k=>?_⟩;·generalize pRow l ev i t (if n∈s.1 then s.1 else s.1++[n],s.2++[(i,e,ixT s.1 n)])=R at*;simp_all[rowE]
  grind
structure PE(l:List Aut)(ev:List Nat)(i:Nat)(s:List (List Nat)×List Ed):Prop where
 ed:s.2=(List.range i).flatMap fun j=>rowE l ev s.1 j (s.1.getD j [])cl:∀j t,j<i->s.1[j]?=some t->∀e∈ev,∀n,stepT l t e=some n->n∈s.1
 le:i<=s.1.length
theorem Qiz{A B:List (List Nat)}(h:A<+:B){j:Nat}(a:j<A.length):B.getD j []=A.getD j []:=by obtain⟨C,rfl⟩:=h;grind
theorem Qhn{A B:List (List Nat)}(h:A<+:B){j:Nat}(a:j<A.length):B[j]?=A[j]?:=by obtain⟨C,rfl⟩:=h;grind
theorem flatMap_congr'{α β:Type}{f g:α->List β}:∀{l:List α},(∀x∈l,f x=g x)->l.flatMap f=l.flatMap g|[],_=>rfl|x::l,h=>by rw[Zay,Zay,h x (by simp),flatMap_congr' (l:=l) fun y a=>h y (by simp[a])]
theorem PE.row{l:List Aut}{ev:List Nat}{i:Nat}{s:List (List Nat)×List Ed}{t:List Nat}(h:PE l ev i s)(f:s.1[i]?=some t):PE l ev (i+1) (pRow l ev i t s):=by
 have hp:=QcB (l:=l) (i:=i) (t:=t) (ev:=ev) (s:=s);obtain⟨h1,g⟩:=Qld (l:=l) (i:=i) (t:=t) (ev:=ev) (s:=s);have hi:i<s.1.length:=by grind
 refine⟨?_,fun j u a hu e he n b=>?_,Zaw hi hp.length_le⟩
 ·rw[h1,ZaO,Zaq,Zay,Zb3,Zap];have d:(pRow l ev i t s).1.getD i []=t:=by rw[Qiz hp hi,Zak,f];rfl
  rw[d];congr 1;rw[h.ed];refine flatMap_congr' fun j a=>?_;have c:=Zat.1 a;obtain⟨u,hu⟩:=Qap (l:=s.1) (i:=j) (by omega);rw[Qiz hp (by omega)];refine QpF hp fun e he n b=>?_;rw[Zak,hu]at b;exact h.cl j u c hu e he n b
 rcases Nat.lt_succ_iff_lt_or_eq.1 a with a|rfl;·rw[Qhn hp (by omega)]at hu;exact hp.subset (h.cl j u a hu e he n b)
 grind[Qhn]
theorem QoT{l:List Aut}{ev:List Nat}(hw:∀a∈l,∀e∈a.es,e.1<a.n/\e.2.2<a.n):∀{k i:Nat}{s:List (List Nat)×List Ed},PI l s->box l<k+i->PE l ev i s->PE l ev (pQ l ev k i s).1.length (pQ l ev k i s)|0,i,s,h,hk,he=>by have h1:=Qdb h.nd h.inT;have c:=he.le;omega|k+1,i,s,h,hk,he=>by unfold pQ;cases b:s.1[i]? with
 |none=>
  have c:=he.le;have:i=s.1.length:=by grind
  rwa[this]at he|some t=>exact QoT hw (Qei hw (h.inT t (Zae b)) h) (by omega) (he.row b)
theorem Qg6{l:List Aut}(c:∀a∈l,0<a.n)(hw:∀a∈l,∀e∈a.es,e.1<a.n/\e.2.2<a.n):PE l (evA l) (sync0 l).1.length (sync0 l):=QoT hw (QfZ c) (by omega) ⟨rfl,fun j t b=>absurd b (ZaC _),Zah _⟩
theorem sync_pre{l:List Aut}:[List.replicate l.length 0]<+:(sync0 l).1:=Qjk (s:=([List.replicate l.length 0],[]))
def keyC(t:List Nat):AV:=.str (keyT t)
def ixV(T:List (List Nat))(t:List Nat):AV:=.int .i64 ((ixT T t:Nat):Int)
abbrev tuV(T:List (List Nat)):AV:=.fsl (T.map sliN) T.length 1
theorem Qa8(T:List (List Nat)):noRef (tuV T)=true:=by rw[tuV,noRef];exact Qaw Qae _
theorem InT.ltJ{l:List Aut}(h:∀a∈l,WfJ a){t:List Nat}(d:InT l t){x:Nat}(f:x∈t):x<10:=by obtain⟨i,hi,b⟩:=QdS f;obtain⟨a,c⟩:=Qap (l:=l) (i:=i) (by rw[<-d.1];exact b);have h1:=d.2 i a c;rw[Zak,hi]at h1;have g:=(h a (Zae c)).n10;simp only[Zb2]at h1;omega
theorem InT.lt{l:List Aut}(h:∀a∈l,WfI a){t:List Nat}(d:InT l t){x:Nat}(f:x∈t):x<3:=by obtain⟨i,hi,b⟩:=QdS f;obtain⟨a,c⟩:=Qap (l:=l) (i:=i) (by rw[<-d.1];exact b);have h1:=d.2 i a c;rw[Zak,hi]at h1;have g:=(h a (Zae c)).n3;simp only[Zb2]at h1;omega
theorem Qg7{l:List Aut}(h:∀a∈l,WfJ a){x:List Nat}{T:List (List Nat)}(f:InT l x)(g:∀t∈T,InT l t):KeyG false [.s] keyC x T:=by
 have key:∀y,InT l y->keyEq false [.s] (keyC x) (keyC y)=some (decide (x=y)):=by
  intro y b;have e:keyEq false [.s] (keyC x) (keyC y)=some (decide (keyT x=keyT y)):=QgU;rw[e];congr 1;refine decide_eq_decide.2 ⟨fun c=>Qm8 (by rw[f.1,b.1]) (fun z d=>?_) (fun z d=>?_) c,fun c=>by rw[c]⟩;·have:=f.ltJ h d;omega
  have:=b.ltJ h d;omega
 refine⟨?_,fun y b=>key y (g y b)⟩;unfold keyOK;rw[key x f]
theorem QoU{T:List (List Nat)}{n:List Nat}(b:n∉T):mapG keyC (updG (ixV T) n (.int .i64 ((T.length:Nat):Int))) (T++[n])=mapG keyC (ixV (T++[n])) (T++[n]):=by
 refine Qjg fun x a=>?_;unfold updG;split;·rename_i e;subst e;unfold ixV;rw[<-QtK b,Qj0 b]
 rename_i e;unfold ixV;rw[Qhl (List.prefix_append T [n]) (by
  rcases ZaE.1 a with a|a;·exact a
  simp at a;exact absurd a e)]
def marks(l:List Aut)(T:List (List Nat))(i:Nat):List Nat:=(List.range i).filter fun j=>mkdT l (T.getD j [])
theorem QpG{l:List Aut}{T:List (List Nat)}{i:Nat}{t:List Nat}(a:T[i]?=some t):marks l T (i+1)=if mkdT l t=true then marks l T i++[i]else marks l T i:=by
 have e:T.getD i []=t:=by rw[Zak,a];rfl
 unfold marks;rw[ZaO,Zbi];by_cases hm:mkdT l t=true;·rw[if_pos hm,List.filter_cons_of_pos (by rw[e];exact hm),List.filter_nil]
 rw[if_neg hm,List.filter_cons_of_neg (by rw[e];exact hm),List.filter_nil,Zap]
theorem Qle{l:List Aut}{A B:List (List Nat)}(h:A<+:B){i:Nat}(hi:i<=A.length):marks l B i=marks l A i:=by unfold marks;refine ZbF fun j a=>?_;rw[Qiz h (by have:=Zat.1 a;omega)]
theorem Qlf{l:List Aut}{T:List (List Nat)}{i:Nat}:(marks l T i).length<=i:=by have:=ZaI (fun j=>mkdT l (T.getD j [])) (List.range i);rwa[Zb0]at this
theorem QtL{l:List Aut}{i e:Nat}{t:List Nat}{s:List (List Nat)×List Ed}:(pEv l i t s e).2.length<=s.2.length+1:=by unfold pEv;cases stepT l t e with|none=>exact Nat.le_succ _|some n=>simp
theorem QeL{l:List Aut}{i:Nat}{t:List Nat}:∀{ev:List Nat}{s:List (List Nat)×List Ed},(pRow l ev i t s).2.length<=s.2.length+ev.length|[],s=>ZaM _|e::ev,s=>by have h1:=QeL (l:=l) (i:=i) (t:=t) (ev:=ev) (s:=pEv l i t s e);have a:=@QtL l i e t s;show(pRow l ev i t (pEv l i t s e)).2.length<=_;rw[ZaF];omega
theorem Qlg{l:List Aut}{ev:List Nat}{i j e:Nat}{t:List Nat}{s:List (List Nat)×List Ed}(h:ev[j]?=some e):pRow l (ev.take (j+1)) i t s=pEv l i t (pRow l (ev.take j) i t s) e:=by unfold pRow;rw[take_succ' h,Za4];rfl
theorem QeM{T:List (List Nat)}{i:Nat}{t:List Nat}(h:T[i]?=some t):(T.map sliN)[i]?=some (sliN t):=by rw[ZaB,h];rfl
theorem QtM{l:List Aut}{ev:List Nat}{k i:Nat}{s:List (List Nat)×List Ed}(h:s.1[i]?=none):pQ l ev k i s=s:=by cases k with|zero=>rfl|succ k=>unfold pQ;rw[h]
theorem Qgh{l:List Aut}{ev:List Nat}{i k:Nat}{t:List Nat}{s:List (List Nat)×List Ed}:(pRow l (ev.take k) i t s).1<+:(pRow l ev i t s).1:=by
 have e:pRow l ev i t s=pRow l (ev.drop k) i t (pRow l (ev.take k) i t s):=by unfold pRow;rw[<-Za4,List.take_append_drop]
 rw[e];exact QcB
def synV(l:List Aut):AV:=if(sync0 l).1.length<=4096 then .tup [aV (syncA l),tuV (sync0 l).1,.int .i64 0]else .tup [.agg [.nilsl,.int .i64 0,.nilsl,.nilsl],.nilsl,.int .i64 3]
theorem sync28J(l:List Aut)(h:∀a∈l,WfJ a)(h0:0<l.length)(hl:l.length<=12)(G:∀t,InT l t->Pq 116 [sliN t] (.str (keyT t))):Pq 58 [auts l] (synV l):=by
 have hno:=Qbf l;have c:=Qea l;have S:noRef (.tup [aV (syncA l),tuV (sync0 l).1,.int .i64 0])=true:=by rw[noRef,noRefs,noRefs,Qa8,noRef,noRefs,noRefs,noRefs,noRefs,Qae,Qae,Qai];rfl
 have hnr:noRef (synV l)=true:=by
  unfold synV;split;·exact S
  rfl
 have X:(sync0 l).1.length<=4096->synV l=.tup [aV (syncA l),tuV (sync0 l).1,.int .i64 0]:=fun h=>if_pos h;have J:¬(sync0 l).1.length<=4096->synV l=.tup [.agg [.nilsl,.int .i64 0,.nilsl,.nilsl],.nilsl,.int .i64 3]:=fun h=>if_neg h;generalize synV l=V at*;refine Zct 64 TP.ok58 rfl (by rw[noRefs,hno];rfl) hnr ?_;have hw:∀a∈l,∀e∈a.es,e.1<a.n/\e.2.2<a.n:=fun a ha=>(h a ha).wf.esn;have hpos:∀a∈l,0<a.n:=fun a ha=>(h a ha).pos;have hc:=check95 l h (by omega);have ho:=open96 l h (by omega);have hi:=initial97 l h h0 (by omega);have T:=QfZ (l:=l) hpos;have R:InT l (List.replicate l.length 0):=T.inT _ (by simp);have hk0:=G _ R;have hev5:=QoS h;have hml:(l.map emV).length=l.length:=Zaz ..;unfold TP.s58;refine ZcV ?_;refine cp hc ?_;refine ZcV ?_;refine cp ho ?_;refine ZcV ?_;refine cp hi ?_;refine ZcV ?_;refine cp hk0 ?_;refine ZcV ?_;refine Qbs (c:=keyC) (f:=fun _=>.nilsl) (x:=List.replicate l.length 0) (l:=[]) (g:=0) gg (Qg7 h R fun t P=>by cases P) (by simp) (by omega) ?_;have hm0:mapG keyC (updG (fun _=>.nilsl) (List.replicate l.length 0) (.int .i64 0)) ([]++[List.replicate l.length 0])=mapG keyC (ixV [List.replicate l.length 0]) [List.replicate l.length 0]:=by
  refine Qjg fun x hx=>?_;have hx:x=List.replicate l.length 0:=by simpa using hx
  subst hx;unfold updG ixV;rw[if_pos rfl];simp[ixT]
 rw[hm0];refine ZcV ?_;refine Qaq 320 (fun q:Nat×(List (List Nat)×List Ed)=>[(2,.ptr 51 0 0),(6,.ptr 52 0 0),(3,.sl 60 0 0 q.2.1.length 1),(9,.map 53 0),(10,.int .i64 (q.1))]) (fun q=>[(51,.cells 0 [sliN (evA l),.int .i64 0,.sl 70 0 0 (marks l q.2.1 q.1).length 1,.sl 71 0 0 q.2.2.length 3]),(52,.cells 0 [auts l,sliN (evA l),.fsl (l.map emV) l.length 1]),(53,.map 0 (mapG keyC (ixV q.2.1) q.2.1)),(60,.cells 0 (q.2.1.map sliN)),(70,.cells 0 (ints (nz (marks l q.2.1 q.1)))),(71,.cells 0 (q.2.2.flatMap edC))]) (fun q=>q.1<=q.2.1.length/\PI l q.2/\q.2.2.length<=q.1*32/\q.2.1.length<=4096/\pQ l (evA l) (box l+1-q.1) q.1 q.2=sync0 l) (fun q=>box l+1-q.1) (0,([List.replicate l.length 0],[])) 0 900 (fun _:Unit=>[(2,.ptr 51 0 0),(3,tuV (sync0 l).1)]) (fun _=>[(51,.cells 0 [sliN (evA l),.int .i64 0,sliN (marks l (sync0 l).1 (sync0 l).1.length),egsN (sync0 l).2])]) (fun _=>(sync0 l).1.length<=4096) ?_ ⟨Zah _,T,Zah _,by show[List.replicate l.length 0].length<=4096;simp,rfl⟩ ?_ ?_;·refine⟨[(51,.blk 64 0),(52,.blk 74 0),(53,.blk 92 0),(60,.blk 90 0),(70,.nil),(71,.nil)],rfl,au0,?_,au21⟩;exact ZcB rfl rfl gg (ZcH (Zcq (Qae _)) (ZcH (Zcq rfl) (ZcH (Rn.x4 rfl rfl) (ZcH (Rn.x4 rfl rfl) ZcG)))) (ZcB rfl rfl gg (Zcr c) (ZcD rfl rfl gg (ZcQ fun _ _=>⟨rfl,rfl⟩) (ZcB rfl rfl gg (RnL.eq (by simp) (Qaw Qae _)) (ZcC rfl rfl (ZcC rfl rfl ZcA)))))
 ·rintro⟨i,s⟩⟨hi,hp,hel,N,hq⟩;dsimp only at hi hp hel N hq⊢;have hsb:=Qdb hp.nd hp.inT;have hsml:(s.1.map sliN).length=s.1.length:=Zaz ..;by_cases d:i<s.1.length
  ·obtain⟨t,P⟩:=Qap d;have v:=hp.inT t (Zae P);have M:=marked99 l t h (by omega) v.1;have y:=QpG (l:=l) P;have hml5:=@Qlf l s.1 i;have L:=QcB (l:=l) (i:=i) (t:=t) (ev:=evA l) (s:=s);have hpo:=Qei (i:=i) (ev:=evA l) hw v hp;have hpn:=QeL (l:=l) (i:=i) (t:=t) (ev:=evA l) (s:=s);have Q:pQ l (evA l) (box l+1-(i+1)) (i+1) (pRow l (evA l) i t s)=sync0 l:=by rw[<-hq,show box l+1-i=(box l+1-(i+1))+1 by omega];simp only[pQ,P]
   cases hmb:mkdT l t
   ·rw[hmb]at M y;rw[if_neg (by simp)]at y;refine ZcW (Zc1 d (QeM P)) ?_;refine cp M ?_;refine ZcV ?_;have hmk:marks l s.1 (i+1)=marks l s.1 i:=y;refine Qaq 420 (fun j:Nat=>[(2,.ptr 51 0 0),(6,.ptr 52 0 0),(3,.sl 60 0 0 (pRow l ((evA l).take j) i t s).1.length 1),(9,.map 53 0),(10,.int .i64 (i)),(61,sliN (evA l)),(62,.int .i64 (evA l).length),(63,.int .i64 j)]) (fun j=>[(51,.cells 0 [sliN (evA l),.int .i64 0,.sl 70 0 0 (marks l s.1 (i+1)).length 1,.sl 71 0 0 (pRow l ((evA l).take j) i t s).2.length 3]),(52,.cells 0 [auts l,sliN (evA l),.fsl (l.map emV) l.length 1]),(53,.map 0 (mapG keyC (ixV (pRow l ((evA l).take j) i t s).1) (pRow l ((evA l).take j) i t s).1)),(60,.cells 0 ((pRow l ((evA l).take j) i t s).1.map sliN)),(70,.cells 0 (ints (nz (marks l s.1 (i+1))))),(71,.cells 0 ((pRow l ((evA l).take j) i t s).2.flatMap edC))]) (fun j=>j<=(evA l).length/\(pRow l ((evA l).take j) i t s).1.length<=4096) (fun j=>(evA l).length-j) 0 2 700 (fun _:Unit=>[(2,.ptr 51 0 0),(6,.ptr 52 0 0),(3,.sl 60 0 0 (pRow l (evA l) i t s).1.length 1),(9,.map 53 0),(10,.int .i64 (i))]) (fun _=>[(51,.cells 0 [sliN (evA l),.int .i64 0,.sl 70 0 0 (marks l s.1 (i+1)).length 1,.sl 71 0 0 (pRow l (evA l) i t s).2.length 3]),(52,.cells 0 [auts l,sliN (evA l),.fsl (l.map emV) l.length 1]),(53,.map 0 (mapG keyC (ixV (pRow l (evA l) i t s).1) (pRow l (evA l) i t s).1)),(60,.cells 0 ((pRow l (evA l) i t s).1.map sliN)),(70,.cells 0 (ints (nz (marks l s.1 (i+1))))),(71,.cells 0 ((pRow l (evA l) i t s).2.flatMap edC))]) (fun _=>(pRow l (evA l) i t s).1.length<=4096) ?_ ⟨Zah _,N⟩ ?_ ?_;·show Rec _ _ [(51,.cells 0 [sliN (evA l),.int .i64 0,.sl 70 0 0 (marks l s.1 (i+1)).length 1,.sl 71 0 0 s.2.length 3]),(52,.cells 0 [auts l,sliN (evA l),.fsl (l.map emV) l.length 1]),(53,.map 0 (mapG keyC (ixV s.1) s.1)),(60,.cells 0 (s.1.map sliN)),(70,.cells 0 (ints (nz (marks l s.1 (i+1))))),(71,.cells 0 (s.2.flatMap edC))] _ _;rw[hmk];refine⟨[(51,.blk 51 0),(52,.blk 52 0),(53,.blk 53 0),(60,.blk 60 0),(70,.blk 70 0),(71,.blk 71 0)],rfl,au0,?_,au21⟩;exact ZcB rfl rfl gg (ZcH (Zcq (Qae _)) (ZcH (Zcq rfl) (ZcH (Rn.x1 rfl rfl) (ZcH (Rn.x1 rfl rfl) ZcG)))) (ZcB rfl rfl gg (Zcr c) (ZcD rfl rfl gg (ZcQ fun _ _=>⟨rfl,rfl⟩) (ZcB rfl rfl gg (Zcr (Qaw Qae _)) (ZcB rfl rfl gg (Zcr (Qad _)) (ZcB rfl rfl gg (Zcr (Qaf _)) ZcA)))))
    ·rintro j⟨hj,o⟩;by_cases m:j<(evA l).length
     ·obtain⟨e,he⟩:=Qap m;have w:=Qei (i:=i) (ev:=(evA l).take j) hw v hp;have C:=QcB (l:=l) (i:=i) (t:=t) (ev:=(evA l).take j) (s:=s);have Z:=QeL (l:=l) (i:=i) (t:=t) (ev:=(evA l).take j) (s:=s);have Y:=Qgh (l:=l) (ev:=evA l) (i:=i) (k:=j+1) (t:=t) (s:=s);have b:=Qlg (l:=l) (i:=i) (t:=t) (s:=s) he;rw[Zav]at Z;generalize pRow l ((evA l).take j) i t s=u at*;have I:i<u.1.length:=ZaU d C.length_le;have B:u.1[i]?=some t:=by rw[Qhn C d];exact P
      have hub:=Qdb w.nd w.inT;have E:(u.1.map sliN).length=u.1.length:=Zaz ..;have r:(u.2.flatMap edC).length=u.2.length*3:=Qa9 (k:=3) (fun _=>rfl) u.2;have p:=step100 l t e h h0 (by omega) v.1;cases z:stepT l t e with|none=>
       rw[z]at p;have g:pEv l i t u e=u:=by unfold pEv;rw[z]
       rw[g]at b;refine ZcW (Zc3 m I (Qaz he) (QeM B)) ?_;refine cp p ?_;simp(disch:=first|omega|exact PairsOK.mk rfl|(simp only[lenW]<;>omega))only[stV,Qaa,Qab,Qac,wW,wV,simprocAttr];refine⟨j+1,by omega,⟨by omega,by rw[b];exact o⟩,?_⟩;rw[b];refine⟨[(51,.blk 51 0),(52,.blk 52 0),(53,.blk 53 0),(60,.blk 60 0),(70,.blk 70 0),(71,.blk 71 0)],rfl,au0,?_,au21⟩;exact ZcB rfl rfl gg (ZcH (Zcq (Qae _)) (ZcH (Zcq rfl) (ZcH (Rn.x1 rfl rfl) (ZcH (Rn.x1 rfl rfl) ZcG)))) (ZcB rfl rfl gg (Zcr c) (ZcD rfl rfl gg (ZcQ fun _ _=>⟨rfl,rfl⟩) (ZcB rfl rfl gg (Zcr (Qaw Qae _)) (ZcB rfl rfl gg (Zcr (Qad _)) (ZcB rfl rfl gg (Zcr (Qaf _)) ZcA)))))|some n=>
       rw[z]at p;have H:=QfY hw v z;have K:=G n H;have k:=Qg7 h H w.inT;refine ZcW (Zc3 m I (Qaz he) (QeM B)) ?_;refine cp p ?_;simp(disch:=first|omega|exact PairsOK.mk rfl|(simp only[lenW]<;>omega))only[stV,Qaa,Qab,Qac,wW,wV,simprocAttr];refine cp K ?_;refine ZcV ?_;by_cases hm:n∈u.1
       ·have g:pEv l i t u e=(u.1,u.2++[(i,e,ixT u.1 n)]):=by unfold pEv;rw[z];simp only[if_pos hm]
        rw[g]at b;refine QdK (c:=keyC) (f:=ixV u.1) (x:=n) (l:=u.1) (g:=0) gg k hm ?_;simp(disch:=first|omega|exact PairsOK.mk rfl|(simp only[lenW]<;>omega))only[ixV,r,Qaa,Qab,Qac,wW,wV,simprocAttr];refine⟨j+1,by omega,⟨by omega,by rw[b];exact o⟩,?_⟩;rw[b,Zaf,Zaq];refine⟨[(51,.blk 51 0),(52,.blk 52 0),(53,.blk 53 0),(60,.blk 60 0),(70,.blk 70 0),(71,.blk 71 1)],rfl,au0,?_,au21⟩;exact ZcB rfl rfl gg (ZcH (Zcq (Qae _)) (ZcH (Zcq rfl) (ZcH (Rn.x1 rfl rfl) (ZcH (Rn.x1 rfl rfl) ZcG)))) (ZcB rfl rfl gg (Zcr c) (ZcD rfl rfl gg (ZcQ fun _ _=>⟨rfl,rfl⟩) (ZcB rfl rfl gg (Zcr (Qaw Qae _)) (ZcB rfl rfl gg (Zcr (Qad _)) (ZcB rfl rfl gg (Zcr (SU.Qav (Qaf _) rfl)) ZcA)))))
       have g:pEv l i t u e=(u.1++[n],u.2++[(i,e,u.1.length)]):=by unfold pEv;rw[z];simp only[if_neg hm];rw[show u.1.findIdx (·==n)=u.1.length from Qj0 hm]
       rw[g]at b;have U:=QoU hm;by_cases h4:u.1.length=4096
       ·have f:((u.1.length:Nat):Int)=4096:=by omega
        have A:¬(sync0 l).1.length<=4096:=by have q1:=Y.length_le;rw[b,Zaf,Zbk]at q1;have q2:=(Qjk (l:=l) (ev:=evA l) (k:=box l+1-(i+1)) (i:=i+1) (s:=pRow l (evA l) i t s)).length_le;rw[Q]at q2;omega
        rw[J A];refine Qb3 (c:=keyC) (f:=ixV u.1) (x:=n) (l:=u.1) (g:=0) gg k hm ?_;refine ZcW f ?_;exact⟨.inr trivial,_,rfl,Zcq rfl⟩
       have f:¬((u.1.length:Nat):Int)=4096:=by omega
       refine Qb3 (c:=keyC) (f:=ixV u.1) (x:=n) (l:=u.1) (g:=0) gg k hm ?_;refine ZcW f ?_;refine cp K ?_;refine ZcV ?_;refine Qbs (c:=keyC) (f:=ixV u.1) (x:=n) (l:=u.1) (g:=0) gg k hm (by omega) ?_;rw[U];refine Zc0 (Zc5 E r @Qae @Qaa @Qab @Qac) ?_;refine⟨j+1,by omega,⟨by omega,by rw[b,Zaf,Zbk];omega⟩,?_⟩;rw[b,Zaf,Zaf,Zaq,ZaK];refine⟨[(51,.blk 51 0),(52,.blk 52 0),(53,.blk 53 0),(60,.blk 60 1),(70,.blk 70 0),(71,.blk 71 1)],rfl,au0,?_,au21⟩;exact ZcB rfl rfl gg (ZcH (Zcq (Qae _)) (ZcH (Zcq rfl) (ZcH (Rn.x1 rfl rfl) (ZcH (Rn.x1 rfl rfl) ZcG)))) (ZcB rfl rfl gg (Zcr c) (ZcD rfl rfl gg (ZcQ fun _ _=>⟨rfl,rfl⟩) (ZcB rfl rfl gg (Zcr (SU.Qav (Qaw Qae _) (Qaw Qae [n]))) (ZcB rfl rfl gg (Zcr (Qad _)) (ZcB rfl rfl gg (Zcr (SU.Qav (Qaf _) rfl)) ZcA)))))
     have e2:j=(evA l).length:=by omega
     subst e2;rw[Zar]at o;refine ZcY m ?_;refine⟨(),o,?_⟩;refine⟨[(51,.blk 51 0),(52,.blk 52 0),(53,.blk 53 0),(60,.blk 60 0),(70,.blk 70 0),(71,.blk 71 0)],rfl,au0,?_,au21⟩;exact ZcB rfl rfl gg (ZcH (Zcq (Qae _)) (ZcH (Zcq rfl) (ZcH (Rn.x1 rfl rfl) (ZcH (Rn.x1 rfl rfl) ZcG)))) (ZcB rfl rfl gg (Zcr c) (ZcD rfl rfl gg (ZcQ fun _ _=>⟨rfl,rfl⟩) (ZcB rfl rfl gg (Zcr (Qaw Qae _)) (ZcB rfl rfl gg (Zcr (Qad _)) (ZcB rfl rfl gg (Zcr (Qaf _)) ZcA)))))
    rintro _ hR4;refine ZcV ?_;refine⟨(i+1,pRow l (evA l) i t s),by dsimp only;omega,⟨Zaw d L.length_le,hpo,by dsimp only;omega,hR4,Q⟩,?_⟩;dsimp only;rw[Qle L d];refine⟨[(51,.blk 51 0),(52,.blk 52 0),(53,.blk 53 0),(60,.blk 60 0),(70,.blk 70 0),(71,.blk 71 0)],rfl,au0,?_,au21⟩;exact ZcB rfl rfl gg (ZcH (Zcq (Qae _)) (ZcH (Zcq rfl) (ZcH (Rn.x1 rfl rfl) (ZcH (Rn.x1 rfl rfl) ZcG)))) (ZcB rfl rfl gg (Zcr c) (ZcD rfl rfl gg (ZcQ fun _ _=>⟨rfl,rfl⟩) (ZcB rfl rfl gg (Zcr (Qaw Qae _)) (ZcB rfl rfl gg (Zcr (Qad _)) (ZcB rfl rfl gg (Zcr (Qaf _)) ZcA)))))
   rw[hmb]at M y;rw[if_pos rfl]at y;refine ZcW (Zc1 d (QeM P)) ?_;refine cp M ?_;refine ZcV ?_;have hmk:marks l s.1 (i+1)=marks l s.1 i++[i]:=y;refine Qaq 420 (fun j:Nat=>[(2,.ptr 51 0 0),(6,.ptr 52 0 0),(3,.sl 60 0 0 (pRow l ((evA l).take j) i t s).1.length 1),(9,.map 53 0),(10,.int .i64 (i)),(61,sliN (evA l)),(62,.int .i64 (evA l).length),(63,.int .i64 j)]) (fun j=>[(51,.cells 0 [sliN (evA l),.int .i64 0,.sl 70 0 0 (marks l s.1 (i+1)).length 1,.sl 71 0 0 (pRow l ((evA l).take j) i t s).2.length 3]),(52,.cells 0 [auts l,sliN (evA l),.fsl (l.map emV) l.length 1]),(53,.map 0 (mapG keyC (ixV (pRow l ((evA l).take j) i t s).1) (pRow l ((evA l).take j) i t s).1)),(60,.cells 0 ((pRow l ((evA l).take j) i t s).1.map sliN)),(70,.cells 0 (ints (nz (marks l s.1 (i+1))))),(71,.cells 0 ((pRow l ((evA l).take j) i t s).2.flatMap edC))]) (fun j=>j<=(evA l).length/\(pRow l ((evA l).take j) i t s).1.length<=4096) (fun j=>(evA l).length-j) 0 2 700 (fun _:Unit=>[(2,.ptr 51 0 0),(6,.ptr 52 0 0),(3,.sl 60 0 0 (pRow l (evA l) i t s).1.length 1),(9,.map 53 0),(10,.int .i64 (i))]) (fun _=>[(51,.cells 0 [sliN (evA l),.int .i64 0,.sl 70 0 0 (marks l s.1 (i+1)).length 1,.sl 71 0 0 (pRow l (evA l) i t s).2.length 3]),(52,.cells 0 [auts l,sliN (evA l),.fsl (l.map emV) l.length 1]),(53,.map 0 (mapG keyC (ixV (pRow l (evA l) i t s).1) (pRow l (evA l) i t s).1)),(60,.cells 0 ((pRow l (evA l) i t s).1.map sliN)),(70,.cells 0 (ints (nz (marks l s.1 (i+1))))),(71,.cells 0 ((pRow l (evA l) i t s).2.flatMap edC))]) (fun _=>(pRow l (evA l) i t s).1.length<=4096) ?_ ⟨Zah _,N⟩ ?_ ?_;·show Rec _ _ [(51,.cells 0 [sliN (evA l),.int .i64 0,.sl 70 0 0 (marks l s.1 (i+1)).length 1,.sl 71 0 0 s.2.length 3]),(52,.cells 0 [auts l,sliN (evA l),.fsl (l.map emV) l.length 1]),(53,.map 0 (mapG keyC (ixV s.1) s.1)),(60,.cells 0 (s.1.map sliN)),(70,.cells 0 (ints (nz (marks l s.1 (i+1))))),(71,.cells 0 (s.2.flatMap edC))] _ _;rw[hmk,Zaf,QaF,Qay];refine⟨[(51,.blk 51 0),(52,.blk 52 0),(53,.blk 53 0),(60,.blk 60 0),(70,.blk 70 1),(71,.blk 71 0)],rfl,au0,?_,au21⟩;exact ZcB rfl rfl gg (ZcH (Zcq (Qae _)) (ZcH (Zcq rfl) (ZcH (Rn.x1 rfl rfl) (ZcH (Rn.x1 rfl rfl) ZcG)))) (ZcB rfl rfl gg (Zcr c) (ZcD rfl rfl gg (ZcQ fun _ _=>⟨rfl,rfl⟩) (ZcB rfl rfl gg (Zcr (Qaw Qae _)) (ZcB rfl rfl gg (Zcr (SU.Qav (Qad _) rfl)) (ZcB rfl rfl gg (Zcr (Qaf _)) ZcA)))))
   ·rintro j⟨hj,o⟩;by_cases m:j<(evA l).length
    ·obtain⟨e,he⟩:=Qap m;have w:=Qei (i:=i) (ev:=(evA l).take j) hw v hp;have C:=QcB (l:=l) (i:=i) (t:=t) (ev:=(evA l).take j) (s:=s);have Z:=QeL (l:=l) (i:=i) (t:=t) (ev:=(evA l).take j) (s:=s);have Y:=Qgh (l:=l) (ev:=evA l) (i:=i) (k:=j+1) (t:=t) (s:=s);have b:=Qlg (l:=l) (i:=i) (t:=t) (s:=s) he;rw[Zav]at Z;generalize pRow l ((evA l).take j) i t s=u at*;have I:i<u.1.length:=ZaU d C.length_le;have B:u.1[i]?=some t:=by rw[Qhn C d];exact P
     have hub:=Qdb w.nd w.inT;have E:(u.1.map sliN).length=u.1.length:=Zaz ..;have r:(u.2.flatMap edC).length=u.2.length*3:=Qa9 (k:=3) (fun _=>rfl) u.2;have p:=step100 l t e h h0 (by omega) v.1;cases z:stepT l t e with|none=>
      rw[z]at p;have g:pEv l i t u e=u:=by unfold pEv;rw[z]
      rw[g]at b;refine ZcW (Zc3 m I (Qaz he) (QeM B)) ?_;refine cp p ?_;simp(disch:=first|omega|exact PairsOK.mk rfl|(simp only[lenW]<;>omega))only[stV,Qaa,Qab,Qac,wW,wV,simprocAttr];refine⟨j+1,by omega,⟨by omega,by rw[b];exact o⟩,?_⟩;rw[b];refine⟨[(51,.blk 51 0),(52,.blk 52 0),(53,.blk 53 0),(60,.blk 60 0),(70,.blk 70 0),(71,.blk 71 0)],rfl,au0,?_,au21⟩;exact ZcB rfl rfl gg (ZcH (Zcq (Qae _)) (ZcH (Zcq rfl) (ZcH (Rn.x1 rfl rfl) (ZcH (Rn.x1 rfl rfl) ZcG)))) (ZcB rfl rfl gg (Zcr c) (ZcD rfl rfl gg (ZcQ fun _ _=>⟨rfl,rfl⟩) (ZcB rfl rfl gg (Zcr (Qaw Qae _)) (ZcB rfl rfl gg (Zcr (Qad _)) (ZcB rfl rfl gg (Zcr (Qaf _)) ZcA)))))|some n=>
      rw[z]at p;have H:=QfY hw v z;have K:=G n H;have k:=Qg7 h H w.inT;refine ZcW (Zc3 m I (Qaz he) (QeM B)) ?_;refine cp p ?_;simp(disch:=first|omega|exact PairsOK.mk rfl|(simp only[lenW]<;>omega))only[stV,Qaa,Qab,Qac,wW,wV,simprocAttr];refine cp K ?_;refine ZcV ?_;by_cases hm:n∈u.1
      ·have g:pEv l i t u e=(u.1,u.2++[(i,e,ixT u.1 n)]):=by unfold pEv;rw[z];simp only[if_pos hm]
       rw[g]at b;refine QdK (c:=keyC) (f:=ixV u.1) (x:=n) (l:=u.1) (g:=0) gg k hm ?_;simp(disch:=first|omega|exact PairsOK.mk rfl|(simp only[lenW]<;>omega))only[ixV,r,Qaa,Qab,Qac,wW,wV,simprocAttr];refine⟨j+1,by omega,⟨by omega,by rw[b];exact o⟩,?_⟩;rw[b,Zaf,Zaq];refine⟨[(51,.blk 51 0),(52,.blk 52 0),(53,.blk 53 0),(60,.blk 60 0),(70,.blk 70 0),(71,.blk 71 1)],rfl,au0,?_,au21⟩;exact ZcB rfl rfl gg (ZcH (Zcq (Qae _)) (ZcH (Zcq rfl) (ZcH (Rn.x1 rfl rfl) (ZcH (Rn.x1 rfl rfl) ZcG)))) (ZcB rfl rfl gg (Zcr c) (ZcD rfl rfl gg (ZcQ fun _ _=>⟨rfl,rfl⟩) (ZcB rfl rfl gg (Zcr (Qaw Qae _)) (ZcB rfl rfl gg (Zcr (Qad _)) (ZcB rfl rfl gg (Zcr (SU.Qav (Qaf _) rfl)) ZcA)))))
      have g:pEv l i t u e=(u.1++[n],u.2++[(i,e,u.1.length)]):=by unfold pEv;rw[z];simp only[if_neg hm];rw[show u.1.findIdx (·==n)=u.1.length from Qj0 hm]
      rw[g]at b;have U:=QoU hm;by_cases h4:u.1.length=4096
      ·have f:((u.1.length:Nat):Int)=4096:=by omega
       have A:¬(sync0 l).1.length<=4096:=by have q1:=Y.length_le;rw[b,Zaf,Zbk]at q1;have q2:=(Qjk (l:=l) (ev:=evA l) (k:=box l+1-(i+1)) (i:=i+1) (s:=pRow l (evA l) i t s)).length_le;rw[Q]at q2;omega
       rw[J A];refine Qb3 (c:=keyC) (f:=ixV u.1) (x:=n) (l:=u.1) (g:=0) gg k hm ?_;refine ZcW f ?_;exact⟨.inr trivial,_,rfl,Zcq rfl⟩
      have f:¬((u.1.length:Nat):Int)=4096:=by omega
      refine Qb3 (c:=keyC) (f:=ixV u.1) (x:=n) (l:=u.1) (g:=0) gg k hm ?_;refine ZcW f ?_;refine cp K ?_;refine ZcV ?_;refine Qbs (c:=keyC) (f:=ixV u.1) (x:=n) (l:=u.1) (g:=0) gg k hm (by omega) ?_;rw[U];refine Zc0 (Zc5 E r @Qae @Qaa @Qab @Qac) ?_;refine⟨j+1,by omega,⟨by omega,by rw[b,Zaf,Zbk];omega⟩,?_⟩;rw[b,Zaf,Zaf,Zaq,ZaK];refine⟨[(51,.blk 51 0),(52,.blk 52 0),(53,.blk 53 0),(60,.blk 60 1),(70,.blk 70 0),(71,.blk 71 1)],rfl,au0,?_,au21⟩;exact ZcB rfl rfl gg (ZcH (Zcq (Qae _)) (ZcH (Zcq rfl) (ZcH (Rn.x1 rfl rfl) (ZcH (Rn.x1 rfl rfl) ZcG)))) (ZcB rfl rfl gg (Zcr c) (ZcD rfl rfl gg (ZcQ fun _ _=>⟨rfl,rfl⟩) (ZcB rfl rfl gg (Zcr (SU.Qav (Qaw Qae _) (Qaw Qae [n]))) (ZcB rfl rfl gg (Zcr (Qad _)) (ZcB rfl rfl gg (Zcr (SU.Qav (Qaf _) rfl)) ZcA)))))
    have e2:j=(evA l).length:=by omega
    subst e2;rw[Zar]at o;refine ZcY m ?_;refine⟨(),o,?_⟩;refine⟨[(51,.blk 51 0),(52,.blk 52 0),(53,.blk 53 0),(60,.blk 60 0),(70,.blk 70 0),(71,.blk 71 0)],rfl,au0,?_,au21⟩;exact ZcB rfl rfl gg (ZcH (Zcq (Qae _)) (ZcH (Zcq rfl) (ZcH (Rn.x1 rfl rfl) (ZcH (Rn.x1 rfl rfl) ZcG)))) (ZcB rfl rfl gg (Zcr c) (ZcD rfl rfl gg (ZcQ fun _ _=>⟨rfl,rfl⟩) (ZcB rfl rfl gg (Zcr (Qaw Qae _)) (ZcB rfl rfl gg (Zcr (Qad _)) (ZcB rfl rfl gg (Zcr (Qaf _)) ZcA)))))
   rintro _ hR4;refine ZcV ?_;refine⟨(i+1,pRow l (evA l) i t s),by dsimp only;omega,⟨Zaw d L.length_le,hpo,by dsimp only;omega,hR4,Q⟩,?_⟩;dsimp only;rw[Qle L d];refine⟨[(51,.blk 51 0),(52,.blk 52 0),(53,.blk 53 0),(60,.blk 60 0),(70,.blk 70 0),(71,.blk 71 0)],rfl,au0,?_,au21⟩;exact ZcB rfl rfl gg (ZcH (Zcq (Qae _)) (ZcH (Zcq rfl) (ZcH (Rn.x1 rfl rfl) (ZcH (Rn.x1 rfl rfl) ZcG)))) (ZcB rfl rfl gg (Zcr c) (ZcD rfl rfl gg (ZcQ fun _ _=>⟨rfl,rfl⟩) (ZcB rfl rfl gg (Zcr (Qaw Qae _)) (ZcB rfl rfl gg (Zcr (Qad _)) (ZcB rfl rfl gg (Zcr (Qaf _)) ZcA)))))
  have hfin:s=sync0 l:=by rw[<-hq,QtM (ZaD (by omega))]
  have e2:i=s.1.length:=by omega
  subst e2;rw[<-hfin];refine ZcW d ?_;refine⟨(),N,[(51,.blk 51 0)],rfl,Zcx,?_,?_⟩;·exact ZcB rfl rfl gg (ZcH (Zcq (Qae _)) (ZcH (Zcq rfl) (ZcH (ZcI rfl rfl rfl rfl (by simp[ints]) (Zcr (Qad _))) (ZcH (ZcI rfl rfl rfl rfl (Qa9 (k:=3) (fun _=>rfl) _) (Zcr (Qaf _))) ZcG)))) ZcA
  exact Zcz (Rn.x2 rfl rfl) (Zcz (Rn.fz (b:=60) (g:=0) gg rfl rfl (by simp) (Zcr (Qaw Qae _))) Zcy)
 rintro _ hE4;rw[X hE4];refine ZcV ?_;refine⟨.inr trivial,_,rfl,?_⟩;exact Zcq S
theorem sync28(l:List Aut)(h:∀a∈l,WfI a)(i:0<l.length)(g:l.length<=5)(d:∀t,InT l t->Pq 116 [sliN t] (.str (keyT t))):Pq 58 [auts l] (.tup [aV (syncA l),tuV (sync0 l).1,.int .i64 0]):=by have hw:∀a∈l,∀e∈a.es,e.1<a.n/\e.2.2<a.n:=fun a b=>(h a b).wf.esn;have c:∀a∈l,0<a.n:=fun a b=>(h a b).pos;have f:box l<=243:=Zaw (Qq9 (fun a b=>(h a b).n3) (by omega)) (Nat.pow_le_pow_right (n:=3) (by omega) g);have:=sync28J l (fun a b=>(h a b).j) i (by omega) d;unfold synV at this;rwa[if_pos (Zaw (Qm2 c hw) (by omega))]at this
abbrev auL(l:List (Nat×Aut)):List Aut:=l.map (·.2)
theorem Qrp{x:Nat×Aut}:List.flatMap auC (List.map (fun x:Nat×Aut=>x.2) [x])=[sliN x.2.al,.int .i64 (x.2.n:Int),sliN x.2.ms,egsN x.2.es]:=rfl
theorem QaZ{l:List (Nat×Aut)}:(auL l).length=l.length:=Zaz ..
theorem _root_.Go.AM.au23{p:Prop}(h:p:=by repeat(first|exact Zcy|(refine Zcz ?_ ?_;·(first|exact Rn.any|exact Rn.x1 rfl rfl|exact Rn.x2 rfl rfl|exact Rn.x3 rfl rfl|exact Rn.x4 rfl rfl|exact Rn.x5 rfl|exact Rn.x6 rfl|exact Rn.x7 rfl|(refine Rn.slot ?_ ?_;(first|rfl|(rw[ZaS];rfl));(first|rfl|(simp only[noRef,noRefs,Qag,Zad,Zac,Zai,Qad,Qan,Qae,Qai,QaT,Qaf,SU.Qbu];done)))|(refine Rn.fn ?_ ?_<;>(repeat'(first|exact ZcG|refine ZcH ?_ ?_|exact Zcq rfl|exact Rn.x6 rfl|exact Rn.x2 rfl rfl|exact Rn.x5 rfl|exact Rn.x1 rfl rfl))))))):p:=h
theorem automata59{ch:UInt8}(l:List (Nat×Aut))(k:l.length<=1000):Pq 59 [its ch l] (auts (auL l)):=by
 refine Zct 64 TP.ok59 rfl (by rw[noRefs,SU.QaC];rfl) (Qbf _) ?_;have h:=@SU.QaC ch l;unfold TP.s59;refine ZcV ?_;refine Qaq 100 (fun i:Nat=>[(3,.sl 60 0 0 i 4),(6,its ch l),(7,.int .i64 l.length),(8,.int .i64 i)]) (fun i=>[(60,.cells 0 ((auL (l.take i)).flatMap auC))]) (fun i=>i<=l.length) (fun i=>l.length-i) 0 0 160 (fun _:Unit=>[(3,auts (auL l))]) (fun _=>[]) (fun _=>True) ?_ (Zah _) ?_ ?_;·refine⟨[(60,.nil)],rfl,au0,?_,au23⟩;exact ZcC rfl rfl ZcA
 ·rintro i hi;by_cases a:i<l.length
  ·obtain⟨x,g⟩:=Qap a;have b:=SU.Qcq (ch:=ch) g;have c:5<=((l.flatMap (itC ch)).drop (i*5)).length:=by rw[b];simp
   have d:(auL (l.take i)).length=i:=by rw[QaZ,Zav];omega
   have f:((auL (l.take i)).flatMap auC).length=i*4:=by rw[Qg4,d]
   refine Zc0 (Zc8 a b c f @Qae @Qai @Qaa @Qab @Qac) ?_;refine⟨i+1,by omega,by omega,?_⟩;rw[take_succ' g];show Rec _ _ [(60,.cells 0 ((List.map (fun x:Nat×Aut=>x.2) (l.take i++[x])).flatMap auC))] _ _;rw[ZaK,Zaq,Qrp];refine⟨[(60,.blk 60 1)],rfl,au0,?_,au23⟩;exact ZcB rfl rfl gg (Zcr (SU.Qav (QaT _) (QaT [x.2]))) ZcA
  have e:i=l.length:=by omega
  subst e;refine ZcY a ?_;exact⟨(),[],rfl,Zcx,ZcA,Zcz (ZcI (b:=60) (g:=0) gg rfl rfl QaZ (by rw[Qg4,QaZ]) (Zcr (QaT _))) Zcy⟩
 rintro _ _;refine ZcV ?_;exact⟨.inr trivial,_,rfl,Zcq (Qbf _)⟩
theorem Qrq(l:List Aut):noRef (.tup [aV (syncA l),tuV (sync0 l).1,.int .i64 0])=true:=by rw[noRef,noRefs,noRefs,Qa8,noRef,noRefs,noRefs,noRefs,noRefs,Qae,Qae,Qai];rfl
theorem Qa3{c:Cel}(h:WfCel c):∀a∈auL c.cs,WfI a:=fun a b=>by obtain⟨x,d,rfl⟩:=Zan.1 b;exact h.ca x d
theorem QsC{c:Cel}(h:WfCel c)(t:List Nat)(a:InT (auL c.cs) t):Pq 116 [sliN t] (.str (keyT t)):=by have g:=h.c0;have f:=h.c3;have b:=a.1;rw[QaZ]at b;exact key98 (by omega) (by omega) fun x d=>a.lt (Qa3 h) d
theorem QtN(c:Cel)(h:WfCel c):Pq 58 [auts (auL c.cs)] (.tup [aV (syncA (auL c.cs)),tuV (sync0 (auL c.cs)).1,.int .i64 0]):=by have a:=h.c0;have b:=h.c3;exact sync28 (auL c.cs) (Qa3 h) (by rw[QaZ];omega) (by rw[QaZ];omega) (QsC h)
theorem plant17(c:Cel)(h:WfCel c):Pq 16 [celV c] (.tup [aV (syncA (auL c.cs)),tuV (sync0 (auL c.cs)).1,.int .i64 0]):=by have d:=Qa4 c;refine Zct 64 TP.ok16 rfl (by rw[noRefs,SU.QaM];rfl) (Qrq _) ?_;have f:=h.c3;have hc:=check21 c h;have a:=automata59 (ch:=99) c.cs (by omega);have b:=QtN c h;unfold TP.s16;refine ZcV ?_;refine cp hc ?_;refine ZcV ?_;refine cp a ?_;refine ZcV ?_;refine cp b ?_;refine ZcV ?_;exact⟨.inr trivial,_,rfl,Zcq (Qrq _)⟩
theorem Qfr{T:List (List Nat)}{i:Nat}{t:List Nat}(h:T[i]?=some t):((T.map sliN).drop i).head?=some (sliN t):=by rw[Zb7,QeM h]
theorem index195{K:Nat}{cap:List AV}(q:(Nat×Nat)->Bool)(l:List (Nat×Nat))(s:l.length<=1000000)(hc:noRefs cap=true)(hk:∀x∈l,Pq K (.agg [.int .i64 (x.1:Int),.int .i64 (x.2:Int)]::cap) (.bool (q x))):Pq 291 [los l,.fn K [] cap] (.int .i64 (idxQ q l)):=by
 refine Zcu 64 TQ.ok291 rfl (by rw[noRefs,noRefs,Qbc hc,(SU.Qcb _)];rfl) rfl ?_;have c:=Qbc (K:=K) hc;have o:=SU.Qg2 l;unfold TQ.s291;refine ZcV ?_;refine QaL 100 (fun i:Nat=>[(0,los l),(1,.fn K [] cap),(7,.int .i64 l.length),(8,.int .i64 i)]) (fun _=>[]) (fun i=>i<=l.length/\∀(j:Nat)y,j<i->l[j]?=some y->q y=false) (fun i=>l.length-i) 0 ?_ ⟨Zah _,fun j y k=>absurd k (ZaC _)⟩ ?_;·exact⟨[],rfl,Zcx,ZcA,Zcz (Zcq (SU.Qcb _)) (Zcz (Zcq c) (Zcz (Zcq rfl) (Zcz (Zcq rfl) Zcy)))⟩
 rintro i⟨hi,m⟩;by_cases a:i<l.length
 ·obtain⟨x,b⟩:=Qap a;have h:=hk x (Zae b);have d:=QjW b;have f:2<=(List.drop (i*2) (l.flatMap loC)).length:=by rw[Za3,o];omega
  cases g:q x
  ·rw[g]at h;refine Zc0 (Zc6 a d f @Zbc @Qaa @Qab @Qac) ?_;refine⟨_,by simpa using h,?_⟩;refine ZcV ?_;refine⟨i+1,by omega,⟨by omega,fun j y k p=>?_⟩,?_⟩
   ·by_cases e:j=i;·subst e;rw[b]at p;cases p;exact g
    exact m j y (by omega) p
   exact⟨[],rfl,Zcx,ZcA,Zcz (Zcq (SU.Qcb _)) (Zcz (Zcq c) (Zcz (Zcq rfl) (Zcz (Zcq rfl) Zcy)))⟩
  rw[g]at h;refine Zc0 (Zc6 a d f @Zbc @Qaa @Qab @Qac) ?_;refine⟨_,by simpa using h,?_⟩;refine ZcV ?_;refine⟨.inr trivial,_,rfl,?_⟩;rw[QcI b g m];rfl
 refine ZcW a ?_;refine⟨.inr trivial,_,rfl,?_⟩;rw[QbV fun x b=>by obtain⟨j,k,r⟩:=Zbg b;exact m j x (by omega) (by rw[Zal k,r])];rfl
theorem index48{K:Nat}{cap:List AV}(q:Ed->Bool)(l:List Ed)(s:l.length<=1000000)(hc:noRefs cap=true)(hk:∀x∈l,Pq K (.agg [.int .i64 (x.1:Int),.int .i64 (x.2.1:Int),.int .i64 (x.2.2:Int)]::cap) (.bool (q x))):Pq 263 [egsN l,.fn K [] cap] (.int .i64 (idxQ q l)):=by
 refine Zcu 64 TQ.ok263 rfl (by rw[noRefs,noRefs,Qbc hc,(Qai _)];rfl) rfl ?_;have c:=Qbc (K:=K) hc;have o:=(Qa9 (k:=3) (fun _=>rfl) l:(l.flatMap edC).length=l.length*3);unfold TQ.s263;refine ZcV ?_;refine QaL 100 (fun i:Nat=>[(0,egsN l),(1,.fn K [] cap),(7,.int .i64 l.length),(8,.int .i64 i)]) (fun _=>[]) (fun i=>i<=l.length/\∀(j:Nat)y,j<i->l[j]?=some y->q y=false) (fun i=>l.length-i) 0 ?_ ⟨Zah _,fun j y k=>absurd k (ZaC _)⟩ ?_;·exact⟨[],rfl,Zcx,ZcA,Zcz (Zcq (Qai _)) (Zcz (Zcq c) (Zcz (Zcq rfl) (Zcz (Zcq rfl) Zcy)))⟩
 rintro i⟨hi,m⟩;by_cases a:i<l.length
 ·obtain⟨x,b⟩:=Qap a;have h:=hk x (Zae b);have d:=QaJ b;have f:3<=(List.drop (i*3) (l.flatMap edC)).length:=by rw[Za3,o];omega
  cases g:q x
  ·rw[g]at h;refine Zc0 (Zc6 a d f @Zbc @Qaa @Qab @Qac) ?_;refine⟨_,by simpa using h,?_⟩;refine ZcV ?_;refine⟨i+1,by omega,⟨by omega,fun j y k p=>?_⟩,?_⟩
   ·by_cases e:j=i;·subst e;rw[b]at p;cases p;exact g
    exact m j y (by omega) p
   exact⟨[],rfl,Zcx,ZcA,Zcz (Zcq (Qai _)) (Zcz (Zcq c) (Zcz (Zcq rfl) (Zcz (Zcq rfl) Zcy)))⟩
  rw[g]at h;refine Zc0 (Zc6 a d f @Zbc @Qaa @Qab @Qac) ?_;refine⟨_,by simpa using h,?_⟩;refine ZcV ?_;refine⟨.inr trivial,_,rfl,?_⟩;rw[QcI b g m];rfl
 refine ZcW a ?_;refine⟨.inr trivial,_,rfl,?_⟩;rw[QbV fun x b=>by obtain⟨j,k,r⟩:=Zbg b;exact m j x (by omega) (by rw[Zal k,r])];rfl
theorem contains115{K:Nat}{cap:List AV}(q:Nat×Nat->Bool)(l:List (Nat×Nat))(c:l.length<=1000000)(hc:noRefs cap=true)(hk:∀x∈l,Pq K (.agg [.int .i64 (x.1:Int),.int .i64 (x.2:Int)]::cap) (.bool (q x))):Pq 251 [los l,.fn K [] cap] (.bool (l.any q)):=by refine Zcu 64 TQ.ok251 rfl (by rw[noRefs,noRefs,Qbc hc,SU.Qcb];rfl) rfl ?_;have h:=index195 q l c hc hk;have d:=Qbc (K:=K) hc;have b:=@Qhh _ q l;generalize idxQ q l=a at*;unfold TQ.s251;refine ZcV ?_;refine cp h ?_;refine ZcW b ?_;exact⟨.inr trivial,_,rfl,rfl⟩
theorem other234(t:List Nat)(c s y:Nat)(a:t[c]?=some y):Pq 252 [.agg [.int .i64 (c:Int),.int .i64 (s:Int)],.fptr [sliN t]] (.bool (!decide (y=s))):=by refine Zcu 64 TQ.ok252 rfl (by simp only[noRefs,noRef,Qad];rfl) rfl ?_;have hc:c<t.length:=(Zag.1 a).1;have b:decide ((y:Int)=(s:Int))=decide (y=s):=decide_eq_decide.2 (by omega);unfold TQ.s252;refine ZcW (Zc2 (Qaz a) hc b) ?_;exact⟨.inr trivial,_,rfl,rfl⟩
def exQ(t:List Nat)(x:Nat×List (Nat×Nat)):Bool:=!x.2.any fun l=>!decide (t.getD l.1 0=l.2)
theorem excl233(t:List Nat)(x:Nat×List (Nat×Nat))(g:x.2.length<=1000)(d:∀l∈x.2,l.1<t.length):Pq 250 [sliN t,.fptr (exC x)] (.bool (exQ t x)):=by
 have a:noRefs (exC x)=true:=by simp only[exC,noRefs,noRef,SU.Qbo];rfl
 refine Zcu 64 TQ.ok250 rfl (by rw[noRefs,noRefs,Qae,noRef,a];rfl) rfl ?_;have f:=contains115 (K:=252) (cap:=[.fptr [sliN t]]) (fun l=>!decide (t.getD l.1 0=l.2)) x.2 (by omega) (by simp only[noRefs,noRef,Qad];rfl) fun l hm=>by obtain⟨y,c⟩:=Qap (d l hm);have:=other234 t l.1 l.2 y c;rwa[show t.getD l.1 0=y by rw[Zak,c];rfl]
 show wS _ _ _ _ _ (argT 0 [sliN t,.fptr [.str [101,UInt8.ofNat (48+x.1)],los x.2]]) _ _;unfold exQ;generalize x.2.any (fun l=>!decide (t.getD l.1 0=l.2))=b at*;unfold TQ.s250;refine ZcV ?_;refine SU.chc (ZcL (ZcO (Zcv _) (ZcO (FrzTo.fn ZcN (ZcO (ZcK (g:=0) (cs:=[sliN t]) gg (Zcw _)) ZcN)) ZcN)) f rfl) ?_;refine ZcV ?_;exact⟨.inr trivial,_,rfl,rfl⟩
def koV(t:List Nat)(l:List (Nat×Int)):Int:=(l.map fun x=>x.2*(t.getD x.1 0:Int)).foldl (·+·) 0
theorem Qm9{t:List Nat}{l:List (Nat×Int)}{i:Nat}{x:Nat×Int}(h:l[i]?=some x):koV t (l.take (i+1))=koV t (l.take i)+x.2*(t.getD x.1 0:Int):=by unfold koV;rw[take_succ' h,ZaK,Za4];rfl
theorem Qlh{a b:Int}(h:-4<a/\a<4)(c:0<=b/\b<3):-12<=a*b/\a*b<=12:=by
 obtain rfl|rfl|rfl:b=0\/b=1\/b=2:=by omega
 ·omega
 ·omega
 omega
theorem Qli{t:List Nat}(b:∀x∈t,x<3){l:List (Nat×Int)}(c:∀x∈l,-4<x.2/\x.2<4):∀i,i<=l.length->-12*(i:Int)<=koV t (l.take i)/\koV t (l.take i)<=12*(i:Int)
 |0,_=>by simp[koV]|i+1,hi=>by
  obtain⟨x,a⟩:=Qap (l:=l) (i:=i) (by omega);rw[Qm9 a];have h1:=Qli b c i (by omega);have d:(0:Int)<=(t.getD x.1 0:Int)/\(t.getD x.1 0:Int)<3:=by
   refine⟨by omega,?_⟩;rcases ZbE x.1 t.length with h|h;·have :=b (t.getD x.1 0) (by rw[Zak,Zal h];exact List.getElem_mem h);omega
   rw[Zak,ZaD h];decide
  have f:=Qlh (c x (Zae a)) d;omega
theorem _root_.Go.AM.au24{p:Prop}(h:p:=by repeat'(first|exact ZcA|(refine Zcr ?_;first|rfl|(simp only[noRef,noRefs,Qag,Zad,Zac,Zai,Qad,Qan,Qae,SU.Qbo,SU.QaO,SU.Qbu,SU.Qbi,SU.QcZ];done))|exact ZcM rfl|exact ZcG|exact(True.intro:RnM _ _ _ [] [])|refine ZcH ?_ ?_|(refine Zcq ?_;first|rfl|(simp only[noRef,noRefs,Qag,Zad,Zac,Zai,Qad,Qan,Qae,SU.Qbo,SU.QaO,SU.Qbu,SU.Qbi,SU.QcZ];done))|exact Rn.x1 rfl rfl|exact Rn.x2 rfl rfl|exact Rn.x3 rfl rfl|exact Rn.x4 rfl rfl|exact Rn.x5 rfl|exact Rn.x6 rfl|exact Rn.x7 rfl|refine ZcC rfl rfl ?_|refine ZcB rfl rfl rfl ?_ ?_|refine ZcD rfl rfl rfl ?_ ?_|refine ZcE rfl rfl ?_ ?_|refine ZcF rfl rfl ?_ ?_)):p:=h
theorem value236(t:List Nat)(k:List (Nat×Int)×Int)(hk:k.1.length<=1000)(q:∀x∈t,x<3)(hc:∀x∈k.1,x.1<t.length/\-4<x.2/\x.2<4):Pq 254 [.agg (coC k),sliN t] (.int .i64 (koV t k.1)):=by
 have m:noRefs (coC k)=true:=by simp only[coC,noRefs,noRef,SU.QaO];rfl
 refine Zcu 64 TQ.ok254 rfl (by rw[noRefs,noRefs,Qae,noRef,m];rfl) rfl ?_;have r:=SU.Qdc k.1;have l:=Qli q fun x c=>(hc x c).2;show wS _ _ _ _ _ (argT 0 [.agg [.str [107],tes k.1,.int .i64 k.2],sliN t]) _ _;unfold TQ.s254;refine ZcV ?_;refine Qaq 100 (fun i:Nat=>[(1,sliN t),(5,.int .i64 (koV t (k.1.take i))),(9,tes k.1),(10,.int .i64 k.1.length),(11,.int .i64 i)]) (fun _=>[]) (fun i=>i<=k.1.length) (fun i=>k.1.length-i) 0 0 160 (fun _:Unit=>[(5,.int .i64 (koV t k.1))]) (fun _=>[]) (fun _=>True) ?_ (Zah _) ?_ ?_;·exact⟨[],rfl,Zcx,ZcA,Zcz (Zcq (Qae _)) (Zcz (Zcq rfl) (Zcz (Zcq (SU.QcC _)) au18))⟩
 ·rintro i hi;by_cases a:i<k.1.length
  ·obtain⟨x,c⟩:=Qap a;obtain⟨h1,v⟩:=hc x (Zae c);obtain⟨y,h⟩:=Qap h1;have s:=q y (Zae h);have p:t.getD x.1 0=y:=by rw[Zak,h];rfl
   have d:=SU.Qdy c;have g:2<=((k.1.flatMap teC).drop (i*2)).length:=by rw[d];simp
   have b:=Qm9 (t:=t) c;rw[p]at b;have hp:=Qlh v (b:=(y:Int)) ⟨by omega,by omega⟩;have u:=l i hi;have o:wr .i64 (x.2*(y:Int))=x.2*(y:Int):=QgB (by omega) (by omega);have f:wr .i64 (koV t (k.1.take i)+x.2*(y:Int))=koV t (k.1.take i)+x.2*(y:Int):=QgB (by omega) (by omega);refine ZcW (Zc6 a d g h1 (Qaz h) o f) ?_;refine⟨i+1,by omega,by omega,?_⟩;rw[b];exact⟨[],rfl,Zcx,ZcA,Zcz (Zcq (Qae _)) (Zcz (Zcq rfl) (Zcz (Zcq (SU.QcC _)) au18))⟩
  have e:i=k.1.length:=by omega
  subst e;refine ZcY a ?_;exact⟨(),⟨[],rfl,au0,au24,au18⟩⟩
 rintro _ _;refine ZcV ?_;exact⟨.inr trivial,_,rfl,rfl⟩
def koQ(t:List Nat)(k:List (Nat×Int)×Int):Bool:=decide (k.2<koV t k.1)
theorem excd235(t:List Nat)(k:List (Nat×Int)×Int)(hk:k.1.length<=1000)(c:∀x∈t,x<3)(hc:∀x∈k.1,x.1<t.length/\-4<x.2/\x.2<4):Pq 253 [sliN t,.fptr (coC k)] (.bool (koQ t k)):=by
 have a:noRefs (coC k)=true:=by simp only[coC,noRefs,noRef,SU.QaO];rfl
 refine Zcu 64 TQ.ok253 rfl (by rw[noRefs,noRefs,Qae,noRef,a];rfl) rfl ?_;have b:=value236 t k hk c hc;show wS _ _ _ _ _ (argT 0 [sliN t,.fptr [.str [107],tes k.1,.int .i64 k.2]]) _ _;unfold koQ;unfold TQ.s253;refine ZcV ?_;refine cp b ?_;refine ZcV ?_;exact⟨.inr trivial,_,rfl,rfl⟩
def cdF:(Nat×List (Nat×Nat))⊕(List (Nat×Int)×Int)->AV|.inl x=>.fn 250 [] [.fptr (exC x)]|.inr k=>.fn 253 [] [.fptr (coC k)]
def cdQ(t:List Nat):(Nat×List (Nat×Nat))⊕(List (Nat×Int)×Int)->Bool|.inl x=>exQ t x|.inr k=>koQ t k
def cdA(xs:List (Nat×List (Nat×Nat)))(ks:List (List (Nat×Int)×Int)):List ((Nat×List (Nat×Nat))⊕(List (Nat×Int)×Int)):=xs.map .inl++ks.map .inr
abbrev cdL(l:List ((Nat×List (Nat×Nat))⊕(List (Nat×Int)×Int))):AV:=.fsl (l.map cdF) l.length 1
theorem QbA(x:(Nat×List (Nat×Nat))⊕(List (Nat×Int)×Int)):noRef (cdF x)=true:=by cases x with|inl x=>simp only[cdF,exC,noRef,noRefs,SU.Qbo];rfl|inr k=>simp only[cdF,coC,noRef,noRefs,SU.QaO];rfl
theorem Qc1(l:List ((Nat×List (Nat×Nat))⊕(List (Nat×Int)×Int))):noRef (cdL l)=true:=by rw[cdL,noRef];exact Qaw QbA _
theorem QtO{l:List ((Nat×List (Nat×Nat))⊕(List (Nat×Int)×Int))}{i:Nat}{x:(Nat×List (Nat×Nat))⊕(List (Nat×Int)×Int)}(h:l[i]?=some x):((l.map cdF).drop i).head?=some (cdF x):=by rw[Zb7,ZaB,h];rfl
theorem index203{K:Nat}{cap:List AV}(q:((Nat×List (Nat×Nat))⊕(List (Nat×Int)×Int))->Bool)(l:List ((Nat×List (Nat×Nat))⊕(List (Nat×Int)×Int)))(s:l.length<=1000000)(hc:noRefs cap=true)(hk:∀x∈l,Pq K (cdF x::cap) (.bool (q x))):Pq 200 [cdL l,.fn K [] cap] (.int .i64 (idxQ q l)):=by
 refine Zcu 64 TQ.ok200 rfl (by rw[noRefs,noRefs,Qbc hc,(Qc1 _)];rfl) rfl ?_;have c:=Qbc (K:=K) hc;have o:=(show(l.map cdF).length=l.length*1 by simp);unfold TQ.s200;refine ZcV ?_;refine QaL 100 (fun i:Nat=>[(0,cdL l),(1,.fn K [] cap),(7,.int .i64 l.length),(8,.int .i64 i)]) (fun _=>[]) (fun i=>i<=l.length/\∀(j:Nat)y,j<i->l[j]?=some y->q y=false) (fun i=>l.length-i) 0 ?_ ⟨Zah _,fun j y k=>absurd k (ZaC _)⟩ ?_;·exact⟨[],rfl,Zcx,ZcA,Zcz (Zcq (Qc1 _)) (Zcz (Zcq c) (Zcz (Zcq rfl) (Zcz (Zcq rfl) Zcy)))⟩
 rintro i⟨hi,m⟩;by_cases a:i<l.length
 ·obtain⟨x,b⟩:=Qap a;have h:=hk x (Zae b);have d:=QtO b;have f:1<=(List.drop (i*1) (l.map cdF)).length:=by rw[Za3,o];omega
  cases g:q x
  ·rw[g]at h;refine Zc0 (Zc6 a d f @Zbc @Qaa @Qab @Qac) ?_;refine⟨_,by simpa using h,?_⟩;refine ZcV ?_;refine⟨i+1,by omega,⟨by omega,fun j y k p=>?_⟩,?_⟩
   ·by_cases e:j=i;·subst e;rw[b]at p;cases p;exact g
    exact m j y (by omega) p
   exact⟨[],rfl,Zcx,ZcA,Zcz (Zcq (Qc1 _)) (Zcz (Zcq c) (Zcz (Zcq rfl) (Zcz (Zcq rfl) Zcy)))⟩
  rw[g]at h;refine Zc0 (Zc6 a d f @Zbc @Qaa @Qab @Qac) ?_;refine⟨_,by simpa using h,?_⟩;refine ZcV ?_;refine⟨.inr trivial,_,rfl,?_⟩;rw[QcI b g m];rfl
 refine ZcW a ?_;refine⟨.inr trivial,_,rfl,?_⟩;rw[QbV fun x b=>by obtain⟨j,k,r⟩:=Zbg b;exact m j x (by omega) (by rw[Zal k,r])];rfl
end Go.AM.SO
namespace Go.AM.SO
open Go.Proofs Go.AM.SD Go.AM.SE
structure TOk(S:List Nat)(t:List Nat)(xs:List (Nat×List (Nat×Nat)))(ks:List (List (Nat×Int)×Int)):Prop where
 ln:t.length=S.length
 l3:t.length<=1000
 t3:∀k∈ks,∀x∈t,x<3
 lt:∀(i:Nat)x n,t[i]?=some x->S[i]?=some n->x<n
 xl:∀x∈xs,x.2.length<=1000/\∀l∈x.2,l.1<t.length
 kl:∀k∈ks,k.1.length<=1000/\∀x∈k.1,x.1<t.length/\-4<x.2/\x.2<4
 xn:xs.length<=1000
 kn:ks.length<=1000
variable{S t:List Nat}{xs:List (Nat×List (Nat×Nat))}{ks:List (List (Nat×Int)×Int)}
theorem call204(h:TOk S t xs ks){x:(Nat×List (Nat×Nat))⊕(List (Nat×Int)×Int)}(a:x∈cdA xs ks):Pq 201 [cdF x,.fptr [sliN t]] (.bool (cdQ t x)):=by
 refine Zcu 64 TQ.ok201 rfl (by rw[noRefs,QbA,noRefs];simp only[noRefs,noRef,Qad];rfl) rfl ?_;unfold cdA at a;rcases ZaE.1 a with a|a;·obtain⟨y,b,rfl⟩:=Zan.1 a;have hc:=excl233 t y (h.xl y b).1 (h.xl y b).2;simp(disch:=first|omega|exact PairsOK.mk rfl|(simp only[lenW]<;>omega))only[TQ.s201,cdF,Qaa,Qab,Qac,wW,wV,simprocAttr];refine⟨_,by simpa using hc,?_⟩;refine ZcV ?_;exact⟨.inr trivial,_,rfl,rfl⟩
 obtain⟨y,b,rfl⟩:=Zan.1 a;have hc:=excd235 t y (h.kl y b).1 (h.t3 y b) (h.kl y b).2;simp(disch:=first|omega|exact PairsOK.mk rfl|(simp only[lenW]<;>omega))only[TQ.s201,cdF,Qaa,Qab,Qac,wW,wV,simprocAttr];refine⟨_,by simpa using hc,?_⟩;refine ZcV ?_;exact⟨.inr trivial,_,rfl,rfl⟩
theorem Qek:(cdA xs ks).length=xs.length+ks.length:=by simp[cdA]
theorem violated158(h:TOk S t xs ks):Pq 121 [cdL (cdA xs ks),sliN t] (.int .i64 (idxQ (cdQ t) (cdA xs ks))):=by have a:=Qc1 (cdA xs ks);refine Zcu 64 TQ.ok121 rfl (by rw[noRefs,a,noRefs,Qae];rfl) rfl ?_;have b:=index203 (K:=201) (cap:=[.fptr [sliN t]]) (cdQ t) (cdA xs ks) (by rw[Qek];have:=h.xn;have:=h.kn;omega) (by simp only[noRefs,noRef,Qad];rfl) fun x c=>call204 h c;generalize cdA xs ks=l at*;unfold TQ.s121;refine ZcV ?_;refine SU.chc (ZcL (ZcO (Zcv _) (ZcO (FrzTo.fn ZcN (ZcO (ZcK (g:=0) (cs:=[sliN t]) gg (Zcw _)) ZcN)) ZcN)) b rfl) ?_;refine ZcV ?_;exact⟨.inr trivial,_,rfl,rfl⟩
theorem mk205(x:Nat×List (Nat×Nat)):Pq 202 [.agg (exC x)] (cdF (.inl x)):=by
 have a:noRefs (exC x)=true:=by simp only[exC,noRefs,noRef,SU.Qbo];rfl
 refine Zct 64 TQ.ok202 rfl (by rw[noRefs,noRef,a];rfl) (QbA _) ?_;show wS _ _ _ _ _ (argT 0 [.agg [.str [101,UInt8.ofNat (48+x.1)],los x.2]]) _ _;unfold TQ.s202;refine ZcV ?_;refine⟨.inr trivial,_,rfl,?_⟩;exact Rn.fn ZcG (ZcH (Rn.frzp (b:=64) (g:=0) rfl (Zah _) (fun c b _ e=>by simp[π0]at e) (by simp) (Zcr a)) ZcG)
theorem mk206(k:List (Nat×Int)×Int):Pq 203 [.agg (coC k)] (cdF (.inr k)):=by
 have a:noRefs (coC k)=true:=by simp only[coC,noRefs,noRef,SU.QaO];rfl
 refine Zct 64 TQ.ok203 rfl (by rw[noRefs,noRef,a];rfl) (QbA _) ?_;show wS _ _ _ _ _ (argT 0 [.agg [.str [107],tes k.1,.int .i64 k.2]]) _ _;unfold TQ.s203;refine ZcV ?_;refine⟨.inr trivial,_,rfl,?_⟩;exact Rn.fn ZcG (ZcH (Rn.frzp (b:=64) (g:=0) rfl (Zah _) (fun c b _ e=>by simp[π0]at e) (by simp) (Zcr a)) ZcG)
theorem Qlj(x:(Nat×List (Nat×Nat))⊕(List (Nat×Int)×Int)):(cdF x).cells=[cdF x]:=by cases x<;>rfl
theorem QoV(x:(Nat×List (Nat×Nat))⊕(List (Nat×Int)×Int)):(cdF x).one=true:=by cases x<;>rfl
theorem QoW(x:(Nat×List (Nat×Nat))⊕(List (Nat×Int)×Int)):(cdF x).boxable=true:=by cases x<;>rfl
theorem conds159(m:xs.length<=1000)(hk:ks.length<=1000):Pq 122 [cdV S xs ks] (cdL (cdA xs ks)):=by
 have b:=@QbU S xs ks;refine Zct 64 TQ.ok122 rfl (by rw[noRefs,noRef,b];rfl) (Qc1 _) ?_;have p:=SU.QeJ xs;have o:=Qg3 ks;show wS _ _ _ _ _ (argT 0 [.agg [sliN S,exs xs,cos ks]]) _ _;unfold TQ.s122;refine ZcV ?_;refine Qaq 100 (fun i:Nat=>[(1,.ptr 51 0 0),(3,.sl 60 0 0 i 1),(9,exs xs),(10,.int .i64 xs.length),(11,.int .i64 i)]) (fun i=>[(51,.cells 0 [sliN S,exs xs,cos ks]),(60,.cells 0 ((cdA (xs.take i) []).map cdF))]) (fun i=>i<=xs.length) (fun i=>xs.length-i) 0 0 160 (fun _:Unit=>[(1,.ptr 51 0 0),(3,.sl 60 0 0 xs.length 1)]) (fun _=>[(51,.cells 0 [sliN S,exs xs,cos ks]),(60,.cells 0 ((cdA xs []).map cdF))]) (fun _=>True) ⟨[(51,.blk 64 0),(60,.nil)],rfl,au0,?_,au18⟩ (Zah _) ?_ ?_;·exact ZcB rfl rfl gg (Zcr b) (ZcC rfl rfl ZcA)
 ·rintro i hi;by_cases a:i<xs.length
  ·obtain⟨x,m⟩:=Qap a;have d:=QjX m;have g:2<=((xs.flatMap exC).drop (i*2)).length:=by rw[d];simp
   have h:((cdA (xs.take i) []).map cdF).length=i:=by rw[Zaz,Qek,Zav];simp;omega
   have hm:=mk205 x;have hc:=Qlj (.inl x);have ho:=QoV (.inl x);have l:=QoW (.inl x);have f:(cdA (xs.take (i+1)) []).map cdF=(cdA (xs.take i) []).map cdF++[cdF (.inl x)]:=by rw[take_succ' m];simp[cdA]
   have c:=QbA (.inl x);generalize cdF (.inl x)=F at*;refine ZcW (Zc2 a d g) ?_;refine cp hm ?_;refine ZcW (Zc4 hc ho l h c) ?_;refine⟨i+1,by omega,by omega,?_⟩;rw[f];refine⟨[(51,.blk 51 0),(60,.blk 60 1)],rfl,au0,?_,au18⟩;exact ZcB rfl rfl gg (Zcr b) (ZcB rfl rfl gg (Zcr (SU.Qav (Qaw QbA _) (by rw[noRefs,c];rfl))) ZcA)
  have e:i=xs.length:=by omega
  subst e;refine ZcY a ?_;refine⟨(),?_⟩;refine⟨[(51,.blk 51 0),(60,.blk 60 0)],rfl,au0,?_,au18⟩;exact ZcB rfl rfl gg (Zcr b) (ZcB rfl rfl gg (Zcr (Qaw QbA _)) ZcA)
 rintro _ _;refine ZcV ?_;refine Qaq 200 (fun i:Nat=>[(3,.sl 60 0 0 (xs.length+i) 1),(22,cos ks),(23,.int .i64 ks.length),(24,.int .i64 i)]) (fun i=>[(60,.cells 0 ((cdA xs (ks.take i)).map cdF))]) (fun i=>i<=ks.length) (fun i=>ks.length-i) 0 2 260 (fun _:Unit=>[(3,cdL (cdA xs ks))]) (fun _=>[]) (fun _=>True) ⟨[(60,.blk 60 0)],rfl,au0,?_,au18⟩ (Zah _) ?_ ?_;·exact ZcB rfl rfl gg (Zcr (Qaw QbA _)) ZcA
 ·rintro i hi;by_cases a:i<ks.length
  ·obtain⟨k,hk⟩:=Qap a;have d:=QjY hk;have g:3<=((ks.flatMap coC).drop (i*3)).length:=by rw[d];simp
   have h:((cdA xs (ks.take i)).map cdF).length=xs.length+i:=by rw[Zaz,Qek,Zav];omega
   have hm:=mk206 k;have hc:=Qlj (.inr k);have ho:=QoV (.inr k);have l:=QoW (.inr k);have f:(cdA xs (ks.take (i+1))).map cdF=(cdA xs (ks.take i)).map cdF++[cdF (.inr k)]:=by rw[take_succ' hk];simp[cdA]
   have c:=QbA (.inr k);generalize cdF (.inr k)=F at*;refine ZcW (Zc2 a d g) ?_;refine cp hm ?_;refine ZcW (Zc4 hc ho l h c) ?_;refine⟨i+1,by omega,by omega,?_⟩;rw[f];refine⟨[(60,.blk 60 1)],rfl,au0,?_,au18⟩;exact ZcB rfl rfl gg (Zcr (SU.Qav (Qaw QbA _) (by rw[noRefs,c];rfl))) ZcA
  have e:i=ks.length:=by omega
  subst e;refine ZcY a ?_;exact⟨(),[],rfl,Zcx,ZcA,Zcz (ZcI (b:=60) (g:=0) gg rfl rfl Qek (by rw[Zaz,Qek];simp) (Zcr (Qaw QbA _))) Zcy⟩
 rintro _ _;refine ZcV ?_;exact⟨.inr trivial,_,rfl,Zcq (Qc1 _)⟩
end Go.AM.SO
namespace Go.AM.SO
open Go.Proofs Go.AM.SD Go.AM.SE
variable{S t:List Nat}{xs:List (Nat×List (Nat×Nat))}{ks:List (List (Nat×Int)×Int)}
theorem checkT202(h:TOk S t xs ks):Pq 199 [cdV S xs ks,sliN t] (.int .i64 0):=by
 have a:=@QbU S xs ks;refine Zcu 64 TQ.ok199 rfl (by rw[noRefs,noRef,a,noRefs,Qae];rfl) rfl ?_;have l:=h.l3;have c:(t.length=S.length)=True:=eq_true h.ln;have f:((t.length:Int)=(S.length:Int))=True:=eq_true (by rw[h.ln]);show wS _ _ _ _ _ (argT 0 [.agg [sliN S,exs xs,cos ks],sliN t]) _ _;unfold TQ.s199;refine ZcW (Zc1 c f) ?_;refine Qaq 100 (fun i:Nat=>[(2,.ptr 51 0 0),(13,sliN t),(14,.int .i64 t.length),(15,.int .i64 i)]) (fun _=>[(51,.cells 0 [sliN S,exs xs,cos ks])]) (fun i=>i<=t.length) (fun i=>t.length-i) 0 0 160 (fun _:Unit=>[]) (fun _=>[]) (fun _=>True) ?_ (Zah _) ?_ ?_;·refine⟨[(51,.blk 64 0)],rfl,au0,?_,au18⟩;exact ZcB rfl rfl gg (Zcr a) ZcA
 ·rintro i hi;by_cases b:i<t.length
  ·obtain⟨x,g⟩:=Qap b;obtain⟨n,k⟩:=Qap (l:=S) (i:=i) (by rw[<-h.ln];exact b);have d:i<S.length:=by rw[<-h.ln];exact b
   have m:=h.lt i x n g k;have g1:¬(x:Int)<0:=by omega
   have g2:¬(n:Int)<=(x:Int):=by omega
   refine ZcW (Zc5 b d (Qaz g) (Qaz k) g1 g2) ?_;refine⟨i+1,by omega,by omega,?_⟩;refine⟨[(51,.blk 51 0)],rfl,au0,?_,au18⟩;exact ZcB rfl rfl gg (Zcr a) ZcA
  refine ZcW b ?_;exact⟨(),⟨[],rfl,au0,au24,au18⟩⟩
 rintro _ _;refine ZcV ?_;exact⟨.inr trivial,_,rfl,rfl⟩
theorem Qrr{c:Cel}(h:WfCel c){t:List Nat}(m:InT (auL c.cs) t):TOk (szs c) t c.xs c.ks:=by
 have f:t.length=c.cs.length:=by rw[m.1,QaZ]
 have r:=h.c3;have a:=h.x2;have hk:=h.k1;refine⟨by rw[f,h.slen],by omega,fun _ _ x a=>m.lt (Qa3 h) a,fun i x n hi d=>?_,fun x a=>⟨by have:=h.xlen a;omega,fun l o=>?_⟩,fun k hk=>⟨by have:=h.klen hk;omega,fun x a=>?_⟩,by omega,by omega⟩
 ·have g:i<c.cs.length:=by rw[<-f];exact(Zag.1 hi).1
  obtain⟨y,b⟩:=Qap g;have h1:=m.2 i y.2 (by rw[ZaB,b];rfl);rw[Zak,hi]at h1;unfold szs at d;rw[ZaB,b]at d;simp only[ZbC,Zab]at d;subst d;simpa using h1
 ·obtain⟨y,b,_⟩:=(h.xl x a).2.2 l o;rw[f];exact(Zag.1 b).1
 obtain⟨h1,_,q,p⟩:=(h.kl k hk).2.2.1 x a;exact⟨by rw[f];exact h1,q,p⟩
theorem checkT157(c:Cel)(h:WfCel c){t:List Nat}(d:InT (auL c.cs) t):Pq 120 [cdV (szs c) c.xs c.ks,sliN t] (.int .i64 0):=by have a:=@QbU (szs c) c.xs c.ks;refine Zcu 64 TQ.ok120 rfl (by rw[noRefs,noRef,a,noRefs,Qae];rfl) rfl ?_;have h1:=conds32 c h;have b:=checkT202 (Qrr h d);show wS _ _ _ _ _ (argT 0 [.agg [sliN (szs c),exs c.xs,cos c.ks],sliN t]) _ _;unfold TQ.s120;refine ZcV ?_;refine cp h1 ?_;refine ZcV ?_;refine cp b ?_;refine ZcV ?_;exact⟨.inr trivial,_,rfl,rfl⟩
theorem QdB{α:Type}{q:α->Bool}{A:List α}:-1<=idxQ q A/\(0<=idxQ q A->idxQ q A<A.length):=by
 unfold idxQ;by_cases a:A.any q=true;·rw[if_pos a];have:A.findIdx q<A.length:=Zbn (by simpa using a);exact⟨by omega,fun _=>by omega⟩
 rw[if_neg a];exact⟨by omega,fun h=>by omega⟩
def vioV(t:List Nat)(xs:List (Nat×List (Nat×Nat)))(ks:List (List (Nat×Int)×Int)):Int×Int×Bool:=if idxQ (cdQ t) (cdA xs ks)<0 then(0,0,false)else if idxQ (cdQ t) (cdA xs ks)<xs.length then(1,idxQ (cdQ t) (cdA xs ks),true)else(2,idxQ (cdQ t) (cdA xs ks)-xs.length,true)
theorem violated73(c:Cel)(h:WfCel c){t:List Nat}(g:InT (auL c.cs) t):Pq 63 [cdV (szs c) c.xs c.ks,sliN t] (.tup [.int .i64 (vioV t c.xs c.ks).1,.int .i64 (vioV t c.xs c.ks).2.1,.bool (vioV t c.xs c.ks).2.2,.int .i64 0]):=by
 have b:=@QbU (szs c) c.xs c.ks;refine Zcu 64 TQ.ok63 rfl (by rw[noRefs,noRef,b,noRefs,Qae];rfl) rfl ?_;have h1:=checkT157 c h g;have ho:=Qrr h g;have i:=conds159 (S:=szs c) ho.xn ho.kn;have m:=violated158 ho;have hle:=@QdB _ (cdQ t) (cdA c.xs c.ks);have k:=h.x2;have l:=h.k1;rw[Qek]at hle;unfold vioV;generalize idxQ (cdQ t) (cdA c.xs c.ks)=a at*;show wS _ _ _ _ _ (argT 0 [.agg [sliN (szs c),exs c.xs,cos c.ks],sliN t]) _ _;unfold TQ.s63;refine ZcV ?_;refine cp h1 ?_;refine ZcV ?_;refine cp i ?_;refine ZcV ?_;refine cp m ?_;by_cases d:a<0;·refine ZcW d ?_;exact⟨.inr trivial,_,rfl,rfl⟩
 by_cases f:a<c.xs.length;·refine ZcW (Zc1 d f) ?_;exact⟨.inr trivial,_,rfl,rfl⟩
 have hw:wr .i64 (a-(c.xs.length:Int))=a-(c.xs.length:Int):=QgB (by omega) (by omega);refine ZcW (Zc2 d f hw) ?_;exact⟨.inr trivial,_,rfl,rfl⟩
end Go.AM.SO
namespace Go.AM.TR
open Go.Proofs
set_option maxHeartbeats 4000000
noncomputable section
def cf:YA.Cf:={most:=.pure,always:=[58,59].map fun k=>(k,.heap)}
def s60:SFn:=by
 refine(?f:YA.Yt Tryz.prog cf 60 [[0,2,3],[8,9,10],[5],[12,13,14,15,11,16,17,18,19,20,21,22],[23],[1,4,5,24,25],[2,3,24,27,28,29,30,31,32,33,34,35,36,26,37,38,39,40,41,42,43],[44],[1,4,5,45,46],[2,3,1,5,45,47,48,49,50,51,52,53,54,55],[56,57,58],[],[62,63,64,65],[6,7,66,67,68,69,70,71,72],[73],[4,59,60,61,74]] [(9,[(4,6)])]) ?s ?h;case h=>exact YA.rr
 exact fun s _=>s
def s123:SFn:=by
 refine(?f:YA.Yt Tryz.prog cf 123 [[2,11,12,13,14,15,16,10,17,18,6],[5],[],[22,23,24],[25,26,27,28],[8,9,29,30,31],[37,38]]) ?s ?h;case h=>exact YA.rr
 exact fun s _=>s
theorem ok60:Kq 60 s60=true:=by kernel_rfl
theorem ok123:Kq 123 s123=true:=by kernel_rfl
end
end Go.AM.TR
namespace Go.AM
variable{P:Program}
theorem HRel.give{ok:Okc}{c:Ctx ok}{h:Heap}{w:World}(H:HRel c h w){b g len sz:Nat}{ds:List AV}(G:h.get b=some (.cells g ds))(S:noRefs ds=true)(X:ds.length=len*sz)(I:Nat.blt b 1099511627775=true):∃c2,Evo c w c2 w/\HRel c2 (h.set b (.dead g)) w/\(∀v,VRel c w (.sl b g 0 len sz) v->VRel c2 w (.fsl ds len sz) v)/\∀x v,noRef x=true->VRel c w x v->VRel c2 w x v:=by
 have l:b<1099511627775:=by simp_all
 have a:Live h b g:=⟨_,G,rfl,fun _=>by simp⟩;let c2:Ctx ok:={c with F:=fun k=>c.F k\/∃base,c.ρ b g=some (.loc k base),O:=fun k=>c.O k/\¬∃base,c.ρ b g=some (.loc k base)};have d:∀k,(h.set b (.dead g)).get k=if k=b then some (.dead g)else h.get k:=fun k=>by
  by_cases e:k=b;·subst e;rw[QaA l,if_pos rfl]
  simp_all[QaG]
 have t:∀k y,Live (h.set b (.dead g)) k y->k≠b/\Live h k y:=by
  rintro k y⟨x,hk,hg,B⟩;rw[d]at hk;split at hk;·grind
  rename_i e;exact⟨e,x,hk,hg,B⟩
 have E:=Evo.refl c w;have E2:Evo c w c2 w:=⟨E.os,E.tape,E.output,E.size,E.shape,E.keep,E.rho,fun k hk=>.inl (E.frz k hk),fun k hk=>by
  rcases hk with hk|⟨base,hk⟩;·simp_all
  exact .inr (.inl (H.owned a hk)),fun k hk=>E.own k hk.1,E.base⟩;refine⟨c2,E2,⟨fun k hk y=>?_,fun k x hk y q=>?_,fun k x hk=>?_,fun k y M Y u base i l1 K p1 Z=>H.inj k y M Y u base i (t _ _ l1).2 (t _ _ K).2 p1 Z,fun k f hO=>?_,fun k f=>?_,fun k hO=>H.inO k hO.1⟩,fun v V=>?_,fun x v Q hv=>Zco (c:=c) (c':=c2) (fun _ h=>.inl h) _ _ Q hv⟩
 ·rw[d]at hk;split at hk;·cases hk
  exact H.fresh k hk y
 ·rw[d]at hk;split at hk;·rename_i e;subst e;cases hk;exact H.later k _ G y q
  exact H.later k x hk y q
 ·rw[d]at hk;split at hk;·cases hk;trivial
  rename_i e;refine Zcn (c:=c) (c':=c2) (w:=w) (w':=w) ⟨fun _ _ _ h=>h,fun _ h=>.inl h,fun _ _ _ h=>h,fun _ C _ J h=>⟨C,J,h,rfl⟩⟩ (fun u base B hp=>?_) (H.blk k x hk);have p:Live h k x.gen:=⟨x,hk,rfl,B⟩;exact⟨⟨H.owned p hp,fun⟨i,z⟩=>e (H.inj _ _ _ _ _ _ _ p a hp z)⟩,rfl⟩
 ·rcases f with f|f;·exact H.disj k f hO.1
  grind
 ·rcases f with f|⟨base,f⟩;·exact H.inF k f
  exact H.inO k (H.owned a f)
 simp only[VRel]at V;rcases V with⟨hp,rfl,_,rfl⟩|⟨u,base,o,cap,C,e,J,hp,rfl,N,hC,s⟩;·simp_all[VRel]
 obtain⟨C',e',P,hO,r,R,T,m⟩:=H.here G hp;rw[hC]at r;cases r;have f:c2.F u:=.inr ⟨base,hp⟩;by_cases U:cap=0
 ·have A:len=0:=by omega
  subst A;have:ds=[]:=Zbj (by rw[X];simp);subst this;simp only[VRel];simp_all
 obtain⟨rfl,hbd⟩:=s.resolve_left U;have L:=VPre.noRef2 (c:=c) (c':=c2) (fun _ h=>.inl h) S m;simp only[VRel];grind
theorem HSpec.give1{f b g len sz:Nat}{ds:List AV}{h:Heap}{v:AV}(S:PSpec P f [.fsl ds len sz] v)(k:h.get b=some (.cells g ds))(p:noRefs ds=true)(o:ds.length=len*sz)(d:Nat.blt b 1099511627775=true):HSpec P f [.sl b g 0 len sz] h v (h.set b (.dead g)):=by
 have m:=S;obtain⟨_,_,r,hc,_⟩:=S;refine⟨hc,fun c w a H s=>?_⟩;obtain⟨c2,E2,H2,V2,_⟩:=H.give k p o d;have i:VRels c2 w [.fsl ds len sz] a.toList:=by grind[VRels]
 refine((m.pure H2 i).2).mono ?_;rintro e t⟨l,q,rfl,E,H',V⟩;exact⟨l,q,rfl,E2.trans E,H',V⟩
end Go.AM
namespace Go.AM
variable{P:Program}
def tight(i:Nat)(f:FP):Prop:=f.all=false/\∀b,b∈f.R\/b∈f.W->b∈[i]
def wpRS(P:Program)(z:Nat):Nat->List SOper->Tmps->Heap->(Tmps->Heap->Nat->Prop)->Prop|n,[],T,h,K=>K T h n|n,s::r,T,h,K=>∃v h1 f,StepV P n s T h v h1 f/\(n=z->tight n f)/\wpRS P z (n+1) r (putD T s.dst v) h1 K
theorem Qlk{z:Nat}:∀{r:List SOper}{n:Nat}{T:Tmps}{h:Heap}{K:Tmps->Heap->Nat->Prop},z<n->wpR P n r T h K->wpRS P z n r T h K|[],n,T,h,K,_,hk=>hk|s::r,n,T,h,K,c,⟨v,h1,f,a,b⟩=>⟨v,h1,f,a,fun e=>by omega,Qlk (by omega) b⟩
theorem QtP{s:SOper}{K:Tmps->Heap->Nat->Prop}:∀(k:Nat)(r:List SOper)(n:Nat)(T:Tmps)(h:Heap),r[k]?=some s->wpR P n (r.take k) T h (fun T1 h1 d=>∃v a f,StepV P d s T1 h1 v a f/\tight d f/\wpR P (d+1) (r.drop (k+1)) (putD T1 s.dst v) a K)->wpRS P (n+k) n r T h K:=by intro k;induction k with
 |zero=>intro r n T h e hw;cases r with|nil=>cases e|cons t r=>rw[Zbl,Zab]at e;subst e;rw[List.take_zero]at hw;simp only[wpR]at hw;obtain⟨v,a,f,b,c,g⟩:=hw;rw[Zbs,Zbm]at g;exact⟨v,a,f,b,fun _=>c,Qlk (by omega) g⟩
 |succ k i=>intro r n T h e hw;cases r with|nil=>cases e|cons t r=>rw[Za7]at hw;simp only[wpR]at hw;obtain⟨v,h1,f,b,c⟩:=hw;refine⟨v,h1,f,b,fun e=>by omega,?_⟩;rw[show n+(k+1)=n+1+k by omega];exact i r (n+1) _ _ (by simpa using e) c
theorem Qna{z:Nat}:∀{r:List SOper}{n:Nat}{T:Tmps}{h:Heap}{K:Tmps->Heap->Nat->Prop},wpRS P z n r T h K->∃T' h' n',K T' h' n'/\∀d,(∀s∈r,s.dst≠some d)->lk T' d=lk T d|[],n,T,h,K,hk=>⟨T,h,n,hk,fun _ _=>rfl⟩|s::r,n,T,h,K,⟨v,h1,f,c,_,a⟩=>by obtain⟨T',h',n',hk,he⟩:=Qna a;refine⟨T',h',n',hk,fun d b=>?_⟩;simp_all[QbC]
def touch3(z i:Nat)(ax:Opd->Option (List Nat))(s:SOp):Option (List Nat):=bif Nat.beq i z then some [i]else touch2 i ax s
def touchesN(z:Nat)(C:Claims)(n:Nat)(T:Tmps):List SOper->Abs->List (Option (List Nat))|[],_=>[]|s::r,A=>touch3 z n (absO T A) s.op::touchesN z C (n+1) T r (match s.dst with|some d=>(d,absH C d (s.op.absV n (absO T A)))::A|none=>A)
theorem Qnb{T0:Tmps}{C:Claims}{z:Nat}:∀{r:List SOper}{n:Nat}{A:Abs}{T:Tmps}{h:Heap}{K:Tmps->Heap->Nat->Prop}(hA:AbsOK T0 A T)(K':List FP->Tmps->Heap->Nat->Prop)(l:∀T h n,K T h n->∀d bs,clm C d=some bs->Pts (lk T d) bs)(a:ssa C r=true),(∀fs T h n',fs.length=r.length->(∀(j:Nat)i,(touchesN z C n T0 r A).getD j none=some i->(fs.getD j ⟨false,[],[]⟩).all=false/\∀b,b∈(fs.getD j ⟨false,[],[]⟩).R\/b∈(fs.getD j ⟨false,[],[]⟩).W->b∈i)->K T h n'->K' fs T h n')->wpRS P z n r T h K->wpRF P n r T h K'
 |[],n,A,T,h,K,hA,K',l,a,p,hw=>p [] T h n rfl (fun j i c=>by simp_all) hw|s::r,n,A,T,h,K,hA,K',l,a,p,hw=>by
  obtain⟨v,h1,f,t,B,u⟩:=hw;simp only[ssa,Zaa]at a;obtain⟨g,m⟩:=a;refine⟨v,h1,f,t,?_⟩;have q:AbsOK T0 (match s.dst with|some d=>(d,absH C d (s.op.absV n (absO T0 A)))::A|none=>A) (putD T s.dst v):=by cases e:s.dst with|none=>exact hA|some d=>
   refine AbsOK.up hA fun bs k=>?_;unfold absH at k;split at k
   ·rename_i x hc;cases k;obtain⟨T',E,n',hk,he⟩:=Qna u;have w:=l T' E n' hk d _ hc;rw[he d ?_,QbC,if_pos e]at w;·exact w
    intro G o;rw[e]at g;simp only[hc,Option.isNone_some,Bool.false_or,ZaH]at g;have:=g G o;intro H;simp_all
   exact QfM hA.opd k t
  refine Qnb q (fun fs T h n=>K' (f::fs) T h n) l m (fun fs T h n' y hf hk=>?_) u;refine p (f::fs) T h n' (by simp[y]) (fun j i c=>?_) hk;cases j with
  |zero=>simp only[touchesN,List.getD_cons_zero]at c⊢;unfold touch3 at c;cases e:Nat.beq n z with|true=>rw[e]at c;simp only[cond_true,Zab]at c;subst c;exact B (by simpa using e)|false=>rw[e]at c;exact QgN hA.opd c t
  |succ j=>simp only[touchesN,List.getD_cons_succ]at c⊢;exact hf j i c
def NewAt(P:Program)(N:NM)(x:Opd)(ag:List Opd)(d:Option Nat)(r:List SOper)(n:Nat)(T:Tmps)(h:Heap)(Q:QC):Prop:=∃f a len sz,ev T x=.fn f [] []/\NSpec P f (evs T ag) a len sz/\noRefs a=true/\n<lim/\h.get n=none/\wR P N r [] [] (n+1) (putD T d (.sl n 0 0 len sz)) (h.set n (.cells 0 a)) Q
theorem Qf3(C:Claims)(k:Nat){x:Opd}{ag:List Opd}{d:Option Nat}{N:NM}{ops:List SOper}{p:Nat×Nat}{u:List (Nat×Nat)}{dead:List Nat}{fs:List Fr}{n:Nat}{T:Tmps}{h:Heap}{Q:QC}{af:List Nat}(hk:ops[k]?=some ⟨d,.call .heap x ag,af,none⟩)(i:ssa C ops=true)(hp:pairsOK (touchesN (n+k) C n T ops []) (p::u)=true)(hw:wR P N (ops.take k) [] [] n T h fun e T h n=>NewAt P N x ag d (ops.drop (k+1)) n T h fun e T h n=>Clms T C/\wX P N .normal fs n (rm T dead) h Q):wS P N (.region ops (p::u) dead) fs n T h Q:=by
 have rm0:∀T:Tmps,rm T []=T:=by intro T;induction T with|nil=>rfl|cons p T m=>obtain⟨j,v⟩:=p;simp[rm,m]
 refine Qnb (C:=C) (z:=n+k) (K:=fun T h n=>Clms T C/\wX P N .normal fs n (rm T dead) h Q) AbsOK.nil _ (fun T h n hk d w hc=>hk.1.get d w hc) i (fun R T h X Y hf hk=>⟨?_,hk.2⟩) ?_
 ·rw[ZaH];intro q B;have:=ZaH.1 hp q B;split at this
  ·rename_i a b E o;obtain⟨f1,f2⟩:=hf _ _ E;obtain⟨g1,g2⟩:=hf _ _ o;have U:∀x y,x∈a->y∈b->x≠y:=by grind
   have V:∀xs g:List Nat,(∀x∈xs,∀y∈g,x≠y)->disj xs g=true:=by intro xs g t;unfold disj;grind
   grind[FP.apart]
  cases this
 refine QtP k ops n T h hk ?_;have l:wpR P n (ops.take k) T h fun T h n=>NewAt P N x ag d (ops.drop (k+1)) n (rm T []) h fun e T h n=>Clms T C/\wX P N .normal fs n (rm T dead) h Q:=hw;simp only[rm0]at l;have mono:∀{r:List SOper}{n:Nat}{T:Tmps}{h:Heap}{K K':Tmps->Heap->Nat->Prop},(∀T h n,K T h n->K' T h n)->wpR P n r T h K->wpR P n r T h K':=by intro r;induction r with|nil=>intro n T h K K' hi hw;exact hi _ _ _ hw|cons s r m=>intro n T h K K' hi hw;obtain⟨v,h1,f,z,H⟩:=hw;exact⟨v,h1,f,z,m hi H⟩
 refine mono (fun T1 h1 c t=>?_) l;obtain⟨f,g,len,sz,S,I,L,M,J,G⟩:=t;refine⟨.sl c 0 0 len sz,h1.set c (.cells 0 g),⟨false,[c],[c]⟩,?_,⟨rfl,fun b o=>?_⟩,?_⟩;·refine⟨.call .heap f (evs T1 ag),h1,?_,.inr (.inr (.inl ⟨evs T1 ag,[],.inl ⟨rfl,rfl⟩,.inl ⟨g,len,sz,I,.inr ⟨L,rfl⟩,M,J,rfl,rfl,rfl⟩⟩))⟩;simp_all[aop,aCall,HM.run]
 ·simpa using o
 have A:wpR P (c+1) (ops.drop (k+1)) (putD T1 d (.sl c 0 0 len sz)) (h1.set c (.cells 0 g)) fun T h n=>Clms (rm T []) C/\wX P N .normal fs n (rm (rm T []) dead) h Q:=G;simp_all
end Go.AM
namespace Go.AM.SO
open Go.Proofs Go.AM.SD Go.AM.SE
theorem u8_wf{n:Int}(h:(Lit.int .u8 n).wf=true):0<=n/\n<256:=by grind[Lit.wf,IntKind.min,IntKind.max,IntKind.signed,IntKind.bits]
theorem i8_wf{n:Int}(h:(Lit.int .i8 n).wf=true):-128<=n/\n<128:=by grind[Lit.wf,IntKind.min,IntKind.max,IntKind.signed,IntKind.bits]
def u8O:Ty->Bool|.int k=>k==.u8|.arr _ t=>u8O t|.st t=>u8O t|.unit=>true|.pair a b=>u8O a&&u8O b|_=>false
theorem Qf4{a b:List Nat}:u8s (a++b)=u8s a++u8s b:=by simp[u8s]
theorem QbW:∀(t:Ty),u8O t=true->∀(d:t.D),t.wf d->∃l:List Nat,l.length=t.sz/\(∀x∈l,x<256)/\t.cells d=u8s l
 |.int k,h,d,hw=>by
  have:k=.u8:=by grind[u8O]
  subst this;have:=u8_wf hw;refine⟨[Int.toNat d],rfl,by simp;omega,?_⟩;show[AV.int .u8 d]=[AV.int .u8 ((Int.toNat d:Nat):Int)];grind|.bool,h,_,_=>by cases h|.str,h,_,_=>by cases h|.sl _,h,_,_=>by cases h|.st t,h,d,hw=>QbW t h d hw|.unit,_,_,_=>⟨[],rfl,by simp,rfl⟩|.pair a b,h,d,hw=>by simp only[u8O,Zaa]at h;obtain⟨l,h1,g,i⟩:=QbW a h.1 d.1 hw.1;obtain⟨m,g1,g2,g3⟩:=QbW b h.2 d.2 hw.2;refine⟨l++m,by rw[Zaf,h1,g1];rfl,fun x c=>(ZaE.1 c).elim (g x) (g2 x),?_⟩;show a.cells d.1++b.cells d.2=_;rw[i,g3,Qf4]|.arr n t,h,d,hw=>by
  obtain⟨f,c⟩:=hw;have key:∀l:List t.D,(∀x∈l,t.wf x)->∃r:List Nat,r.length=l.length*t.sz/\(∀x∈r,x<256)/\l.flatMap t.cells=u8s r:=by intro l;induction l with|nil=>intro _;exact⟨[],by simp,by simp,rfl⟩|cons a l o=>intro f;obtain⟨r,g1,g2,g3⟩:=o fun y p=>f y (by simp[p]);obtain⟨m,h1,g,i⟩:=QbW t h a (f a (by simp));refine⟨m++r,by grind,fun x c=>(ZaE.1 c).elim (g x) (g2 x),?_⟩;rw[Zay,g3,i,Qf4]
  obtain⟨r,g1,g2,g3⟩:=key d c;refine⟨r,by rw[g1];show List.length d*t.sz=n*t.sz;rw[f],g2,g3⟩
abbrev tyTo:Ty:=.arr 5 (.arr 5 (.int .u8))
abbrev tyGr:Ty:=.st (.pair (.int .u8) (.pair (.int .u8) (.pair tyTo .unit)))
abbrev tyPln:Ty:=.st (.pair (.arr 5 (.int .u8)) (.pair (.int .u8) (.pair (.arr 3 (.int .u8)) (.pair (.arr 3 tyGr) (.pair (.int .u8) (.pair (.arr 2 (.int .u8)) (.pair (.arr 2 tyGr) (.pair (.sl (.arr 4 (.int .u8))) (.pair (.arr 3 (.int .i8)) (.pair (.int .i8) .unit))))))))))
theorem Qjp{d:tyPln.D}(h:tyPln.wf d):∃p:Pln,POk p/\p.xn<=9223372036854775807/\tyPln.val d=plnV p:=by
 obtain⟨a,b,c,g,e,f,k,x,y,z,u⟩:=d;obtain⟨h1,E,A,w,t,B,C,r,v,q,_⟩:=h;dsimp only at h1 E A w t B C r v q;obtain⟨Y,a1,b1,c1⟩:=QbW (.arr 5 (.int .u8)) rfl _ h1;obtain⟨G,a2,b2,c2⟩:=QbW (.int .u8) rfl _ E;obtain⟨R,a3,b3,c3⟩:=QbW (.arr 3 (.int .u8)) rfl _ A;obtain⟨K,a4,b4,c4⟩:=QbW (.arr 3 tyGr) rfl _ w;obtain⟨U,a5,b5,M⟩:=QbW (.int .u8) rfl _ t;obtain⟨H,I,b6,S⟩:=QbW (.arr 2 (.int .u8)) rfl _ B;obtain⟨T,Z,b7,X⟩:=QbW (.arr 2 tyGr) rfl _ C;obtain⟨s,r⟩:=r;obtain⟨N,V,b8,P⟩:=QbW (.arr (List.length x) (.arr 4 (.int .u8))) rfl x ⟨rfl,r⟩;obtain⟨Q,i⟩:=v;obtain⟨o,m,l,rfl⟩:∃o m l,y=[o,m,l]:=by match y,Q with|[o,m,l],_=>exact⟨o,m,l,rfl⟩
 have L:=i8_wf (i o (by simp));have w1:=i8_wf (i m (by simp));have w2:=i8_wf (i l (by simp));have J:=i8_wf q;refine⟨⟨Y++G++R++K++U++H++T,N,List.length x,o,m,l,z⟩,⟨?_,?_,V,b8,L,w1,w2,J⟩,s,?_⟩;·simp only[Zaf,a1,a2,a3,a4,a5,I,Z];rfl
 ·grind
 show AV.agg (tyPln.cells _)=_;congr 1;show(Ty.arr 5 (.int .u8)).cells a++((Ty.int .u8).cells b++((Ty.arr 3 (.int .u8)).cells c++((Ty.arr 3 tyGr).cells g++((Ty.int .u8).cells e++((Ty.arr 2 (.int .u8)).cells f++((Ty.arr 2 tyGr).cells k++([.fsl ((Ty.arr (List.length x) (.arr 4 (.int .u8))).cells x) (List.length x) 4]++((Ty.arr 3 (.int .i8)).cells [o,m,l]++((Ty.int .i8).cells z++[])))))))))=_;rw[c1,c2,c3,c4,M,S,X,P];simp only[plnC,Qf4,ZaV];rfl
theorem short25(p:Pln)(h:POk p)(c:p.xn<=9223372036854775807):Pq 32 [plnV p] (.bool (decide (p.xn<=4))):=by refine Zcu 64 ok32 rfl (by simp only[noRefs,noRef,SU.Qd7];rfl) rfl ?_;have hlen:=SU.Qdz h;have b:=SU.QdA h;have a:(plnC p)[147]?=some (.fsl (u8s p.X) p.xn 4):=SU.Qfo h (k:=0);show wS _ _ _ _ _ (argT 0 [.agg (plnC p)]) _ _;generalize plnC p=C at*;have e:decide ((p.xn:Int)<=4)=decide (p.xn<=4):=decide_eq_decide.2 (by omega);unfold s32;refine Zc0 (Zc3 hlen b a e) ?_;exact⟨.inr trivial,_,rfl,rfl⟩
theorem Qrs{l:List Aut}{ev:List Nat}:∀{k i:Nat}{s:List (List Nat)×List Ed},(pQ l ev k i s).2.length<=s.2.length+k*ev.length|0,_,s=>by simp[pQ]|k+1,i,s=>by unfold pQ;cases s.1[i]? with|none=>dsimp only;omega|some t=>have h1:=Qrs (l:=l) (ev:=ev) (k:=k) (i:=i+1) (s:=pRow l ev i t s);have a:=QeL (l:=l) (i:=i) (t:=t) (ev:=ev) (s:=s);have b:(k+1)*ev.length=k*ev.length+ev.length:=Zbo ..;dsimp only;omega
theorem QiA{l:List Aut}(h:∀a∈l,WfI a)(f:l.length<=5):AOk (syncA l)/\(sync0 l).1.length<=243/\∀t∈(sync0 l).1,t.length<=5:=by
 have hw:∀a∈l,∀e∈a.es,e.1<a.n/\e.2.2<a.n:=fun a c=>(h a c).wf.esn;have b:∀a∈l,0<a.n:=fun a c=>(h a c).pos;have d:box l<=243:=Zaw (Qq9 (fun a c=>(h a c).n3) (by omega)) (Nat.pow_le_pow_right (n:=3) (by omega) f);have k:=Qm2 b hw;have i:=QtF h;have he:(sync0 l).2.length<=244*5:=by refine Zaw Qrs ?_;have:=Nat.mul_le_mul (show box l+1<=244 by omega) i;simpa using this
 refine⟨⟨by show(evA l).length<=_;omega,?_,by show(sync0 l).2.length<=_;omega⟩,by omega,fun t g=>?_⟩;·have :=@Qlf l (sync0 l).1 (sync0 l).1.length;show(marks l (sync0 l).1 (sync0 l).1.length).length<=_;omega
 have :=((Qfn b hw).inT t g).1;omega
theorem QtQ:allK 62 1 []=true:=by kernel_rfl
theorem QtR:allK 62 2 []=true:=by kernel_rfl
theorem QtS:allK 62 3 []=true:=by kernel_rfl
theorem key72{c:Cel}(h:WfCel c){t:List Nat}(a:InT (auL c.cs) t):Pq 62 [sliN t] (.str (keyT t)):=by have f:=h.c0;have g:=h.c3;have d:=a.1;rw[QaZ]at d;refine Qjo (Qfq (u:=[]) ?_ fun x b=>a.lt (Qa3 h) b);grind[QtQ,QtR,QtS]
def allA(c:Cel):List Aut:=auL c.cs++auL c.rs
theorem Qb5{c:Cel}(h:WfCel c):∀a∈allA c,WfI a:=fun a b=>by
 unfold allA at b;rcases ZaE.1 b with b|b;·exact Qa3 h a b
 obtain⟨x,d,rfl⟩:=Zan.1 b;exact h.ra x d
theorem QbZ{c:Cel}:(allA c).length=c.cs.length+c.rs.length:=by simp[allA]
theorem QsD:allK 116 3 [0]=true:=by kernel_rfl
theorem QsE:allK 116 3 [1]=true:=by kernel_rfl
theorem QsF:allK 116 3 [2]=true:=by kernel_rfl
theorem Qrt:allK 116 3 [0,0]=true:=by kernel_rfl
theorem Qru:allK 116 3 [0,1]=true:=by kernel_rfl
theorem Qrv:allK 116 3 [0,2]=true:=by kernel_rfl
theorem Qrw:allK 116 3 [1,0]=true:=by kernel_rfl
theorem Qrx:allK 116 3 [1,1]=true:=by kernel_rfl
theorem Qry:allK 116 3 [1,2]=true:=by kernel_rfl
theorem Qrz:allK 116 3 [2,0]=true:=by kernel_rfl
theorem QrA:allK 116 3 [2,1]=true:=by kernel_rfl
theorem QrB:allK 116 3 [2,2]=true:=by kernel_rfl
theorem key98w4{a:Nat}(h:a<3):allK 116 3 [a]=true:=by
 obtain rfl|rfl|rfl:a=0\/a=1\/a=2:=by omega
 ·exact QsD
 ·exact QsE
 exact QsF
theorem key98w5{a b:Nat}(h:a<3)(c:b<3):allK 116 3 [a,b]=true:=by
 obtain rfl|rfl|rfl:a=0\/a=1\/a=2:=by omega
 ·obtain rfl|rfl|rfl:b=0\/b=1\/b=2:=by omega
  ·exact Qrt
  ·exact Qru
  exact Qrv
 ·obtain rfl|rfl|rfl:b=0\/b=1\/b=2:=by omega
  ·exact Qrw
  ·exact Qrx
  exact Qry
 obtain rfl|rfl|rfl:b=0\/b=1\/b=2:=by omega
 ·exact Qrz
 ·exact QrA
 exact QrB
theorem QtT{c:Cel}(h:WfCel c)(t:List Nat)(l:InT (allA c) t):Pq 116 [sliN t] (.str (keyT t)):=by
 have p:=h.c0;have o:=h.c3;have m:=h.r2;have k:=l.1;have g:∀x∈t,x<3:=fun x g=>l.lt (Qb5 h) g;rw[QbZ]at k;by_cases i:t.length<=3;·grind[key98]
 match t,k,g,i with|[_,_,_],_,_,i=>exact absurd (by simp) i|[a,b,d,e],k,g,_=>exact Qjo (Qfq (t:=[b,d,e]) (u:=[a]) (key98w4 (g a (by simp))) fun x h=>g x (by simp_all))|[a,b,d,e,f],k,g,_=>exact Qjo (Qfq (t:=[d,e,f]) (u:=[a,b]) (key98w5 (g a (by simp)) (g b (by simp))) fun x h=>g x (by simp_all))|[],_,_,i=>exact absurd (by simp) i|[_],_,_,i=>exact absurd (by simp) i|[_,_],_,_,i=>exact absurd (by simp) i|_::_::_::_::_::_::_,k,_,_=>simp at k;omega
end Go.AM.SO
