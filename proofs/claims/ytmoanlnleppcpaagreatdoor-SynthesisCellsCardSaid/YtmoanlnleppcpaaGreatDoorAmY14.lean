/- A part of the proof of SynthesisCellsCardSaid: lemmas on the way (AmCg, AmCh, AmCm, AmCu, AmCi, AmCk, AmCl, AmCn, AmCv, AmCw, AmCyc, AmCyd, AmCyb, AmCye, AmCyf, AmCyh, AmCyg, AmCyi, AmCyj, AmCr, AmCzg, AmOf, AmGm, AmGa, AmTl, AmTn). Conditions: none of ours. -/
import Derived.Test.YtmoanlnleppcpaaGreatDoorProg
import Derived.KernelRfl
import Derived.Test.YtmoanlnleppcpaaGreatDoorAmY13
set_option linter.unusedSectionVars false
set_option maxHeartbeats 32000000
set_option maxRecDepth 100000
set_option linter.unusedVariables false
set_option linter.unusedSimpArgs false
namespace Go.AM.SO
open Go.Proofs Go.AM.SD Go.AM.SE
def nmL(i:Nat):List (List UInt8):=(List.range i).map fun j=>[UInt8.ofNat (97+j)]
theorem Qq9{i:Nat}:nmL (i+1)=nmL i++[[UInt8.ofNat (97+i)]]:=by unfold nmL;rw[ZaH,ZaL];rfl
theorem Qr8{i:Nat}(hi:i<5):[UInt8.ofNat (97+i)]∉nmL i:=by
 have:i=0\/i=1\/i=2\/i=3\/i=4:=by omega
 rcases this with rfl|rfl|rfl|rfl|rfl<;>decide
abbrev yes:List UInt8->AV:=fun _=>.bool true
theorem QhK{x:List UInt8}:updS yes x (.bool true)=yes:=by funext y;simp[updS]
theorem QpU(e:Nat->Evt):noRefs [evsV e]=true:=rfl
theorem check82(e:Nat->Evt)(he:∀i,i<5->(e i).Ok):PSpec Tryz.prog 82 [evsV e] (.int .i64 0):=by
 refine Zcg 64 ok82 rfl (QpU e) rfl ?_;unfold s82;refine ZcL ?_;refine QaN 100 (fun i:Nat=>[(10,evsV e),(11,.int .i64 5),(12,.int .i64 i),(3,.map 68 0)]) (fun i=>[(68,.map 0 (mapS yes (nmL i)))]) (fun i=>i<=5) (fun i=>5-i) 0 ⟨[(68,.blk 68 0)],rfl,au0,?_,au8⟩ (Zah _) ?_;·exact Zcp rfl rfl rfl trivial Zcm
 rintro i hi;by_cases f:i<5
 ·have a:(i:Int)<5:=by omega
  have h:=Qtg e f;have m:5<=(List.drop (i*5) (evsC e)).length:=by rw[Za6,Qgx];omega
  have g:evC i (e i)=[.str [UInt8.ofNat (97+i)],.bool (e i).c,.bool (e i).o,.bool (e i).f,.int .i64 ((e i).flt:Int)]:=rfl;obtain⟨o,hc⟩:=he i f;generalize e i=r at h g o hc;obtain⟨u,t,s,c⟩:=r;dsimp only at h g o hc;have d:=Qr8 f;have k:=@Qq9 i;have j:=Qr7 f;generalize UInt8.ofNat (97+i)=ch at g d k j;refine ZcM (ZcP a h m g) ?_;refine cp j ?_;refine ZcL ?_;refine Qge rfl d ?_;have n:¬(c:Int)<0:=by omega
  have p:¬4<(c:Int):=by omega
  by_cases q:c=0
  ·have l:(c:Int)=0:=by omega
   refine ZcM (ZcO n p l) ?_;refine Qek gg d (by omega) ?_;refine ZcM @QhK ?_;refine⟨i+1,by omega,by omega,?_⟩;rw[k];refine⟨[(68,.blk 68 0)],rfl,au0,?_,au8⟩;exact Zcp rfl rfl gg (RnM.mapS fun _ _=>Zcd rfl) Zcm
  have l:¬(c:Int)=0:=by omega
  obtain⟨rfl,rfl⟩:=hc q;refine ZcM (ZcO n p l) ?_;refine Qek gg d (by omega) ?_;refine ZcM @QhK ?_;refine⟨i+1,by omega,by omega,?_⟩;rw[k];refine⟨[(68,.blk 68 0)],rfl,au0,?_,au8⟩;exact Zcp rfl rfl gg (RnM.mapS fun _ _=>Zcd rfl) Zcm
 have a:¬(i:Int)<5:=by omega
 refine ZcM a ?_;exact⟨.inr trivial,_,rfl,rfl⟩
end Go.AM.SO
namespace Go.AM.SO
open Go.Proofs Go.AM.SD Go.AM.SE
def evOf(b:Nat):Evt:=if 48<=b/\b<52 then⟨false,false,false,b-47⟩else⟨decide (b&&&1=1),decide (b&&&2=2),decide (b&&&4=4),0⟩
theorem Qr9(b:Nat):(evOf b).Ok:=by
 unfold evOf;split;·exact⟨by grind,fun _=>⟨rfl,rfl⟩⟩
 exact⟨by simp_all,fun h=>absurd rfl h⟩
theorem andN(b m:Nat)(a:b<256)(hm:m<256):(BitVec.ofInt 8 (b:Int)&&&BitVec.ofInt 8 (m:Int)).toNat=b&&&m:=by grind
theorem Ql1(b m:Nat)(hm:m<256):b&&&m<256:=Nat.lt_of_le_of_lt Nat.and_le_right hm
theorem QpV{b:Nat}(a:b<256):aBin .and (.int .u8 (b:Int)) (.int .u8 1)=some (.int .u8 ((b&&&1:Nat):Int)):=by have:=andN b 1 a (by omega);have c:=Ql1 b 1 (by omega);simp only[aBin,if_true];rw[show IntKind.u8.bits=8 from rfl,show(1:Int)=((1:Nat):Int)from rfl,this,wr_u8 (by omega) (by omega)]
theorem QpW{b:Nat}(a:b<256):aBin .and (.int .u8 (b:Int)) (.int .u8 2)=some (.int .u8 ((b&&&2:Nat):Int)):=by have:=andN b 2 a (by omega);have c:=Ql1 b 2 (by omega);simp only[aBin,if_true];rw[show IntKind.u8.bits=8 from rfl,show(2:Int)=((2:Nat):Int)from rfl,this,wr_u8 (by omega) (by omega)]
theorem QpX{b:Nat}(a:b<256):aBin .and (.int .u8 (b:Int)) (.int .u8 4)=some (.int .u8 ((b&&&4:Nat):Int)):=by have:=andN b 4 a (by omega);have c:=Ql1 b 4 (by omega);simp only[aBin,if_true];rw[show IntKind.u8.bits=8 from rfl,show(4:Int)=((4:Nat):Int)from rfl,this,wr_u8 (by omega) (by omega)]
def evP(F:List Nat)(i:Nat):List AV:=(List.range i).flatMap fun j=>evC j (evOf (F.getD j 0))
theorem Ql2{F:List Nat}{i:Nat}:evP F (i+1)=evP F i++evC i (evOf (F.getD i 0)):=by simp_all[evP,ZaH]
theorem QiT{F:List Nat}:∀{i:Nat},(evP F i).length=i*5|0=>rfl|i+1=>by rw[Ql2,Zae,QiT];simp[evC];omega
end Go.AM.SO
namespace Go.AM.SO
open Go.Proofs Go.AM.SD Go.AM.SE
structure Cel where
 ev:Nat->Evt
 cs:List (Nat×Aut)rs:List (Nat×Aut)xs:List (Nat×List (Nat×Nat))ks:List (List (Nat×Int)×Int)
def itC(ch:UInt8)(x:Nat×Aut):List AV:=[.str [ch,UInt8.ofNat (48+x.1)],sliN x.2.al,.int .i64 (x.2.n:Int),sliN x.2.ms,egsN x.2.es]
def loC(x:Nat×Nat):List AV:=[.int .i64 (x.1:Int),.int .i64 (x.2:Int)]
abbrev los(l:List (Nat×Nat)):AV:=.fsl (l.flatMap loC) l.length 2
def exC(x:Nat×List (Nat×Nat)):List AV:=[.str [101,UInt8.ofNat (48+x.1)],los x.2]
def teC(x:Nat×Int):List AV:=[.int .i64 (x.1:Int),.int .i64 x.2]
abbrev tes(l:List (Nat×Int)):AV:=.fsl (l.flatMap teC) l.length 2
def coC(x:List (Nat×Int)×Int):List AV:=[.str [107],tes x.1,.int .i64 x.2]
abbrev its(ch:UInt8)(l:List (Nat×Aut)):AV:=.fsl (l.flatMap (itC ch)) l.length 5
abbrev exs(l:List (Nat×List (Nat×Nat))):AV:=.fsl (l.flatMap exC) l.length 2
abbrev cos(l:List (List (Nat×Int)×Int)):AV:=.fsl (l.flatMap coC) l.length 3
abbrev celV(c:Cel):AV:=.agg [evsV c.ev,its 99 c.cs,its 114 c.rs,exs c.xs,cos c.ks]
structure WfI(a:Aut):Prop where
 wf:WfA a
 a5:∀x∈a.al,x<5
 pos:0<a.n
 n3:a.n<=3
 can:restr a (fun _=>true)=a
 el:a.es.length<=25
structure WfCel(c:Cel):Prop where
 ev:∀i,i<5->(c.ev i).Ok
 c0:0<c.cs.length
 c3:c.cs.length<=3
 r2:c.rs.length<=2
 x2:c.xs.length<=2
 k1:c.ks.length<=1
 cn:c.cs.map (·.1)=List.range c.cs.length
 rn:c.rs.map (·.1)=List.range c.rs.length
 xn:(c.xs.map (·.1)).Pairwise (·<·)/\∀x∈c.xs,x.1<2
 ca:∀x∈c.cs,WfI x.2
 ra:∀x∈c.rs,WfI x.2
 rsub:∀x∈c.rs,∀e∈x.2.al,∃y∈c.cs,e∈y.2.al
 xl:∀x∈c.xs,x.2≠[]/\(x.2.map (·.1)).Pairwise (·<·)/\∀l∈x.2,∃y,c.cs[l.1]?=some y/\l.2<y.2.n
 kl:∀x∈c.ks,x.1≠[]/\(x.1.map (·.1)).Pairwise (·<·)/\(∀t∈x.1,t.1<c.cs.length/\t.2≠0/\-4<t.2/\t.2<4)/\-8<x.2/\x.2<8
theorem Qov{l:List Nat}(h:l.Pairwise (·<·)){p q:Nat}(a:p<q)(c:q<l.length):l.getD p 0<l.getD q 0:=by grind[Za8]
theorem partLt{n b:Nat}:∀x∈SD.part n b,x<n:=fun x a=>(Qlx.1 a).1
theorem Qsa{al:List Nat}{st mk:Nat}{T:List Nat}(g:al.Pairwise (·<·))(l:∀x∈al,x<5):WfA (gRaw al st mk T):=by
 have r:=Qfl (st:=st) (mk:=mk) (T:=T) (Qa3 g l);have a:=r.esn;have c:=r.n5;unfold gRaw at a c⊢;split;·exact⟨g,fun x f=>by have:=l x f;omega,by simp,by simp,by simp,by simp,by simp,by simp⟩
 rename_i m;rw[if_neg m]at a c;have t:∀i,∀e∈gRow al (1+st%5) T i al.length,e.1=i/\∃j,j<al.length/\e.2.1=al.getD j 0:=fun i e he=>by unfold gRow at he;obtain⟨j,v,hm⟩:=ZbH.1 he;unfold gEd at hm;grind
 refine⟨g,fun x f=>by have:=l x f;omega,by dsimp only at c⊢;omega,Qdp _ _,partLt,?_,a,fun e he=>?_⟩
 ·show(gPre _ _ _ _).Pairwise _;unfold gPre;refine QcC (fun i _=>?_) (List.pairwise_lt_range.imp fun s x f y o=>.inl ?_)
  ·unfold gRow;refine List.Pairwise.filterMap _ (R:=fun j n=>j<n/\n<al.length) ?_ (List.pairwise_lt_range.imp_of_mem fun _ u h=>⟨h,Zau.1 u⟩);rintro x y⟨k,o⟩p hp q d;unfold gEd at hp d;split at hp
   ·split at d;·cases hp;cases d;exact .inr ⟨rfl,Qov g k o⟩
    cases d
   cases hp
  grind
 grind[gPre]
theorem Qsb{al:List Nat}{st mk:Nat}{T:List Nat}(c:al.Pairwise (·<·))(a:∀x∈al,x<5):restr (mkA al st mk T) (fun _=>true)=mkA al st mk T:=by have h:=Qsa (st:=st) (mk:=mk) (T:=T) c a;show restr (canon _) _=canon _;grind[QmR,QmM]
theorem Ql3{es:List Ed}{s:Nat}:∀{L:List Nat}{out:List Nat},out.length<=(L.foldl (fEv es s) out).length|[],out=>ZaO _|e::L,out=>by rw[ZaN];refine Zax ?_ (Ql3 (L:=L));grind[fEv]
theorem QpY{al:List Nat}{es:List Ed}:∀(k i:Nat)(out:List Nat),out.length<=(fQ al es k i out).length
 |0,_,_=>ZaO _|k+1,i,out=>by
  unfold fQ;split;·exact Zax Ql3 (QpY k (i+1) _)
  omega
theorem QnH{al:List Nat}{st mk:Nat}{T:List Nat}(c:al.Pairwise (·<·))(a:∀x∈al,x<5)(k:st<3):WfI (mkA al st mk T):=by
 have f:=Qfl (st:=st) (mk:=mk) (T:=T) (Qa3 c a);have e:gRaw al st mk T=⟨al,1+st%5,SD.part (1+st%5) mk,gPre al (1+st%5) T (1+st%5)⟩:=if_neg (by omega);have d:(gRaw al st mk T).n<=3:=by grind
 have hf:(found (gRaw al st mk T)).length<=(gRaw al st mk T).n:=QaS _ _ (Qfc f.esn).1.nd (Qfc f.esn).1.lt;have h1:=QhH (gRaw al st mk T) (found (gRaw al st mk T)) (found (gRaw al st mk T)).length;refine⟨Qtb c a,fun x g=>a x (by rwa[show(mkA al st mk T).al=al from by show(gRaw al st mk T).al=al;rw[e]]at g),?_,Zax hf d,Qsb c a,?_⟩
 ·show 0<(found (gRaw al st mk T)).length;have h:0<(gRaw al st mk T).n:=by grind
  unfold found;rw[if_pos h];exact ZaX (by simp) (QpY _ _ _)
 have j:(mkA al st mk T).es.length=(cPre (gRaw al st mk T) (found (gRaw al st mk T)) (found (gRaw al st mk T)).length).length:=rfl;rw[j];have i:(gRaw al st mk T).al.length<=5:=by simp_all[Qa3]
 refine Zax h1 (Zax (Nat.mul_le_mul (Zax hf d) i) (by decide))
structure Pln where
 L:List Nat
 X:List Nat
 xn:Nat
 f0:Int
 f1:Int
 f2:Int
 bd:Int
structure POk(p:Pln):Prop where
 L:p.L.length=147
 L8:∀x∈p.L,x<256
 X:p.X.length=p.xn*4
 X8:∀x∈p.X,x<256
 f0:-128<=p.f0/\p.f0<128
 f1:-128<=p.f1/\p.f1<128
 f2:-128<=p.f2/\p.f2<128
 bd:-128<=p.bd/\p.bd<128
abbrev plnC(p:Pln):List AV:=u8s p.L++[.fsl (u8s p.X) p.xn 4,.int .i8 p.f0,.int .i8 p.f1,.int .i8 p.f2,.int .i8 p.bd]
abbrev plnV(p:Pln):AV:=.agg (plnC p)
variable(p:Pln)
def pN:Nat:=1+p.L.getD 5 0%3
def pM:Nat:=p.L.getD 90 0%3
def pA(i:Nat):Aut:=mkA (SD.part 5 (p.L.getD (6+i) 0)) (p.L.getD (9+i*27) 0%3) (p.L.getD (9+i*27+1) 0) ((p.L.drop (9+i*27+2)).take 25)
def pAll:Nat->Nat|0=>0|i+1=>pAll i|||p.L.getD (6+i) 0%32
def pW(i:Nat):List Nat:=(SD.part 5 (p.L.getD (91+i) 0)).filter fun x=>(pAll p (pN p)).testBit x
def pR(i:Nat):Aut:=mkA (pW p i) (p.L.getD (93+i*27) 0%3) (p.L.getD (93+i*27+1) 0) ((p.L.drop (93+i*27+2)).take 25)
def pCs(n:Nat):List (Nat×Aut):=(List.range n).map fun i=>(i,pA p i)
def pRs(n:Nat):List (Nat×Aut):=(List.range n).map fun i=>(i,pR p i)
def pLo(i:Nat):Nat->List (Nat×Nat)|0=>[]|k+1=>if p.X.getD (i*4+k) 0%((pA p k).n+2)<(pA p k).n then pLo i k++[(k,p.X.getD (i*4+k) 0%((pA p k).n+2))]else pLo i k
def pXs:Nat->List (Nat×List (Nat×Nat))|0=>[]|i+1=>if 0<(pLo p i (pN p)).length then pXs i++[(i,pLo p i (pN p))]else pXs i
def pF(i:Nat):Int:=if i=0 then p.f0 else if i=1 then p.f1 else p.f2
def pT:Nat->List (Nat×Int)|0=>[]|i+1=>if pF p i=0 then pT i else pT i++[(i,(pF p i).tmod 4)]
def pT0:List (Nat×Int):=(pT p (pN p)).filter fun t=>!(decide (t.2=0))
def pKs:List (List (Nat×Int)×Int):=if 0<(pT0 p).length then[(pT0 p,p.bd.tmod 8)]else[]
def mkC:Cel:=⟨fun i=>evOf ((p.L.take 5).getD i 0),pCs p (pN p),pRs p (pM p),pXs p (min p.xn 2),pKs p⟩
variable{p}
theorem pN_le:1<=pN p/\pN p<=3:=by unfold pN;omega
theorem pM_le:pM p<=2:=by unfold pM;omega
theorem Qkf(i:Nat):(pW p i).Pairwise (·<·):=(Qdp _ _).filter _
theorem pW_lt(i:Nat):∀x∈pW p i,x<5:=fun x a=>partLt x (Zbq.1 a).1
theorem pA_wf(i:Nat):WfI (pA p i):=QnH (Qdp _ _) partLt (by omega)
theorem pR_wf(i:Nat):WfI (pR p i):=QnH (Qkf i) (pW_lt i) (by omega)
theorem QpZ{al:List Nat}{st mk:Nat}{T:List Nat}:(mkA al st mk T).al=al:=by show(gRaw al st mk T).al=al;grind[gRaw]
theorem Qiv{i:Nat}:∀{n:Nat},∀x∈pLo p i n,x.1<n/\x.2<(pA p x.1).n
 |0,x,h=>by cases h|n+1,x,h=>by
  unfold pLo at h;split at h
  ·rename_i hc;rcases ZaI.1 h with h|h;·have:=Qiv x h;omega
   simp_all
  have:=Qiv x h;omega
theorem Qfn{i:Nat}:∀{n:Nat},((pLo p i n).map (·.1)).Pairwise (·<·)
 |0=>by simp[pLo]|n+1=>by
  unfold pLo;split;·rw[ZaL,Zbb];refine⟨Qfn,by simp,fun x d y a=>?_⟩;simp at a;subst a;obtain⟨z,c,rfl⟩:=Zaq.1 d;exact(Qiv z c).1
  exact Qfn
theorem Qgf:∀{n:Nat},∀x∈pXs p n,x.1<n/\x.2=pLo p x.1 (pN p)/\x.2≠[]
 |0,x,h=>by cases h|n+1,x,h=>by
  unfold pXs at h;split at h
  ·rename_i hc;rcases ZaI.1 h with h|h;·have:=Qgf x h;grind
   grind
  have:=Qgf x h;grind
theorem Qfo:∀{n:Nat},((pXs p n).map (·.1)).Pairwise (·<·)
 |0=>by simp[pXs]|n+1=>by
  unfold pXs;split;·rw[ZaL,Zbb];refine⟨Qfo,by simp,fun x d y a=>?_⟩;simp at a;subst a;obtain⟨z,c,rfl⟩:=Zaq.1 d;exact(Qgf z c).1
  exact Qfo
theorem QiU:∀{n:Nat},(pXs p n).length<=n|0=>by simp[pXs]|n+1=>by have:=@QiU n;grind[pXs]
theorem QiV{i:Nat}:∀{n:Nat},(pLo p i n).length<=n|0=>by simp[pLo]|n+1=>by have:=@QiV i n;grind[pLo]
theorem Ql4:∀{n:Nat},(pT p n).length<=n|0=>by simp[pT]|n+1=>by have:=@Ql4 n;grind[pT]
theorem pT_lt:∀{n:Nat},∀x∈pT p n,x.1<n/\-4<x.2/\x.2<4
 |0,x,h=>by cases h|n+1,x,h=>by
  unfold pT at h;split at h;·have:=pT_lt x h;omega
  rcases ZaI.1 h with h|h;·have:=pT_lt x h;omega
  grind
theorem Qgg:∀{n:Nat},((pT p n).map (·.1)).Pairwise (·<·)
 |0=>by simp[pT]|n+1=>by
  unfold pT;split;·exact Qgg
  rw[ZaL,Zbb];refine⟨Qgg,by simp,fun x d y a=>?_⟩;simp at a;subst a;obtain⟨z,c,rfl⟩:=Zaq.1 d;exact(pT_lt z c).1
theorem Ql5{e:Nat}:∀{n:Nat},(pAll p n).testBit e=true->e<5->∃i,i<n/\(p.L.getD (6+i) 0).testBit e=true
 |0,h,_=>by simp[pAll]at h|n+1,h,a=>by
  unfold pAll at h;rw[Nat.testBit_or,Zbd]at h;rcases h with h|h;·obtain⟨i,hi,h⟩:=Ql5 h a;grind
  rw[show 32=2^5 from rfl,Nat.testBit_mod_two_pow]at h;grind
theorem Qp0{n i:Nat}(h:i<n):(pCs p n)[i]?=some (i,pA p i):=by simp_all[pCs]
theorem Qth:WfCel (mkC p):=by
 have h1:=@pN_le p;have s:=@pM_le p;have hc:(pCs p (pN p)).length=pN p:=by simp[pCs]
 have u:(pRs p (pM p)).length=pM p:=by simp[pRs]
 have a:=@QiU p (min p.xn 2);refine⟨fun i _=>Qr9 _,?_,?_,?_,?_,?_,?_,?_,⟨Qfo,fun x a=>?_⟩,fun x a=>?_,fun x a=>?_,fun x a e he=>?_,fun x a=>?_,fun x a=>?_⟩;·show 0<(pCs p (pN p)).length;omega
 ·show(pCs p (pN p)).length<=3;omega
 ·show(pRs p (pM p)).length<=2;omega
 ·show(pXs p _).length<=2;omega
 ·show(pKs p).length<=1;grind[pKs]
 ·show(pCs p (pN p)).map (·.1)=List.range (pCs p (pN p)).length;simp_all[pCs,Function.comp_def]
 ·show(pRs p (pM p)).map (·.1)=List.range (pRs p (pM p)).length;simp_all[pRs,Function.comp_def]
 ·have:=(Qgf x a).1;omega
 ·obtain⟨i,_,rfl⟩:=Zaq.1 (show x∈pCs p (pN p)from a);exact pA_wf i
 ·obtain⟨i,_,rfl⟩:=Zaq.1 (show x∈pRs p (pM p)from a);exact pR_wf i
 ·obtain⟨i,_,rfl⟩:=Zaq.1 (show x∈pRs p (pM p)from a);dsimp only at he;rw[show(pR p i).al=pW p i from QpZ]at he;obtain⟨d,f⟩:=Zbq.1 he;obtain⟨j,o,f⟩:=Ql5 f (partLt e d);refine⟨(j,pA p j),Zaq.2 ⟨j,Zau.2 o,rfl⟩,?_⟩;simp_all[pA,QpZ,Qlx]
 ·obtain⟨_,h,d⟩:=Qgf x a;refine⟨d,by grind[Qfn],fun l g=>?_⟩;rw[h]at g;obtain⟨k,q⟩:=Qiv l g;exact⟨_,Qp0 k,q⟩
 have c:x∈pKs p:=a;unfold pKs at c;split at c
 ·rename_i n;simp at c;subst c;refine⟨List.ne_nil_of_length_pos n,?_,fun t m=>?_,?_,?_⟩;·exact(Qgg (n:=pN p)).sublist (List.Sublist.map _ (List.filter_sublist))
  ·obtain⟨r,h⟩:=Zbq.1 (show t∈pT0 p from m);have d:=pT_lt t r;simp_all[mkC]
  ·grind
  grind
 cases c
end Go.AM.SO
namespace Go.AM.SU
open Go.Proofs Go.AM.SD Go.AM.SE Go.AM.SO
theorem QaQ(l:List (Nat×Int)):noRefs (l.flatMap teC)=true:=Qa1 (fun _=>rfl) l
theorem QcY(l:List (Nat×Int)):(l.flatMap teC).length=l.length*2:=Qbd (k:=2) (fun _=>rfl) l
theorem Qdj{l:List (Nat×Int)}{i:Nat}{x:Nat×Int}(h:l[i]?=some x):(l.flatMap teC).drop (i*2)=.int .i64 (x.1:Int)::.int .i64 x.2::(l.drop (i+1)).flatMap teC:=Qbh (f:=teC) (k:=2) (fun _=>rfl) h
theorem Qp1{x:Nat×Int}:∀{l:List (Nat×Int)}{i:Nat},i<l.length->(l.flatMap teC).take (i*2)++[.int .i64 (x.1:Int),.int .i64 x.2]++(l.flatMap teC).drop (i*2+2)=(l.set i x).flatMap teC|[],i,h=>by simp at h|a::l,0,h=>by simp[Zav,teC]|a::l,i+1,h=>by have:=Qp1 (x:=x) (l:=l) (i:=i) (by simpa using h);rw[ZbS,Zav,Zav,<-this];rw[show(i+1)*2=i*2+2 by omega];simp[teC]
abbrev teV(x:Nat×Int):AV:=.agg [.int .i64 (x.1:Int),.int .i64 x.2]
theorem zero94(x:Nat×Int):PSpec Tryz.prog 94 [teV x] (.bool (decide (x.2=0))):=by refine Zcg 64 ok94 rfl rfl rfl ?_;unfold s94;refine ZcF ?_;exact⟨.inr trivial,_,rfl,rfl⟩
def fst0(l:List (Nat×Int)):Int:=if l.all (fun x=>!decide (x.2=0))then-1 else(l.findIdx (fun x=>decide (x.2=0)):Int)
theorem _root_.Go.AM.au13{p:Prop}(h:p:=by repeat'(first|exact Zcm|(refine Zce ?_;first|rfl|(simp only[noRef,noRefs,Qag,Zad,Zac,Zag,Qaa,Qan,Qab,QaQ];done))|exact Zcy rfl|exact Zcs|exact(True.intro:RnM _ _ _ [] [])|refine Zct ?_ ?_|(refine Zcd ?_;first|rfl|(simp only[noRef,noRefs,Qag,Zad,Zac,Zag,Qaa,Qan,Qab,QaQ];done))|exact Rn.x1 rfl rfl|exact Rn.x2 rfl rfl|exact Rn.x3 rfl rfl|exact Rn.x4 rfl rfl|exact Rn.x5 rfl|exact Rn.x6 rfl|exact Rn.x7 rfl|refine Zco rfl rfl ?_|refine Zcn rfl rfl rfl ?_ ?_|refine Zcp rfl rfl rfl ?_ ?_|refine Zcq rfl rfl ?_ ?_|refine Zcr rfl rfl ?_ ?_)):p:=h
theorem _root_.Go.AM.au14{p:Prop}(h:p:=by repeat(first|exact Zck|(refine Zcl ?_ ?_;·(first|exact Rn.any|exact Rn.x1 rfl rfl|exact Rn.x2 rfl rfl|exact Rn.x3 rfl rfl|exact Rn.x4 rfl rfl|exact Rn.x5 rfl|exact Rn.x6 rfl|exact Rn.x7 rfl|(refine Rn.slot ?_ ?_;(first|rfl|(rw[ZaV];rfl));(first|rfl|(simp only[noRef,noRefs,Qag,Zad,Zac,Zag,Qaa,Qan,Qab,QaQ];done)))|(refine Rn.fn ?_ ?_<;>(repeat'(first|exact Zcs|refine Zct ?_ ?_|exact Zcd rfl|exact Rn.x6 rfl|exact Rn.x2 rfl rfl|exact Rn.x5 rfl|exact Rn.x1 rfl rfl))))))):p:=h
theorem index186(l:List (Nat×Int))(q:l.length<=1000000):PSpec Tryz.prog 186 [tes l,.fn 94 [] []] (.int .i64 (fst0 l)):=by
 refine Zcg 64 ok186 rfl (by simp only[noRefs,noRef,QaQ];rfl) rfl ?_;have p:=QcY l;unfold s186;refine ZcF ?_;refine QaN 100 (fun i:Nat=>[(0,tes l),(1,.fn 94 [] []),(7,.int .i64 l.length),(8,.int .i64 i)]) (fun _=>[]) (fun i=>i<=l.length/\∀(j:Nat)y,j<i->l[j]?=some y->y.2≠0) (fun i=>l.length-i) 0 ⟨[],rfl,au0,au13,au14⟩ ⟨Zah _,fun j y d=>absurd d (ZaD _)⟩ ?_;rintro i⟨hi,m⟩;by_cases a:i<l.length
 ·obtain⟨x,c⟩:=Qap a;have g:=zero94 x;by_cases f:x.2=0
  ·have e:decide (x.2=0)=true:=by simp[f]
   rw[e]at g;refine ZcG (ZcN a (Qdj c)) ?_;refine cpc g ?_;refine ZcF ?_;refine⟨.inr trivial,_,rfl,?_⟩;have h1:¬l.all (fun x=>!decide (x.2=0))=true:=by intro h;have:=ZaG.1 h x (Zaf c);simp[f]at this
   have o:l.findIdx (fun x=>decide (x.2=0))=i:=by rw[List.findIdx_eq a];refine⟨by rw[Zal a]at c;cases c;simp[f],fun j d=>?_⟩;have:=m j l[j] d (Zal (by omega));simpa using this
   unfold fst0;rw[if_neg h1,o];rfl
  have e:decide (x.2=0)=false:=by simp[f]
  rw[e]at g;refine ZcG (ZcN a (Qdj c)) ?_;refine cpc g ?_;refine ZcF ?_;refine⟨i+1,by omega,⟨by omega,fun j y d k=>?_⟩,⟨[],rfl,au0,au13,au14⟩⟩;by_cases e:j=i;·subst e;rw[c]at k;cases k;exact f
  exact m j y (by omega) k
 have h1:l.all (fun x=>!decide (x.2=0))=true:=by rw[ZaG];intro x c;obtain⟨j,d,n⟩:=Zbf c;simpa using m j x (by omega) (by rw[Zal d,n])
 refine ZcG a ?_;refine⟨.inr trivial,_,rfl,?_⟩;unfold fst0;rw[if_pos h1];rfl
def flt0(l:List (Nat×Int)):List (Nat×Int):=l.filter fun t=>!(decide (t.2=0))
theorem Qkg{l:List (Nat×Int)}{j:Nat}{v:Nat×Int}(h:l[j]?=some v):flt0 (l.take (j+1))=if v.2=0 then flt0 (l.take j)else flt0 (l.take j)++[v]:=by unfold flt0;rw[ZaQ,h,Option.toList,Zbn];by_cases a:v.2=0<;>simp[a]
def delT(l:List (Nat×Int)):List (Nat×Int):=flt0 l++List.replicate (l.length-(flt0 l).length) (0,0)
theorem Qra{l:List (Nat×Int)}(h:l.all (fun x=>!decide (x.2=0))=true):flt0 l=l:=by unfold flt0;exact ZbP.2 fun x a=>ZaG.1 h x a
theorem Qp2{k:Nat}:(List.replicate k [AV.int .i64 0,AV.int .i64 0]).flatten=(List.replicate k ((0,0):Nat×Int)).flatMap teC:=by induction k with|zero=>rfl|succ k a=>rw[ZaW,Zbs,a];rfl
theorem QiW:∀{l:List (Nat×Int)}{i:Nat},(l.flatMap teC).take (i*2)=(l.take i).flatMap teC|[],i=>by simp|a::l,0=>by simp|a::l,i+1=>by rw[Zav,ZaY,Zav,<-QiW,Zbc];simp[teC]
theorem del93(l:List (Nat×Int))(M:l.length<=1000000):HSpec Tryz.prog 93 [.sl 97 0 0 l.length 2,.fn 94 [] []] (hp [(97,.cells 0 (l.flatMap teC))]) (.sl 97 0 0 (flt0 l).length 2) (hp [(97,.cells 0 ((delT l).flatMap teC))]):=by
 refine HSpec.QnC (m:=98) 100 ok93 rfl rfl ?_;have J:=QcY l;unfold s93;refine ZcF ?_;refine chc (Zcx (ZcA (FrzTo.all gg J) (ZcA (Zch _) Zcz)) (index186 l M) rfl) ?_;by_cases a:l.all (fun x=>!decide (x.2=0))=true;·have u:fst0 l=-1:=if_pos a;refine ZcG u ?_;refine⟨.inr trivial,_,rfl,?_⟩;unfold delT;rw[Qra a,ZbT,List.replicate_zero,Zao];exact⟨[(97,.nil)],rfl,au0,au13,au14⟩
 have u:fst0 l=(l.findIdx (fun x=>decide (x.2=0)):Int):=if_neg a;have hex:∃x∈l,decide (x.2=0)=true:=by have:¬∀x∈l,(!decide (x.2=0))=true:=fun h=>a (ZaG.2 h);obtain⟨x,q⟩:=Classical.not_forall.1 this;obtain⟨q,K⟩:=Classical.not_imp.1 q;exact⟨x,q,by simpa using K⟩
 have m:l.findIdx (fun x=>decide (x.2=0))<l.length:=Zbj hex;obtain⟨i0,z⟩:∃i0,i0=l.findIdx (fun x=>decide (x.2=0)):=⟨_,rfl⟩;rw[<-z]at u m;have H:(l[i0]).2=0:=by have:=List.findIdx_getElem (w:=by rw[<-z];exact m) (xs:=l) (p:=fun x=>decide (x.2=0));simp only[<-z]at this;simpa using this
 have p:flt0 (l.take i0)=l.take i0:=by unfold flt0;refine ZbP.2 fun x q=>?_;obtain⟨j,E,rfl⟩:=Zbf q;rw[Zas]at E;have:=List.not_of_lt_findIdx (xs:=l) (p:=fun x=>decide (x.2=0)) (i:=j) (by rw[<-z];omega);rw[List.getElem_take];simpa using this
 have A:flt0 (l.take (i0+1))=l.take i0:=by rw[Qkg (Zal m),if_pos H,p]
 have B:¬(i0:Int)=-1:=by omega
 refine ZcG (ZcN u B) ?_;refine QaN 110 (fun t:Nat×Nat×List (Nat×Int)=>[(0,.sl 97 0 0 l.length 2),(1,.fn 94 [] []),(5,.int .i64 t.2.1),(6,.int .i64 t.1)]) (fun t=>[(97,.cells 0 (t.2.2.flatMap teC))]) (fun t=>t.1<=l.length/\t.2.1<t.1/\t.2.2.length=l.length/\t.2.2.take t.2.1=flt0 (l.take t.1)/\t.2.2.drop t.1=l.drop t.1) (fun t=>l.length-t.1) (i0+1,i0,l) ⟨[(97,.nil)],rfl,au0,au13,au14⟩ ⟨by dsimp only;omega,by dsimp only;omega,rfl,A.symm,rfl⟩ ?_;rintro⟨j,i,C⟩⟨E,F,g,n,y⟩;dsimp only at E F g n y⊢;have c:=QcY C;by_cases f:j<l.length
 ·obtain⟨v,I⟩:=Qap f;have s:C[j]?=some v:=by
   have:(C.drop j)[0]?=(l.drop j)[0]?:=by rw[y]
   simpa[I]using this
  have w:=Qkg I;have k:=zero94 v;have g1:j*2+2<=l.length*2:=by omega
  have g2:i*2+2<=l.length*2:=by omega
  by_cases hm:v.2=0
  ·have G:decide (v.2=0)=true:=by simp[hm]
   rw[G]at k;rw[if_pos hm]at w;refine ZcG (ZcQ f g c g1 (Qdj s)) ?_;refine chc (k.toH _) ?_;refine ZcF ?_;refine⟨(j+1,i,C),by dsimp only;omega,⟨by dsimp only;omega,by dsimp only;omega,g,by rw[w];exact n,?_⟩,?_⟩;·dsimp only;have:=congrArg (List.drop 1) y;simpa[ZaU]using this
   exact⟨[(97,.nil)],rfl,au0,au13,au14⟩
  have G:decide (v.2=0)=false:=by simp[hm]
  rw[G]at k;rw[if_neg hm]at w;refine ZcG (ZcQ f g c g1 (Qdj s)) ?_;refine chc (k.toH _) ?_;have d:i<l.length:=by omega
  refine ZcG (ZcQ d g c g2 (Qp1 (l:=C) (i:=i) (x:=v) (by omega))) ?_;refine⟨(j+1,i+1,C.set i v),by dsimp only;omega,⟨by dsimp only;omega,by dsimp only;omega,by simp[g],?_,?_⟩,?_⟩;·dsimp only;rw[w,<-n,ZaQ,List.getElem?_set_self (by omega),List.take_set,List.set_eq_of_length_le (by rw[Zas];omega)];rfl
  ·dsimp only;rw[List.drop_set_of_lt (by omega)];have:=congrArg (List.drop 1) y;simpa[ZaU]using this
  exact⟨[(97,.nil)],rfl,au0,au13,au14⟩
 have L:j=l.length:=by omega
 subst L;rw[Zay]at n;have d:(i:Int)<=(l.length:Int):=by omega
 refine ZcG (ZcN f d) ?_;refine QlR gg (by omega) (by rw[c,g];omega) rfl (by decide) (by decide) ?_;refine ZcG d ?_;refine⟨.inr trivial,_,rfl,?_⟩;have o:(flt0 l).length=i:=by rw[<-n,Zas];omega
 have r:putR (C.flatMap teC) (i*2) (List.replicate (l.length-i) [AV.int .i64 0,AV.int .i64 0]).flatten=(delT l).flatMap teC:=by rw[QeF (by rw[c,g];omega),Qp2,QiW,n];unfold delT;rw[o,Zan,List.drop_of_length_le (by rw[c,g,QcY,ZbI];omega),Zao]
 rw[o,r];exact⟨[(97,.nil)],rfl,au0,au13,au14⟩
end Go.AM.SU
namespace Go.AM.SO
open Go.Proofs Go.AM.SD Go.AM.SE
theorem convB1{P:Program}{N:NM}{d:Option Nat}{r:List SOper}{dead:List Nat}{fs:List Fr}{n:Nat}{T:Tmps}{h:Heap}{Q:QC}{b g x:Nat}(a:h.get b=some (.cells g [.int .u8 (x:Int)]))(hk:wR P N r dead fs (n+1) (putD T d (.str [UInt8.ofNat x])) h Q):wM P N (aConvB (.sl b g 0 1 1)) d r dead fs n T h Q:=by
 refine⟨_,h,?_,hk⟩;have c:Nat.beq g g=true:=by simp
 simp[aConvB,aSrc,HM.cells,HM.run,a,c,bytesOf]
theorem QcZ(F:List Nat)(i:Nat):noRefs (evP F i)=true:=by unfold evP;exact Qa1 (fun j=>rfl) _
theorem _root_.Go.AM.au15{p:Prop}(h:p:=by repeat(first|exact Zck|(refine Zcl ?_ ?_;·(first|exact Rn.any|exact Rn.x1 rfl rfl|exact Rn.x2 rfl rfl|exact Rn.x3 rfl rfl|exact Rn.x4 rfl rfl|exact Rn.x5 rfl|exact Rn.x6 rfl|exact Rn.x7 rfl|(refine Rn.slot ?_ ?_;(first|rfl|(rw[ZaV];rfl));(first|rfl|(simp only[noRef,noRefs,Qag,Zad,Zac,Zag,Qaa,Qan,Qab,QaI];done)))|(refine Rn.fn ?_ ?_<;>(repeat'(first|exact Zcs|refine Zct ?_ ?_|exact Zcd rfl|exact Rn.x6 rfl|exact Rn.x2 rfl rfl|exact Rn.x5 rfl|exact Rn.x1 rfl rfl))))))):p:=h
theorem events88(F:List Nat)(q:F.length=5)(d:∀i,F.getD i 0<256):PSpec Tryz.prog 88 [.agg (u8s F)] (.fsl (evP F 5) 5 5):=by
 refine Zcf 64 ok88 rfl (by simp only[noRefs,noRef,QaI];rfl) (by simp only[noRef];exact QcZ _ _) ?_;unfold s88;refine ZcL ?_;refine QaN 100 (fun i:Nat=>[(1,.ptr 64 0 0),(3,.sl 50 0 0 i 5),(4,.int .i64 i)]) (fun i=>[(50,.cells 0 (evP F i)),(64,.cells 0 (u8s F))]) (fun i=>i<=5) (fun i=>5-i) 0 ⟨[(50,.nil),(64,.blk 64 0)],rfl,au0,?_,au15⟩ (Zah _) ?_;·exact Zco rfl rfl (Zcn rfl rfl rfl (Zce (QaI _)) Zcm)
 rintro i hi;by_cases n:i<5
 ·have a:(i:Int)<5:=by omega
  have hu:(u8s F)[i]?=some (.int .u8 ((F.getD i 0:Nat):Int)):=Qiq (by rw[Zal (by omega)];simp[List.getD,Zal (show i<F.length by omega)]);have g:=d i;have j:=@Ql2 F i;have h:=@QiT F i;generalize F.getD i 0=b at hu g j;have k:wr .u8 ((97:Int)+(i:Int))=((97+i:Nat):Int):=by rw[wr_u8 (by omega) (by omega)];omega
  refine ZcM (ZcQ a hu h k @QqM) ?_;refine convB1 gg ?_;have r:((97+i:Nat):Int)=((97+i:Nat):Int):=rfl;by_cases f:48<=b/\b<52
  ·have o:(48:Int)<=(b:Int):=by omega
   have c:(b:Int)<52:=by omega
   have l:(b:Int)-47=((b-47:Nat):Int):=by omega
   have ev:evP F i++[.str [UInt8.ofNat (97+i)],.bool false,.bool false,.bool false,.int .i64 ((b-47:Nat):Int)]=evP F (i+1):=by rw[j];simp[evC,evOf,f]
   refine ZcM (ZcR a hu h o c l) ?_;refine⟨i+1,by omega,by omega,?_⟩;rw[ev];refine⟨[(50,.blk 50 1),(64,.blk 64 0)],rfl,au0,?_,au15⟩;exact Zcn rfl rfl gg (Zce (QcZ _ _)) (Zcn rfl rfl gg (Zce (QaI _)) Zcm)
  have ev:evP F i++[.str [UInt8.ofNat (97+i)],.bool (decide (b&&&1=1)),.bool (decide (b&&&2=2)),.bool (decide (b&&&4=4)),.int .i64 0]=evP F (i+1):=by rw[j];simp[evC,evOf,f]
  have d1:decide (((b&&&1:Nat):Int)=1)=decide (b&&&1=1):=decide_eq_decide.2 (by omega);have d2:decide (((b&&&2:Nat):Int)=2)=decide (b&&&2=2):=decide_eq_decide.2 (by omega);have d4:decide (((b&&&4:Nat):Int)=4)=decide (b&&&4=4):=decide_eq_decide.2 (by omega);have m:=QpV g;have a2:=QpW g;have a4:=QpX g;by_cases p:48<=b
  ·have c:(48:Int)<=(b:Int):=by omega
   have l:¬(b:Int)<52:=by omega
   refine ZcM (ZcW a hu h c l m a2 a4 d1 d2 d4) ?_;refine⟨i+1,by omega,by omega,?_⟩;rw[ev];refine⟨[(50,.blk 50 1),(64,.blk 64 0)],rfl,au0,?_,au15⟩;exact Zcn rfl rfl gg (Zce (QcZ _ _)) (Zcn rfl rfl gg (Zce (QaI _)) Zcm)
  have c:¬(48:Int)<=(b:Int):=by omega
  refine ZcM (ZcV a hu h c m a2 a4 d1 d2 d4) ?_;refine⟨i+1,by omega,by omega,?_⟩;rw[ev];refine⟨[(50,.blk 50 1),(64,.blk 64 0)],rfl,au0,?_,au15⟩;exact Zcn rfl rfl gg (Zce (QcZ _ _)) (Zcn rfl rfl gg (Zce (QaI _)) Zcm)
 have a:¬(i:Int)<5:=by omega
 have e:i=5:=by omega
 subst e;refine ZcM a ?_;refine⟨.inr trivial,_,rfl,?_⟩;exact Zcv rfl QiT (Zce (QcZ _ _))
end Go.AM.SO
namespace Go.AM.ST
open Go.Proofs Go.AM.SD
noncomputable section
def bitsL(s:Nat):List Nat:=(List.range 5).filter fun i=>s.testBit i
def isV(v:AV)(u:AV):Bool:=eqAV u v
theorem Qp3{v:AV}:∀u,isV v u=true->u=v:=fun u h=>Qc8 _ _ h
def unionB(a b:Nat):Bool:=callR ansB noOrc SK.ft.get (exR ansB noOrc SK.ft.get 1000) (.c .pure) 90 [sliN (bitsL a),sliN (bitsL b)] .e 64 (fun u _ _=>isV (sliN (bitsL (a|||b))) u)
theorem Qrb{a b:Nat}(h:unionB a b=true):PSpec Tryz.prog 90 [sliN (bitsL a),sliN (bitsL b)] (sliN (bitsL (a|||b))):=QbL (t:=SK.ft) SK.ft_ok Qda (d:=1000) (isV _) Qp3 h
end
end Go.AM.ST
namespace Go.AM.ST
open Go.Proofs Go.AM.SD
noncomputable section
def rowB(a n:Nat):Bool:=@Nat.rec (fun _=>Bool) true (fun b c=>ifB (unionB a b) c false) n
theorem row_1:rowB 1 32=true:=by kernel_rfl
theorem row_2:rowB 2 32=true:=by kernel_rfl
theorem row_3:rowB 3 32=true:=by kernel_rfl
theorem row_4:rowB 4 32=true:=by kernel_rfl
theorem row_5:rowB 5 32=true:=by kernel_rfl
theorem row_6:rowB 6 32=true:=by kernel_rfl
theorem row_7:rowB 7 32=true:=by kernel_rfl
theorem row_8:rowB 8 32=true:=by kernel_rfl
theorem row_9:rowB 9 32=true:=by kernel_rfl
theorem Qti:rowB 10 32=true:=by kernel_rfl
theorem Qtj:rowB 11 32=true:=by kernel_rfl
theorem Qtk:rowB 12 32=true:=by kernel_rfl
theorem Qtl:rowB 13 32=true:=by kernel_rfl
theorem Qtm:rowB 14 32=true:=by kernel_rfl
theorem Qtn:rowB 15 32=true:=by kernel_rfl
theorem Qto:rowB 16 32=true:=by kernel_rfl
theorem Qtp:rowB 17 32=true:=by kernel_rfl
theorem Qtq:rowB 18 32=true:=by kernel_rfl
theorem Qtr:rowB 19 32=true:=by kernel_rfl
theorem Qts:rowB 20 32=true:=by kernel_rfl
theorem Qtt:rowB 21 32=true:=by kernel_rfl
theorem Qtu:rowB 22 32=true:=by kernel_rfl
theorem Qtv:rowB 23 32=true:=by kernel_rfl
theorem Qtw:rowB 24 32=true:=by kernel_rfl
theorem Qtx:rowB 25 32=true:=by kernel_rfl
theorem Qty:rowB 26 32=true:=by kernel_rfl
theorem Qtz:rowB 27 32=true:=by kernel_rfl
theorem QtA:rowB 28 32=true:=by kernel_rfl
theorem QtB:rowB 29 32=true:=by kernel_rfl
theorem QtC:rowB 30 32=true:=by kernel_rfl
theorem QtD:rowB 31 32=true:=by kernel_rfl
theorem Qp4{a:Nat}:∀{n b:Nat},rowB a n=true->b<n->unionB a b=true
 |0,_,_,h=>absurd h (ZaD _)|n+1,b,c,d=>by
  have e:rowB a (n+1)=ifB (unionB a n) (rowB a n) false:=rfl;rw[e,QaG]at c;split at c
  ·rename_i h;rcases Nat.lt_succ_iff_lt_or_eq.1 d with h1|rfl;·exact Qp4 c h1
   exact h
  cases c
theorem Qow{a b:Nat}(f:0<a)(c:a<32)(d:b<32):PSpec Tryz.prog 90 [sliN (bitsL a),sliN (bitsL b)] (sliN (bitsL (a|||b))):=by
 have h:rowB a 32=true:=by
  have:a=1\/a=2\/a=3\/a=4\/a=5\/a=6\/a=7\/a=8\/a=9\/a=10\/a=11\/a=12\/a=13\/a=14\/a=15\/a=16\/a=17\/a=18\/a=19\/a=20\/a=21\/a=22\/a=23\/a=24\/a=25\/a=26\/a=27\/a=28\/a=29\/a=30\/a=31:=by omega
  rcases this with rfl|rfl|rfl|rfl|rfl|rfl|rfl|rfl|rfl|rfl|rfl|rfl|rfl|rfl|rfl|rfl|rfl|rfl|rfl|rfl|rfl|rfl|rfl|rfl|rfl|rfl|rfl|rfl|rfl|rfl|rfl;·exact row_1
  ·exact row_2
  ·exact row_3
  ·exact row_4
  ·exact row_5
  ·exact row_6
  ·exact row_7
  ·exact row_8
  ·exact row_9
  ·exact Qti
  ·exact Qtj
  ·exact Qtk
  ·exact Qtl
  ·exact Qtm
  ·exact Qtn
  ·exact Qto
  ·exact Qtp
  ·exact Qtq
  ·exact Qtr
  ·exact Qts
  ·exact Qtt
  ·exact Qtu
  ·exact Qtv
  ·exact Qtw
  ·exact Qtx
  ·exact Qty
  ·exact Qtz
  ·exact QtA
  ·exact QtB
  ·exact QtC
  exact QtD
 exact Qrb (Qp4 h d)
end
end Go.AM.ST
namespace Go.AM.ST
open Go.Proofs Go.AM.SD Go.AM.SE
noncomputable section
def allV(a:Nat):AV:=if a=0 then .nilsl else sliN (bitsL a)
def unionN(b:Nat):Bool:=callR ansB noOrc SK.ft.get (exR ansB noOrc SK.ft.get 1000) (.c .pure) 90 [.nilsl,sliN (bitsL b)] .e 64 (fun u _ _=>isV (allV b) u)
theorem Qp5{b:Nat}(h:unionN b=true):PSpec Tryz.prog 90 [.nilsl,sliN (bitsL b)] (allV b):=QbL (t:=SK.ft) SK.ft_ok Qda (d:=1000) (isV _) Qp3 h
def rowN(n:Nat):Bool:=@Nat.rec (fun _=>Bool) true (fun b a=>ifB (unionN b) a false) n
theorem Qrc:rowN 32=true:=by kernel_rfl
theorem QnI:∀{n b:Nat},rowN n=true->b<n->unionN b=true
 |0,_,_,h=>absurd h (ZaD _)|n+1,b,a,c=>by
  have e:rowN (n+1)=ifB (unionN n) (rowN n) false:=rfl;rw[e,QaG]at a;split at a
  ·rename_i h;rcases Nat.lt_succ_iff_lt_or_eq.1 c with h1|rfl;·exact QnI a h1
   exact h
  cases a
theorem Qp6(b:Nat):SD.part 5 b=bitsL (b%32):=by unfold bitsL SD.part;apply ZbM;intro x a;have:=Zau.1 a;rw[show 32=2^5 from rfl,Nat.testBit_mod_two_pow];simp[this]
theorem union90{a b:Nat}(f:a<32):PSpec Tryz.prog 90 [allV a,sliN (SD.part 5 b)] (allV (a|||b%32)):=by
 rw[Qp6];have d:b%32<32:=Nat.mod_lt _ (by decide);by_cases c:a=0;·subst c;rw[Nat.zero_or];exact Qp5 (QnI Qrc d)
 have h1:¬(a|||b%32)=0:=fun e=>c (Nat.or_eq_zero_iff.1 e).1;unfold allV;rw[if_neg c,if_neg h1];exact Qow (by omega) f d
end
end Go.AM.ST
namespace Go.AM.SU
open Go.Proofs Go.AM.SD Go.AM.SE Go.AM.SO
theorem QcP(l:List Nat):(u8s l).length=l.length:=by simp[u8s]
theorem graph91(al:List Nat)(st mk:Nat)(T:List Nat)(j:al.Pairwise (·<·))(n:∀x∈al,x<5)(o:st<256)(g:mk<256)(i:T.length=25)(d:∀x∈T,x<256):PSpec Tryz.prog 91 [sliN al,grV st mk T,.int .i64 3] (aV (mkA al (st%3) mk T)):=by
 refine Zcf 40 ok91 rfl (by(try simp only[noRefs,Qaa,QaI,noRef,noRefs,Qab,QaQ,Zad,Zac])<;>rfl) (Qdf _) ?_;have k:=Make32 al (st%3) mk T j n (by omega) g i d;have c:(u8s T).length=25:=by rw[QcP,i]
 have h:(u8s T).take 25=u8s T:=by rw[<-c,Zay]
 have f:(st:Int).tmod 3=((st%3:Nat):Int):=by rw[Zbm (Zbh _)];norm_cast
 have a:(u8s T).all AV.one=true:=by
  have:∀l:List Nat,(u8s l).all AV.one=true:=fun l=>by induction l with|nil=>rfl|cons x l m=>show(AV.one _&&(u8s l).all AV.one)=true;rw[m];rfl
  exact this T
 unfold s91;refine ZcG (ZcP c h f a) ?_;refine cp k ?_;generalize mkA al (st%3) mk T=A at*;refine ZcG (ZcN a c) ?_;refine⟨.inr trivial,_,rfl,?_⟩;exact Zcd (Qdf _)
theorem Qfp{i:Nat}(hi:i<10):aConvS (.int .i32 (48+(i:Int)))=some (.str [UInt8.ofNat (48+i)]):=by
 have:i=0\/i=1\/i=2\/i=3\/i=4\/i=5\/i=6\/i=7\/i=8\/i=9:=by omega
 rcases this with rfl|rfl|rfl|rfl|rfl|rfl|rfl|rfl|rfl|rfl<;>rfl
theorem _root_.Go.AM.au16{p:Prop}(h:p:=by repeat'(first|exact Zcm|(refine Zce ?_;first|rfl|(simp only[noRef,noRefs,Qag,Zad,Zac,Zag,Qaa,QaI,Qan,Qab,QaQ];done))|exact Zcy rfl|exact Zcs|exact(True.intro:RnM _ _ _ [] [])|refine Zct ?_ ?_|(refine Zcd ?_;first|rfl|(simp only[noRef,noRefs,Qag,Zad,Zac,Zag,Qaa,QaI,Qan,Qab,QaQ];done))|exact Rn.x1 rfl rfl|exact Rn.x2 rfl rfl|exact Rn.x3 rfl rfl|exact Rn.x4 rfl rfl|exact Rn.x5 rfl|exact Rn.x6 rfl|exact Rn.x7 rfl|refine Zco rfl rfl ?_|refine Zcn rfl rfl rfl ?_ ?_|refine Zcp rfl rfl rfl ?_ ?_|refine Zcq rfl rfl ?_ ?_|refine Zcr rfl rfl ?_ ?_)):p:=h
theorem _root_.Go.AM.au17{p:Prop}(h:p:=by repeat(first|exact Zck|(refine Zcl ?_ ?_;·(first|exact Rn.any|exact Rn.x1 rfl rfl|exact Rn.x2 rfl rfl|exact Rn.x3 rfl rfl|exact Rn.x4 rfl rfl|exact Rn.x5 rfl|exact Rn.x6 rfl|exact Rn.x7 rfl|(refine Rn.slot ?_ ?_;(first|rfl|(rw[ZaV];rfl));(first|rfl|(simp only[noRef,noRefs,Qag,Zad,Zac,Zag,Qaa,QaI,Qan,Qab,QaQ];done)))|(refine Rn.fn ?_ ?_<;>(repeat'(first|exact Zcs|refine Zct ?_ ?_|exact Zcd rfl|exact Rn.x6 rfl|exact Rn.x2 rfl rfl|exact Rn.x5 rfl|exact Rn.x1 rfl rfl))))))):p:=h
theorem events89(s:Nat)(h:s<256):HSpec Tryz.prog 89 [.int .u8 s] .e (.sl 98 0 0 (SD.part 5 s).length 1) (hp [(98,.cells 0 (ints (nz (SD.part 5 s))))]):=by
 refine HSpec.Qbu 64 ok89 rfl ?_;unfold s89;refine ZcF ?_;refine QaN 100 (fun i:Nat=>[(0,.int .u8 s),(3,.sl 50 0 0 (SD.part i s).length 1),(4,.int .i64 i)]) (fun i=>[(50,.cells 0 (ints (nz (SD.part i s))))]) (fun i=>i<=5) (fun i=>5-i) 0 ⟨[(50,.nil)],rfl,au0,au16,au17⟩ (Zah _) ?_;rintro i hi;have f:=@Qdg i s;by_cases g:i<5
 ·have a:(i:Int)<5:=by omega
  by_cases c:s.testBit i=true;·have d:=QdV.2 c;have hp:=Qdz (n:=5) (b:=s) (i:=i);rw[if_pos c]at hp;simp(disch:=first|omega|(simp only[lenW]<;>omega))only[a,QcN (k:=.u8) (show i<=8 by omega),QcO,d,Zai,wW,wV,simprocAttr];refine⟨i+1,by omega,by omega,?_⟩;rw[hp,QaF,Qaw,Zae];exact⟨[(50,.blk 50 1)],rfl,au0,au16,au17⟩
  have d:¬((s/2^i%2:Nat):Int)=1:=fun e=>c (QdV.1 e);have hp:=Qdz (n:=5) (b:=s) (i:=i);rw[if_neg c,Zao]at hp;simp(disch:=first|omega|(simp only[lenW]<;>omega))only[a,QcN (k:=.u8) (show i<=8 by omega),QcO,d,Zai,wW,wV,simprocAttr];refine⟨i+1,by omega,by omega,?_⟩;rw[hp];exact⟨[(50,.blk 50 0)],rfl,au0,au16,au17⟩
 have a:¬(i:Int)<5:=by omega
 have e:i=5:=by omega
 subst e;refine ZcG a ?_;refine⟨.inr trivial,_,rfl,?_⟩;exact⟨[(98,.blk 50 0)],rfl,au0,au16,au17⟩
theorem del40F{A l:List Nat}{h:Heap}(hA:A.length<=1000000)(f:l.length<=1000000)(a:h.get 75=some (.cells 0 [sliN A]))(c:h.get 98=some (.cells 0 (ints (nz l)))):HSpec Tryz.prog 40 [.sl 98 0 0 l.length 1,.fn 92 [] [.ptr 75 0 0]] h (sliN (fltN A l)) ((h.set 98 (.cells 0 (ints (nz (delL A l))))).set 98 (.dead 0)):=by
 have h1:=HSpec.frameB (del40 A l hA f) (OnlyD.cons (OnlyD.sl (.inr rfl)) (OnlyD.cons (OnlyD.fn OnlyD.nil (OnlyD.cons (OnlyD.ptr (.inl rfl)) OnlyD.nil)) OnlyD.nil)) (OnlyD.sl (.inr rfl)) (by simp only[noRefs,noRef,Qaa];rfl) (Qaa _) (Qaa _) a c (by decide) rfl rfl;have hle:(fltN A l).length*1<=(ints (nz (delL A l))).length:=by simp[ints,delL]
 have d:=HSpec.freeze (ds:=ints (nz (delL A l))) h1 (by rw[QaA (by decide)]) (Qb0 _) hle rfl;have e:(ints (nz (delL A l))).take ((fltN A l).length*1)=ints (nz (fltN A l)):=by rw[ZbD];unfold delL;rw[QaF,Qaw,List.take_append_of_le_length (by simp[ints]),ZaT (by simp[ints])]
 rw[e]at d;exact d
theorem Qsc(l:List (Nat×Int)):flatVs (l.flatMap teC)=true:=by induction l with|nil=>rfl|cons x l a=>rw[Zav];exact a
theorem del93F{l:List (Nat×Int)}{h:Heap}(d:l.length<=1000000)(a:h.get 97=some (.cells 0 (l.flatMap teC))):HSpec Tryz.prog 93 [.sl 97 0 0 l.length 2,.fn 94 [] []] h (tes (flt0 l)) ((h.set 97 (.cells 0 ((delT l).flatMap teC))).set 97 (.dead 0)):=by
 have h1:=HSpec.frameA (del93 l d) (OnlyD.cons (OnlyD.sl rfl) (OnlyD.cons (OnlyD.same rfl) OnlyD.nil)) (OnlyD.sl rfl) (QaQ _) (QaQ _) a rfl;have hle:(flt0 l).length*2<=((delT l).flatMap teC).length:=by rw[QcY];simp[delT];omega
 have c:=HSpec.freeze (ds:=(delT l).flatMap teC) h1 (by rw[QaA (by decide)]) (Qsc _) hle rfl;have e:((delT l).flatMap teC).take ((flt0 l).length*2)=(flt0 l).flatMap teC:=by rw[QiW];unfold delT;rw[List.take_left]
 rw[e]at c;exact c
end Go.AM.SU
namespace Go.AM.SU
open Go.Proofs Go.AM.SD Go.AM.SE Go.AM.SO
theorem QnJ:∀l:List Nat,(u8s l).all AV.one=true|[]=>rfl|x::l=>by show(AV.one _&&(u8s l).all AV.one)=true;rw[QnJ l];rfl
section
variable{p:Pln}
theorem Qp7{l:List Nat}{k:Nat}(h:k<l.length):(u8s l)[k]?=some (.int .u8 ((l.getD k 0:Nat):Int)):=by refine Qiq ?_;rw[Zal h,Zak,Zal h];rfl
theorem QiX(h:POk p):(plnC p).length=152:=by show(u8s p.L++_).length=152;rw[Zae,QcP,h.L];rfl
theorem QtE(h:POk p){k:Nat}(hk:k<147):(plnC p)[k]?=some (.int .u8 ((p.L.getD k 0:Nat):Int)):=by show(u8s p.L++_)[k]?=_;rw[Za5 (by rw[QcP,h.L];exact hk),Qp7 (by rw[h.L];exact hk)]
theorem QeU(h:POk p){k:Nat}:(plnC p)[147+k]?=([.fsl (u8s p.X) p.xn 4,.int .i8 p.f0,.int .i8 p.f1,.int .i8 p.f2,.int .i8 p.bd]:List AV)[k]?:=by show(u8s p.L++_)[147+k]?=_;rw[List.getElem?_append_right (by rw[QcP,h.L];omega),QcP,h.L];congr 1;omega
theorem Ql6(h:POk p){k m:Nat}(hk:k+m<=147):((plnC p).drop k).take m=u8s ((p.L.drop k).take m):=by show((u8s p.L++_).drop k).take m=_;rw[List.drop_append_of_le_length (by rw[QcP,h.L];omega),List.take_append_of_le_length (by rw[Za6,QcP,h.L];omega)];simp[u8s,List.map_drop,List.map_take]
theorem QtF(h:POk p){k:Nat}(hk:k+27<=147):((plnC p).drop k).take 27=.int .u8 ((p.L.getD k 0:Nat):Int)::.int .u8 ((p.L.getD (k+1) 0:Nat):Int)::u8s ((p.L.drop (k+2)).take 25):=by
 have a:=h.L;rw[Ql6 h hk];have e:(p.L.drop k).take 27=p.L.getD k 0::p.L.getD (k+1) 0::(p.L.drop (k+2)).take 25:=by rw[Zak,Zak,Zal (show k<p.L.length by omega),Zal (show k+1<p.L.length by omega)];rw[List.drop_eq_getElem_cons (show k<p.L.length by omega),ZaY,List.drop_eq_getElem_cons (show k+1<p.L.length by omega),ZaY];rfl
 rw[e];rfl
theorem L_lt(h:POk p)(k:Nat):p.L.getD k 0<256:=by rw[Zak];cases e:p.L[k]? with|none=>decide|some x=>exact h.L8 x (Zaf e)
theorem X_lt(h:POk p)(k:Nat):p.X.getD k 0<256:=by rw[Zak];cases e:p.X[k]? with|none=>decide|some x=>exact h.X8 x (Zaf e)
theorem pF_lt(h:POk p)(i:Nat):-128<=pF p i/\pF p i<128:=by
 unfold pF;split;·exact h.f0
 split;·exact h.f1
 exact h.f2
theorem QiY(h:POk p):(plnC p).all AV.one=true:=by show(u8s p.L++_).all AV.one=true;rw[ZbW,QnJ];rfl
theorem Qfq:noRefs (plnC p)=true:=by show noRefs (u8s p.L++_)=true;rw[Qag,QaI];simp only[noRefs,noRef,QaI];rfl
theorem Qsd(F:List Nat):AV.fsl (evP F 5) 5 5=evsV (fun i=>evOf (F.getD i 0)):=by congr 1
theorem Qp8(e:Nat->Evt):noRef (evsV e)=true:=rfl
theorem Qbo{ch:UInt8}(l:List (Nat×Aut)):noRefs (l.flatMap (itC ch))=true:=Qa1 (fun x=>by simp only[itC,noRefs,noRef,Qaa,Qad];rfl) l
theorem QaD{ch:UInt8}(l:List (Nat×Aut)):noRef (its ch l)=true:=by simp only[noRef];exact Qbo l
theorem Qse{p:Pln}{i:Nat}:fltN (ST.bitsL (pAll p (pN p))) (SD.part 5 (p.L.getD (91+i) 0))=pW p i:=by unfold fltN pW;apply ZbM;intro x a;have:=partLt x a;show decide (x∈(List.range 5).filter _)=_;simp[this]
theorem Qbj(l:List (Nat×Nat)):noRefs (l.flatMap loC)=true:=Qa1 (fun _=>rfl) l
theorem Qb1(l:List (Nat×Nat)):noRef (los l)=true:=by simp only[noRef];exact Qbj l
theorem Qgh(l:List (Nat×Nat)):(l.flatMap loC).length=l.length*2:=Qbd (k:=2) (fun _=>rfl) l
theorem Qbb(l:List (Nat×List (Nat×Nat))):noRefs (l.flatMap exC)=true:=Qa1 (fun x=>by simp only[exC,noRefs,noRef,Qbj];rfl) l
theorem Qbv(l:List (Nat×List (Nat×Nat))):noRef (exs l)=true:=by simp only[noRef];exact Qbb l
theorem Qel(l:List (Nat×List (Nat×Nat))):(l.flatMap exC).length=l.length*2:=Qbd (k:=2) (fun _=>rfl) l
theorem Qco(l:List (Nat×Int)):noRef (tes l)=true:=by simp only[noRef];exact QaQ l
theorem QcQ(l:List (List (Nat×Int)×Int)):noRefs (l.flatMap coC)=true:=Qa1 (fun x=>by simp only[coC,noRefs,noRef,QaQ];rfl) l
theorem Qkh(l:List (List (Nat×Int)×Int)):noRef (cos l)=true:=by simp only[noRef];exact QcQ l
theorem Qdk{ch:UInt8}{l:List (Nat×Aut)}{i:Nat}{x:Nat×Aut}(h:l[i]?=some x):(l.flatMap (itC ch)).drop (i*5)=.str [ch,UInt8.ofNat (48+x.1)]::sliN x.2.al::.int .i64 (x.2.n:Int)::sliN x.2.ms::egsN x.2.es::(l.drop (i+1)).flatMap (itC ch):=Qbh (f:=itC ch) (k:=5) (fun _=>rfl) h
theorem Qsf{X:List Nat}{i:Nat}(h:i*4+4<=X.length):((u8s X).drop (i*4)).take 4=[.int .u8 ((X.getD (i*4) 0:Nat):Int),.int .u8 ((X.getD (i*4+1) 0:Nat):Int),.int .u8 ((X.getD (i*4+2) 0:Nat):Int),.int .u8 ((X.getD (i*4+3) 0:Nat):Int)]:=by
 have g:∀k,k<4->X.getD (i*4+k) 0=X[i*4+k]!:=fun k hk=>by rw[Zak,List.getElem!_eq_getElem?_getD];rfl
 apply Zba;intro j;by_cases a:j<4
 ·rw[List.getElem?_take_of_lt a,ZbR,Qp7 (by omega)];have:j=0\/j=1\/j=2\/j=3:=by omega
  rcases this with rfl|rfl|rfl|rfl<;>rfl
 rw[Zat (by rw[Zas];omega),Zat (by simp;omega)]
theorem Qbc(c:Cel):noRef (celV c)=true:=by rw[celV,noRef,noRefs,noRefs,noRefs,noRefs,noRefs,Qp8,QaD,QaD,Qbv,Qkh];rfl
theorem QdL{s:List UInt8}{a:Aut}:noRefs [.str s,sliN a.al,.int .i64 (a.n:Int),sliN a.ms,egsN a.es]=true:=by simp only[noRefs,noRef,Qaa,Qad];rfl
theorem Qax{x y:List AV}(a:noRefs x=true)(c:noRefs y=true):noRefs (x++y)=true:=by rw[Qag,a,c];rfl
theorem Qp9{ch:UInt8}{i:Nat}{a:Aut}:List.flatMap (itC ch) [(i,a)]=[.str [ch,UInt8.ofNat (48+i)],sliN a.al,.int .i64 (a.n:Int),sliN a.ms,egsN a.es]:=rfl
theorem QdE{ch:UInt8}(l:List (Nat×Aut)):(l.flatMap (itC ch)).length=l.length*5:=Qbd (k:=5) (fun _=>rfl) l
theorem Qrd{i:Nat}:pCs p (i+1)=pCs p i++[(i,pA p i)]:=by unfold pCs;rw[ZaH,ZaL];rfl
theorem Qre{i:Nat}:pRs p (i+1)=pRs p i++[(i,pR p i)]:=by unfold pRs;rw[ZaH,ZaL];rfl
theorem QiZ{i:Nat}:(pCs p i).length=i:=by simp[pCs]
theorem QnK{i:Nat}:(pRs p i).length=i:=by simp[pRs]
theorem QnL:∀{i:Nat},pAll p i<32|0=>by show 0<32;decide|i+1=>Nat.or_lt_two_pow (n:=5) QnL (Nat.mod_lt _ (by decide))
end
theorem Qox(a:Nat):(ST.allV a).cells=[ST.allV a]:=by unfold ST.allV;split<;>rfl
theorem Qrf(a:Nat):(ST.allV a).one=true:=by unfold ST.allV;split<;>rfl
theorem QmS(a:Nat):noRefs [ST.allV a]=true:=by
 unfold ST.allV;split;·rfl
 simp only[noRefs,noRef,Qaa];rfl
theorem Make26(p:Pln)(h:POk p):PSpec Tryz.prog 26 [plnV p] (celV (mkC p)):=by
 refine Zcf 40 ok26 rfl (by simp only[noRefs,noRef,Qfq];rfl) (Qbc _) ?_;have hlen:=QiX h;have J:=QiY h;have c:=@Qfq p;have h5:(plnC p).take 5=u8s (p.L.take 5):=by simpa using Ql6 h (k:=0) (m:=5) (by omega)
 have B:=events88 (p.L.take 5) (by rw[Zas,h.L];rfl) (fun i=>by rw[Zak];cases e:(p.L.take 5)[i]? with|none=>decide|some x=>exact h.L8 x (ZaP (Zaf e)));rw[Qsd]at B;have n:∀{k},k<147->(plnC p)[k]?=some (.int .u8 ((p.L.getD k 0:Nat):Int)):=fun hk=>QtE h hk;have a5:=n (k:=5) (by omega);have Z:=n (k:=90) (by omega);have R:(plnC p)[147]?=some (.fsl (u8s p.X) p.xn 4):=QeU h (k:=0);have aF:∀i,i<3->(plnC p)[148+i]?=some (.int .i8 (pF p i)):=by
  intro i hi;have:i=0\/i=1\/i=2:=by omega
  rcases this with rfl|rfl|rfl;·exact QeU h (k:=1)
  ·exact QeU h (k:=2)
  exact QeU h (k:=3)
 have Q:(plnC p)[151]?=some (.int .i8 p.bd):=QeU h (k:=4);have G:∀{k},k+27<=147->((plnC p).drop k).take 27=_:=fun hk=>QtF h hk;show wS _ _ _ _ _ (argT 0 [.agg (plnC p)]) _ _;generalize plnC p=C at*;have htm:((p.L.getD 5 0:Nat):Int).tmod 3=((p.L.getD 5 0%3:Nat):Int):=by rw[Zbm (Zbh _)];norm_cast
 have hn:(1:Int)+((p.L.getD 5 0%3:Nat):Int)=(pN p:Int):=by unfold pN;omega
 have hn3:=@pN_le p;unfold s26;refine ZcG (ZcO hlen J h5) ?_;refine cp B ?_;refine ZcG (ZcO a5 htm hn) ?_;refine Qaq 100 (fun i:Nat=>[(1,.ptr 50 0 0),(2,.ptr 51 0 0),(3,.ptr 52 0 0),(4,.ptr 75 0 0),(5,.int .i64 (pN p:Int)),(26,.int .i64 (pN p:Int)),(27,.int .i64 i)]) (fun i=>[(50,.cells 0 C),(51,.cells 0 [.nilsl,.nilsl,.nilsl,.nilsl,.nilsl]),(52,.cells 0 [evsV (fun i=>evOf ((p.L.take 5).getD i 0)),.sl 76 0 0 (pCs p i).length 5,.nilsl,.nilsl,.nilsl]),(75,.cells 0 [ST.allV (pAll p i)]),(76,.cells 0 ((pCs p i).flatMap (itC 99)))]) (fun i=>i<=pN p) (fun i=>pN p-i) 0 0 200 (fun _:Unit=>[(1,.ptr 50 0 0),(2,.ptr 51 0 0),(3,.ptr 52 0 0),(4,.ptr 75 0 0),(5,.int .i64 (pN p:Int))]) (fun _=>[(50,.cells 0 C),(51,.cells 0 [.nilsl,.nilsl,.nilsl,.nilsl,.nilsl]),(52,.cells 0 [evsV (fun i=>evOf ((p.L.take 5).getD i 0)),its 99 (pCs p (pN p)),.nilsl,.nilsl,.nilsl]),(75,.cells 0 [sliN (ST.bitsL (pAll p (pN p)))])]) (fun _=>True) ?_ (Zah _) ?_ ?_;·refine⟨[(50,.blk 40 0),(51,.blk 41 0),(52,.blk 46 0),(75,.blk 48 0),(76,.nil)],rfl,au0,?_,au17⟩;exact Zcn rfl rfl gg (Zce c) (Zcn rfl rfl gg (Zce rfl) (Zcn rfl rfl gg (Zct (Zcd rfl) (Zct (Rn.x4 rfl rfl) (Zce rfl))) (Zcn rfl rfl gg (Zce rfl) (Zco rfl rfl Zcm))))
 ·rintro i hi;by_cases d:i<pN p
  ·have g:(i:Int)<3:=by omega
   have V:=n (k:=6+i) (by omega);have hE:=events16 (p.L.getD (6+i) 0) (L_lt h _);have hU:=ST.union90 (a:=pAll p i) (b:=p.L.getD (6+i) 0) QnL;have hg:=G (k:=9+i*27) (by omega);have K:=graph91 (SD.part 5 (p.L.getD (6+i) 0)) (p.L.getD (9+i*27) 0) (p.L.getD (9+i*27+1) 0) ((p.L.drop (9+i*27+2)).take 25) (Qdp _ _) partLt (L_lt h _) (L_lt h _) (by rw[Zas,Za6,h.L];omega) (fun x hx=>h.L8 x (List.mem_of_mem_drop (ZaP hx)));have hA:mkA (SD.part 5 (p.L.getD (6+i) 0)) (p.L.getD (9+i*27) 0%3) (p.L.getD (9+i*27+1) 0) ((p.L.drop (9+i*27+2)).take 25)=pA p i:=rfl;rw[hA]at K;have hB:pAll p i|||p.L.getD (6+i) 0%32=pAll p (i+1):=rfl;rw[hB]at hU;have a:=@Qrd p i;have l:=@QdE 99 (pCs p i);have f:=@QiZ p i;refine ZcG (ZcP d g V hlen) ?_;refine cp hE ?_;refine ZcF ?_;refine cp hU ?_;have w:=Qfp (i:=i) (by omega);have m:9+i*27+27<=152:=by omega
   refine ZcG (ZcU d g hlen w @Qd9 @Qox @Qrf m hg) ?_;refine cp K ?_;refine ZcG (ZcN l f) ?_;refine⟨i+1,by omega,by omega,?_⟩;rw[a,Zan,Zae,f,Qp9];refine⟨[(50,.blk 50 0),(51,.blk 51 0),(52,.blk 52 0),(75,.blk 75 0),(76,.blk 76 1)],rfl,au0,?_,au17⟩;exact Zcn rfl rfl gg (Zce c) (Zcn rfl rfl gg (Zce rfl) (Zcn rfl rfl gg (Zct (Zcd rfl) (Zct (Rn.x1 rfl rfl) (Zce rfl))) (Zcn rfl rfl gg (Zce (QmS _)) (Zcn rfl rfl gg (Zce (Qax (Qbo _) QdL)) Zcm))))
  have e:i=pN p:=by omega
  subst e;have l:=@QdE 99 (pCs p (pN p));have f:=@QiZ p (pN p);refine ZcG d ?_;refine⟨(),?_⟩;refine⟨[(50,.blk 50 0),(51,.blk 51 0),(52,.blk 52 0),(75,.blk 75 0)],rfl,au0,?_,au17⟩;refine Zcn rfl rfl gg (Zce c) (Zcn rfl rfl gg (Zce rfl) (Zcn rfl rfl gg (Zct (Zcd rfl) (Zct (Zcu rfl rfl rfl rfl (QdE _) (Zce (Qbo _))) (Zce rfl))) (Zcn rfl rfl gg (Zct ?_ Zcs) Zcm)));unfold ST.allV;split;·rename_i j;rw[j];exact Rn.nilK
  exact Zcd (Qab _)
 rintro _ _;have u:((p.L.getD 90 0:Nat):Int).tmod 3=(pM p:Int):=by rw[Zbm (Zbh _)];unfold pM;norm_cast
 have hm2:=@pM_le p;refine ZcG (ZcN Z u) ?_;refine Qaq 100 (fun i:Nat=>[(1,.ptr 50 0 0),(2,.ptr 51 0 0),(3,.ptr 52 0 0),(4,.ptr 75 0 0),(5,.int .i64 (pN p:Int)),(59,.int .i64 (pM p:Int)),(60,.int .i64 i)]) (fun i=>[(50,.cells 0 C),(51,.cells 0 [.nilsl,.nilsl,.nilsl,.nilsl,.nilsl]),(52,.cells 0 [evsV (fun i=>evOf ((p.L.take 5).getD i 0)),its 99 (pCs p (pN p)),.sl 77 0 0 (pRs p i).length 5,.nilsl,.nilsl]),(75,.cells 0 [sliN (ST.bitsL (pAll p (pN p)))]),(77,.cells 0 ((pRs p i).flatMap (itC 114)))]) (fun i=>i<=pM p) (fun i=>pM p-i) 0 2 200 (fun _:Unit=>[(1,.ptr 50 0 0),(2,.ptr 51 0 0),(3,.ptr 52 0 0),(5,.int .i64 (pN p:Int))]) (fun _=>[(50,.cells 0 C),(51,.cells 0 [.nilsl,.nilsl,.nilsl,.nilsl,.nilsl]),(52,.cells 0 [evsV (fun i=>evOf ((p.L.take 5).getD i 0)),its 99 (pCs p (pN p)),its 114 (pRs p (pM p)),.nilsl,.nilsl])]) (fun _=>True) ?_ (Zah _) ?_ ?_;·refine⟨[(50,.blk 50 0),(51,.blk 51 0),(52,.blk 52 0),(75,.blk 75 0),(77,.nil)],rfl,au0,?_,au17⟩;exact Zcn rfl rfl gg (Zce c) (Zcn rfl rfl gg (Zce rfl) (Zcn rfl rfl gg (Zct (Zcd rfl) (Zct (Zcd (QaD _)) (Zct (Rn.x4 rfl rfl) (Zce rfl)))) (Zcn rfl rfl gg (Zct (Zcd (Qab _)) Zcs) (Zco rfl rfl Zcm))))
 ·rintro i hi;by_cases d:i<pM p
  ·have g:(i:Int)<2:=by omega
   have V:=n (k:=91+i) (by omega);have hE:=events89 (p.L.getD (91+i) 0) (L_lt h _);have hg:=G (k:=93+i*27) (by omega);have K:=graph91 (pW p i) (p.L.getD (93+i*27) 0) (p.L.getD (93+i*27+1) 0) ((p.L.drop (93+i*27+2)).take 25) (Qkf _) (pW_lt _) (L_lt h _) (L_lt h _) (by rw[Zas,Za6,h.L];omega) (fun x hx=>h.L8 x (List.mem_of_mem_drop (ZaP hx)));have hA:mkA (pW p i) (p.L.getD (93+i*27) 0%3) (p.L.getD (93+i*27+1) 0) ((p.L.drop (93+i*27+2)).take 25)=pR p i:=rfl;rw[hA]at K;have a:=@Qre p i;have l:=@QdE 114 (pRs p i);have f:=@QnK p i;have w:=Qfp (i:=i) (by omega);have m:93+i*27+27<=152:=by omega
   have hW:fltN (ST.bitsL (pAll p (pN p))) (SD.part 5 (p.L.getD (91+i) 0))=pW p i:=Qse;have U:(ST.bitsL (pAll p (pN p))).length<=1000000:=Zax (Qdg (i:=5)) (by decide);have M:(SD.part 5 (p.L.getD (91+i) 0)).length<=1000000:=Zax (Qdg (i:=5)) (by decide);generalize ST.bitsL (pAll p (pN p))=A at*;refine ZcG (ZcP d g V hlen) ?_;refine ch (HSpec.of_O (b:=98) (by(try simp only[noRefs,Qaa,QaI,noRef,noRefs,Qab,QaQ,Zad,Zac])<;>rfl) hE (by repeat(first|exact Fresh.e|exact Fresh.le (by assumption) (by omega)|refine Fresh.set ?_ (by omega) (by omega))) rfl) ?_;refine ZcF ?_;refine chc (del40F U M gg gg) ?_;rw[hW];refine ZcG (ZcR d g hlen w m hg) ?_;refine cp K ?_;refine ZcG (ZcN l f) ?_;refine⟨i+1,by omega,by omega,?_⟩;rw[a,Zan,Zae,f,Qp9];refine⟨[(50,.blk 50 0),(51,.blk 51 0),(52,.blk 52 0),(75,.blk 75 0),(77,.blk 77 1)],rfl,au0,?_,au17⟩;exact Zcn rfl rfl gg (Zce c) (Zcn rfl rfl gg (Zce rfl) (Zcn rfl rfl gg (Zct (Zcd rfl) (Zct (Zcd (QaD _)) (Zct (Rn.x1 rfl rfl) (Zce rfl)))) (Zcn rfl rfl gg (Zct (Zcd (Qab _)) Zcs) (Zcn rfl rfl gg (Zce (Qax (Qbo _) QdL)) Zcm))))
  have e:i=pM p:=by omega
  subst e;have l:=@QdE 114 (pRs p (pM p));have f:=@QnK p (pM p);refine ZcG d ?_;refine⟨(),?_⟩;refine⟨[(50,.blk 50 0),(51,.blk 51 0),(52,.blk 52 0)],rfl,au0,?_,au17⟩;exact Zcn rfl rfl gg (Zce c) (Zcn rfl rfl gg (Zce rfl) (Zcn rfl rfl gg (Zct (Zcd rfl) (Zct (Zcd (QaD _)) (Zct (Zcu rfl rfl rfl rfl (QdE _) (Zce (Qbo _))) (Zce rfl)))) Zcm))
 rintro _ _;refine ZcG R ?_;refine Qaq 100 (fun i:Nat=>[(1,.ptr 50 0 0),(2,.ptr 51 0 0),(3,.ptr 52 0 0),(5,.int .i64 (pN p:Int)),(89,.fsl (u8s p.X) p.xn 4),(90,.int .i64 (p.xn:Int)),(91,.int .i64 i)]) (fun i=>[(50,.cells 0 C),(51,.cells 0 [.nilsl,.nilsl,.nilsl,.nilsl,.nilsl]),(52,.cells 0 [evsV (fun i=>evOf ((p.L.take 5).getD i 0)),its 99 (pCs p (pN p)),its 114 (pRs p (pM p)),.sl 78 0 0 (pXs p i).length 2,.nilsl]),(78,.cells 0 ((pXs p i).flatMap exC))]) (fun i=>i<=p.xn/\i<=2) (fun i=>p.xn-i) 0 4 200 (fun _:Unit=>[(1,.ptr 50 0 0),(2,.ptr 51 0 0),(3,.ptr 52 0 0),(5,.int .i64 (pN p:Int))]) (fun _=>[(50,.cells 0 C),(51,.cells 0 [.nilsl,.nilsl,.nilsl,.nilsl,.nilsl]),(52,.cells 0 [evsV (fun i=>evOf ((p.L.take 5).getD i 0)),its 99 (pCs p (pN p)),its 114 (pRs p (pM p)),exs (pXs p (min p.xn 2)),.nilsl])]) (fun _=>True) ?_ ⟨Zah _,Zah _⟩ ?_ ?_;·refine⟨[(50,.blk 50 0),(51,.blk 51 0),(52,.blk 52 0),(78,.nil)],rfl,au0,?_,au17⟩;exact Zcn rfl rfl gg (Zce c) (Zcn rfl rfl gg (Zce rfl) (Zcn rfl rfl gg (Zct (Zcd rfl) (Zct (Zcd (QaD _)) (Zct (Zcd (QaD _)) (Zct (Rn.x4 rfl rfl) (Zce rfl))))) (Zco rfl rfl Zcm)))
 ·rintro i⟨hi,hi2⟩;have z:=@Qel (pXs p i);have hxx:=@QiU p i;by_cases d:i<p.xn
  ·have hX:=h.X;have h4:=Qsf (X:=p.X) (i:=i) (by omega);have hul:i*4+4<=(u8s p.X).length:=by rw[QcP,hX];omega
   have O:4<=((u8s p.X).drop (i*4)).length:=by rw[Za6];omega
   by_cases h2:i=2
   ·subst h2;have F:(2:Int)<(p.xn:Int):=by omega
    refine ZcG (ZcP d h4 O F) ?_;refine⟨(),?_⟩;rw[show min p.xn 2=2 by omega];refine⟨[(50,.blk 50 0),(51,.blk 51 0),(52,.blk 52 0)],rfl,au0,?_,au17⟩;exact Zcn rfl rfl gg (Zce c) (Zcn rfl rfl gg (Zce rfl) (Zcn rfl rfl gg (Zct (Zcd rfl) (Zct (Zcd (QaD _)) (Zct (Zcd (QaD _)) (Zct (Zcu rfl rfl rfl rfl (Qel _) (Zce (Qbb _))) (Zce rfl))))) Zcm))
   have T:¬(i:Int)=2:=by omega
   have w:=Qfp (i:=i) (by omega);refine ZcG (ZcQ d h4 O T w) ?_;obtain⟨Y,v⟩:∃Y,Y=[AV.int .u8 ((p.X.getD (i*4) 0:Nat):Int),.int .u8 ((p.X.getD (i*4+1) 0:Nat):Int),.int .u8 ((p.X.getD (i*4+2) 0:Nat):Int),.int .u8 ((p.X.getD (i*4+3) 0:Nat):Int)]:=⟨_,rfl⟩;have t:noRefs Y=true:=by rw[v];rfl
   have hYk:∀k,k<3->Y[k]?=some (.int .u8 ((p.X.getD (i*4+k) 0:Nat):Int)):=by
    intro k hk;have:k=0\/k=1\/k=2:=by omega
    rcases this with rfl|rfl|rfl<;>rw[v]<;>rfl
   have f:=@QiZ p (pN p);have hilC:=@QdE 99 (pCs p (pN p));rw[<-v,f];refine Qaq 220 (fun k:Nat=>[(1,.ptr 50 0 0),(2,.ptr 51 0 0),(3,.ptr 52 0 0),(5,.int .i64 (pN p:Int)),(11,.ptr 60 0 0),(12,.ptr 61 0 0),(89,.fsl (u8s p.X) p.xn 4),(90,.int .i64 (p.xn:Int)),(91,.int .i64 i),(106,.int .i64 (pN p:Int)),(107,.int .i64 k)]) (fun k=>[(50,.cells 0 C),(51,.cells 0 [.nilsl,.nilsl,.nilsl,.nilsl,.nilsl]),(52,.cells 0 [evsV (fun i=>evOf ((p.L.take 5).getD i 0)),its 99 (pCs p (pN p)),its 114 (pRs p (pM p)),.sl 78 0 0 (pXs p i).length 2,.nilsl]),(60,.cells 0 Y),(61,.cells 0 [.str [101,UInt8.ofNat (48+i)],.sl 79 0 0 (pLo p i k).length 2]),(78,.cells 0 ((pXs p i).flatMap exC)),(79,.cells 0 ((pLo p i k).flatMap loC))]) (fun k=>k<=pN p) (fun k=>pN p-k) 0 6 300 (fun _:Unit=>[(1,.ptr 50 0 0),(2,.ptr 51 0 0),(3,.ptr 52 0 0),(5,.int .i64 (pN p:Int)),(12,.ptr 61 0 0),(89,.fsl (u8s p.X) p.xn 4),(90,.int .i64 (p.xn:Int)),(91,.int .i64 i)]) (fun _=>[(50,.cells 0 C),(51,.cells 0 [.nilsl,.nilsl,.nilsl,.nilsl,.nilsl]),(52,.cells 0 [evsV (fun i=>evOf ((p.L.take 5).getD i 0)),its 99 (pCs p (pN p)),its 114 (pRs p (pM p)),.sl 78 0 0 (pXs p i).length 2,.nilsl]),(61,.cells 0 [.str [101,UInt8.ofNat (48+i)],los (pLo p i (pN p))]),(78,.cells 0 ((pXs p i).flatMap exC))]) (fun _=>True) ?_ (Zah _) ?_ ?_;·refine⟨[(50,.blk 50 0),(51,.blk 51 0),(52,.blk 52 0),(60,.blk 104 0),(61,.blk 115 0),(78,.blk 78 0),(79,.nil)],rfl,au0,?_,au17⟩;exact Zcn rfl rfl gg (Zce c) (Zcn rfl rfl gg (Zce rfl) (Zcn rfl rfl gg (Zct (Zcd rfl) (Zct (Zcd (QaD _)) (Zct (Zcd (QaD _)) (Zct (Rn.x1 rfl rfl) (Zce rfl))))) (Zcn rfl rfl gg (Zce t) (Zcn rfl rfl gg (Zct (Zcd rfl) (Zct (Rn.x4 rfl rfl) Zcs)) (Zcn rfl rfl gg (Zce (Qbb _)) (Zco rfl rfl Zcm))))))
   ·rintro k hk;have E:=@Qgh (pLo p i k);have X:=@QiV p i k;by_cases o:k<pN p
    ·have P:(k:Int)<4:=by omega
     have hck:=Qp0 (p:=p) o;have r:=Qdk (ch:=99) hck;have q:5<=(((pCs p (pN p)).flatMap (itC 99)).drop (k*5)).length:=by rw[r];simp
     have hy:=hYk k (by omega);have hx8:=X_lt h (i*4+k);have hn5:(pA p k).n<=3:=(pA_wf k).n3;have L:((p.X.getD (i*4+k) 0:Nat):Int).tmod (((pA p k).n:Int)+2)=((p.X.getD (i*4+k) 0%((pA p k).n+2):Nat):Int):=by rw[Zbm (Zbh _)];norm_cast
     have H:¬((pA p k).n:Int)+2=0:=by omega
     have hxm:p.X.getD (i*4+k) 0%((pA p k).n+2)<=10:=by have:=Nat.mod_lt (p.X.getD (i*4+k) 0) (show 0<(pA p k).n+2 by omega);omega
     have a:pLo p i (k+1)=if p.X.getD (i*4+k) 0%((pA p k).n+2)<(pA p k).n then pLo p i k++[(k,p.X.getD (i*4+k) 0%((pA p k).n+2))]else pLo p i k:=rfl;by_cases S:p.X.getD (i*4+k) 0%((pA p k).n+2)<(pA p k).n;·rw[if_pos S]at a;have y:List.flatMap loC [(k,p.X.getD (i*4+k) 0%((pA p k).n+2))]=[.int .i64 (k:Int),.int .i64 ((p.X.getD (i*4+k) 0%((pA p k).n+2):Nat):Int)]:=rfl;refine ZcG (ZcU o P r q hy L H S E) ?_;refine⟨k+1,by omega,by omega,?_⟩;rw[a,Zan,Zae,y];refine⟨[(50,.blk 50 0),(51,.blk 51 0),(52,.blk 52 0),(60,.blk 60 0),(61,.blk 61 0),(78,.blk 78 0),(79,.blk 79 1)],rfl,au0,?_,au17⟩;exact Zcn rfl rfl gg (Zce c) (Zcn rfl rfl gg (Zce rfl) (Zcn rfl rfl gg (Zct (Zcd rfl) (Zct (Zcd (QaD _)) (Zct (Zcd (QaD _)) (Zct (Rn.x1 rfl rfl) (Zce rfl))))) (Zcn rfl rfl gg (Zce t) (Zcn rfl rfl gg (Zct (Zcd rfl) (Zct (Rn.x1 rfl rfl) Zcs)) (Zcn rfl rfl gg (Zce (Qbb _)) (Zcn rfl rfl gg (Zce (Qax (Qbj _) rfl)) Zcm))))))
     rw[if_neg S]at a;refine ZcG (ZcU o P r q hy L H S E) ?_;refine⟨k+1,by omega,by omega,?_⟩;rw[a];refine⟨[(50,.blk 50 0),(51,.blk 51 0),(52,.blk 52 0),(60,.blk 60 0),(61,.blk 61 0),(78,.blk 78 0),(79,.blk 79 0)],rfl,au0,?_,au17⟩;exact Zcn rfl rfl gg (Zce c) (Zcn rfl rfl gg (Zce rfl) (Zcn rfl rfl gg (Zct (Zcd rfl) (Zct (Zcd (QaD _)) (Zct (Zcd (QaD _)) (Zct (Rn.x1 rfl rfl) (Zce rfl))))) (Zcn rfl rfl gg (Zce t) (Zcn rfl rfl gg (Zct (Zcd rfl) (Zct (Rn.x1 rfl rfl) Zcs)) (Zcn rfl rfl gg (Zce (Qbb _)) (Zcn rfl rfl gg (Zce (Qbj _)) Zcm))))))
    have e:k=pN p:=by omega
    subst e;refine ZcG o ?_;refine⟨(),?_⟩;refine⟨[(50,.blk 50 0),(51,.blk 51 0),(52,.blk 52 0),(61,.blk 61 0),(78,.blk 78 0)],rfl,au0,?_,au17⟩;exact Zcn rfl rfl gg (Zce c) (Zcn rfl rfl gg (Zce rfl) (Zcn rfl rfl gg (Zct (Zcd rfl) (Zct (Zcd (QaD _)) (Zct (Zcd (QaD _)) (Zct (Rn.x1 rfl rfl) (Zce rfl))))) (Zcn rfl rfl gg (Zct (Zcd rfl) (Zct (Zcu rfl rfl rfl rfl (Qgh _) (Zce (Qbj _))) Zcs)) (Zcn rfl rfl gg (Zce (Qbb _)) Zcm))))
   rintro _ _;have a:pXs p (i+1)=if 0<(pLo p i (pN p)).length then pXs p i++[(i,pLo p i (pN p))]else pXs p i:=rfl;have X:=@QiV p i (pN p);by_cases j:0<(pLo p i (pN p)).length;·rw[if_pos j]at a;have I:List.flatMap exC [(i,pLo p i (pN p))]=[.str [101,UInt8.ofNat (48+i)],los (pLo p i (pN p))]:=rfl;refine ZcG (ZcN j z) ?_;refine⟨i+1,by omega,⟨by omega,by omega⟩,?_⟩;rw[a,Zan,Zae,I];refine⟨[(50,.blk 50 0),(51,.blk 51 0),(52,.blk 52 0),(78,.blk 78 1)],rfl,au0,?_,au17⟩;exact Zcn rfl rfl gg (Zce c) (Zcn rfl rfl gg (Zce rfl) (Zcn rfl rfl gg (Zct (Zcd rfl) (Zct (Zcd (QaD _)) (Zct (Zcd (QaD _)) (Zct (Rn.x1 rfl rfl) (Zce rfl))))) (Zcn rfl rfl gg (Zce (Qax (Qbb _) (by simp only[noRefs,noRef,Qbj];rfl))) Zcm)))
   rw[if_neg j]at a;refine ZcG (ZcN j z) ?_;refine⟨i+1,by omega,⟨by omega,by omega⟩,?_⟩;rw[a];refine⟨[(50,.blk 50 0),(51,.blk 51 0),(52,.blk 52 0),(78,.blk 78 0)],rfl,au0,?_,au17⟩;exact Zcn rfl rfl gg (Zce c) (Zcn rfl rfl gg (Zce rfl) (Zcn rfl rfl gg (Zct (Zcd rfl) (Zct (Zcd (QaD _)) (Zct (Zcd (QaD _)) (Zct (Rn.x1 rfl rfl) (Zce rfl))))) (Zcn rfl rfl gg (Zce (Qbb _)) Zcm)))
  have e:i=p.xn:=by omega
  subst e;refine ZcG d ?_;refine⟨(),?_⟩;rw[show min p.xn 2=p.xn by omega];refine⟨[(50,.blk 50 0),(51,.blk 51 0),(52,.blk 52 0)],rfl,au0,?_,au17⟩;exact Zcn rfl rfl gg (Zce c) (Zcn rfl rfl gg (Zce rfl) (Zcn rfl rfl gg (Zct (Zcd rfl) (Zct (Zcd (QaD _)) (Zct (Zcd (QaD _)) (Zct (Zcu rfl rfl rfl rfl (Qel _) (Zce (Qbb _))) (Zce rfl))))) Zcm))
 rintro _ _;have hb1:=Int.lt_tmod_of_pos p.bd (show(0:Int)<8 by decide);have hb2:=Int.tmod_lt_of_pos p.bd (show(0:Int)<8 by decide);have hbd:=h.bd;have hf0:=h.f0;have hf1:=h.f1;have hf2:=h.f2;refine ZcG Q ?_;refine Qaq 240 (fun i:Nat=>[(1,.ptr 50 0 0),(2,.ptr 51 0 0),(3,.ptr 52 0 0),(15,.ptr 62 0 0),(157,.int .i64 (pN p:Int)),(158,.int .i64 i)]) (fun i=>[(50,.cells 0 C),(51,.cells 0 [.nilsl,.nilsl,.nilsl,.nilsl,.nilsl]),(52,.cells 0 [evsV (fun i=>evOf ((p.L.take 5).getD i 0)),its 99 (pCs p (pN p)),its 114 (pRs p (pM p)),exs (pXs p (min p.xn 2)),.nilsl]),(62,.cells 0 [.str [107],.sl 97 0 0 (pT p i).length 2,.int .i64 (p.bd.tmod 8)]),(97,.cells 0 ((pT p i).flatMap teC))]) (fun i=>i<=pN p) (fun i=>pN p-i) 0 8 300 (fun _:Unit=>[(2,.ptr 51 0 0),(3,.ptr 52 0 0),(15,.ptr 62 0 0)]) (fun _=>[(51,.cells 0 [.nilsl,.nilsl,.nilsl,.nilsl,.nilsl]),(52,.cells 0 [evsV (fun i=>evOf ((p.L.take 5).getD i 0)),its 99 (pCs p (pN p)),its 114 (pRs p (pM p)),exs (pXs p (min p.xn 2)),.nilsl]),(62,.cells 0 [.str [107],.sl 97 0 0 (pT p (pN p)).length 2,.int .i64 (p.bd.tmod 8)]),(97,.cells 0 ((pT p (pN p)).flatMap teC))]) (fun _=>True) ?_ (Zah _) ?_ ?_;·refine⟨[(50,.blk 50 0),(51,.blk 51 0),(52,.blk 52 0),(62,.blk 205 0),(97,.nil)],rfl,au0,?_,au17⟩;exact Zcn rfl rfl gg (Zce c) (Zcn rfl rfl gg (Zce rfl) (Zcn rfl rfl gg (Zct (Zcd rfl) (Zct (Zcd (QaD _)) (Zct (Zcd (QaD _)) (Zct (Zcd (Qbv _)) (Zce rfl))))) (Zcn rfl rfl gg (Zct (Zcd rfl) (Zct (Rn.x4 rfl rfl) (Zce rfl))) (Zco rfl rfl Zcm))))
 ·rintro i hi;have htl:=@QcY (pT p i);have htx:=@Ql4 p i;by_cases d:i<pN p
  ·have g:(i:Int)<3:=by omega
   have ha:=aF i (by omega);have hFb:-128<=pF p i/\pF p i<128:=pF_lt h i;have a:pT p (i+1)=if pF p i=0 then pT p i else pT p i++[(i,(pF p i).tmod 4)]:=rfl;by_cases j:pF p i=0;·rw[if_pos j]at a;refine ZcG (ZcQ d g hlen ha j) ?_;refine⟨i+1,by omega,by omega,?_⟩;rw[a];refine⟨[(50,.blk 50 0),(51,.blk 51 0),(52,.blk 52 0),(62,.blk 62 0),(97,.blk 97 0)],rfl,au0,?_,au17⟩;exact Zcn rfl rfl gg (Zce c) (Zcn rfl rfl gg (Zce rfl) (Zcn rfl rfl gg (Zct (Zcd rfl) (Zct (Zcd (QaD _)) (Zct (Zcd (QaD _)) (Zct (Zcd (Qbv _)) (Zce rfl))))) (Zcn rfl rfl gg (Zct (Zcd rfl) (Zct (Rn.x1 rfl rfl) (Zce rfl))) (Zcn rfl rfl gg (Zce (QaQ _)) Zcm))))
   rw[if_neg j]at a;have N:List.flatMap teC [(i,(pF p i).tmod 4)]=[.int .i64 (i:Int),.int .i64 ((pF p i).tmod 4)]:=rfl;refine ZcG (ZcR d g hlen ha j htl) ?_;refine⟨i+1,by omega,by omega,?_⟩;rw[a,Zan,Zae,N];refine⟨[(50,.blk 50 0),(51,.blk 51 0),(52,.blk 52 0),(62,.blk 62 0),(97,.blk 97 1)],rfl,au0,?_,au17⟩;exact Zcn rfl rfl gg (Zce c) (Zcn rfl rfl gg (Zce rfl) (Zcn rfl rfl gg (Zct (Zcd rfl) (Zct (Zcd (QaD _)) (Zct (Zcd (QaD _)) (Zct (Zcd (Qbv _)) (Zce rfl))))) (Zcn rfl rfl gg (Zct (Zcd rfl) (Zct (Rn.x1 rfl rfl) (Zce rfl))) (Zcn rfl rfl gg (Zce (Qax (QaQ _) rfl)) Zcm))))
  have e:i=pN p:=by omega
  subst e;refine ZcG d ?_;refine⟨(),?_⟩;refine⟨[(51,.blk 51 0),(52,.blk 52 0),(62,.blk 62 0),(97,.blk 97 0)],rfl,au0,?_,au17⟩;exact Zcn rfl rfl gg (Zce rfl) (Zcn rfl rfl gg (Zct (Zcd rfl) (Zct (Zcd (QaD _)) (Zct (Zcd (QaD _)) (Zct (Zcd (Qbv _)) (Zce rfl))))) (Zcn rfl rfl gg (Zct (Zcd rfl) (Zct (Rn.x1 rfl rfl) (Zce rfl))) (Zcn rfl rfl gg (Zce (QaQ _)) Zcm)))
 rintro _ _;have hT0:flt0 (pT p (pN p))=pT0 p:=rfl;have hpt:=@Ql4 p (pN p);refine ZcF ?_;refine chc (del93F (l:=pT p (pN p)) (by omega) gg) ?_;rw[hT0];have htl0:(pT0 p).length<=3:=Zax (Za4 _ _) (by omega);by_cases j:0<(pT0 p).length;·have s:pKs p=[(pT0 p,p.bd.tmod 8)]:=if_pos j;refine ZcG j ?_;refine⟨.inr trivial,_,rfl,?_⟩;refine Rn.agg (Zct (Zcd rfl) (Zct (Zcd (QaD _)) (Zct (Zcd (QaD _)) (Zct (Zcd (Qbv _)) (Zct ?_ Zcs)))));show Rn 0 π0 _ (cos (pKs p)) _;rw[s];exact Zcv (b:=310) rfl rfl (Zct (Zcd rfl) (Zct (Zcd (Qco _)) (Zct (Zcd rfl) Zcs)))
 have s:pKs p=[]:=if_neg j;refine ZcG j ?_;refine⟨.inr trivial,_,rfl,?_⟩;refine Rn.agg (Zct (Zcd rfl) (Zct (Zcd (QaD _)) (Zct (Zcd (QaD _)) (Zct (Zcd (Qbv _)) (Zct ?_ Zcs)))));show Rn 0 π0 _ (cos (pKs p)) _;rw[s];exact Rn.nilK
end Go.AM.SU
namespace Go.AM.SN
open Go.Proofs Go.AM.SD Go.AM.SE Go.AM.SO
noncomputable section
def is0:AV->Bool|.int .i64 n=>decide (n=0)|_=>false
theorem QtG:∀u,is0 u=true->u=.int .i64 0:=by intro u h;unfold is0 at h;grind
def nameR(s:List UInt8)(f:Nat)(X K:AV)(i:Int):Bool:=callR ansB noOrc SK.ft.get (exR ansB noOrc SK.ft.get 1000) (.c .pure) 102 [.str s,.fn f [] [.fptr [.any,X,K],.fptr [.int .i64 i]]] .e 64 (fun u _ _=>is0 u)
theorem Qrg{s:List UInt8}{f:Nat}{X K:AV}{i:Int}(h:nameR s f X K i=true):PSpec Tryz.prog 102 [.str s,.fn f [] [.fptr [.any,X,K],.fptr [.int .i64 i]]] (.int .i64 0):=QbL (t:=SK.ft) SK.ft_ok Qda (d:=1000) is0 QtG h
theorem e0_1:nameR [101,48] 101 (.fsl [.str [101,48],.any] 1 2) .any 0=true:=by kernel_rfl
theorem e1_1:nameR [101,49] 101 (.fsl [.str [101,49],.any] 1 2) .any 0=true:=by kernel_rfl
theorem e0_2:nameR [101,48] 101 (.fsl [.str [101,48],.any,.str [101,49],.any] 2 2) .any 0=true:=by kernel_rfl
theorem e1_2a:nameR [101,49] 101 (.fsl [.str [101,48],.fsl [.any,.any] 1 2,.str [101,49],.any] 2 2) .any 1=true:=by kernel_rfl
theorem e1_2b:nameR [101,49] 101 (.fsl [.str [101,48],.fsl [.any,.any,.any,.any] 2 2,.str [101,49],.any] 2 2) .any 1=true:=by kernel_rfl
theorem e1_2c:nameR [101,49] 101 (.fsl [.str [101,48],.fsl [.any,.any,.any,.any,.any,.any] 3 2,.str [101,49],.any] 2 2) .any 1=true:=by kernel_rfl
theorem k_1:nameR [107] 104 .any (.fsl [.str [107],.any,.any] 1 3) 0=true:=by kernel_rfl
def Wk(x y:AV):Prop:=∀(ok:Okc)(c:Ctx ok)(w:World)(v:Value),VRel c w x v->VRel c w y v
def WkL:List AV->List AV->Prop|[],[]=>True|x::xs,y::a=>Wk x y/\WkL xs a|_,_=>False
theorem Wk.refl(x:AV):Wk x x:=fun _ _ _ _ h=>h
theorem Wk.any{x:AV}:Wk x .any:=fun _ _ _ _ _=>by simp[VRel]
theorem WkL.rels{ok:Okc}{c:Ctx ok}{w:World}:∀{xs ys:List AV}{vs:List Value},WkL xs ys->VRels c w xs vs->VRels c w ys vs|[],[],_,_,a=>a|[],_::_,_,h,_=>h.elim|_::_,[],_,h,_=>h.elim|x::xs,y::ys,vs,h,a=>by simp only[VRels]at a⊢;obtain⟨v,d,rfl,h1,f⟩:=a;exact⟨v,d,rfl,h.1 _ c w v h1,WkL.rels h.2 f⟩
theorem WkL.pre{ok:Okc}{c:Ctx ok}{w:World}:∀{xs ys:List AV}{vs:List Value},WkL xs ys->VPre c w xs vs->VPre c w ys vs|[],[],_,_,a=>a|[],_::_,_,h,_=>h.elim|_::_,[],_,h,_=>h.elim|x::xs,y::ys,vs,h,a=>by simp only[VPre]at a⊢;obtain⟨v,d,rfl,h1,f⟩:=a;exact⟨v,d,rfl,h.1 _ c w v h1,WkL.pre h.2 f⟩
theorem WkL.length:∀{xs ys:List AV},WkL xs ys->xs.length=ys.length|[],[],_=>rfl|[],_::_,h=>h.elim|_::_,[],h=>h.elim|x::xs,y::ys,h=>by simp[WkL.length h.2]
theorem Wk.fsl{cs ds:List AV}{len sz:Nat}(h:WkL cs ds):Wk (.fsl cs len sz) (.fsl ds len sz):=fun _ c w v d=>by
 simp only[VRel]at d⊢;have m:=h.length;rcases d with⟨h1,rfl,a⟩|⟨k,off,cap,C,e,i,h1,a,l,g,f,j⟩;·grind
 exact .inr ⟨k,off,cap,C,e,i,h1,a,by omega,g,f,h.pre j⟩
theorem Wk.fptr{cs ds:List AV}(h:WkL cs ds):Wk (.fptr cs) (.fptr ds):=fun _ c w v a=>by simp only[VRel]at a⊢;obtain⟨f,off,C,e,d,h1,j,g,i⟩:=a;exact⟨f,off,C,e,d,h1,j,g,h.pre i⟩
theorem Wk.fn{f:Nat}{xs ys us vs:List AV}(h1:WkL xs ys)(h:WkL us vs):Wk (.fn f xs us) (.fn f ys vs):=fun _ c w v a=>by simp only[VRel]at a⊢;obtain⟨g,d,rfl,g1,g2⟩:=a;exact⟨g,d,rfl,h1.rels g1,h.rels g2⟩
theorem PSpec.wk{f:Nat}{args bs:List AV}{v:AV}(a:WkL args bs)(d:noRefs args=true)(hp:PSpec Tryz.prog f bs v):PSpec Tryz.prog f args v:=SE.PSpec.weak (fun _ c w g _ h=>a.rels h) d hp
theorem nameW{s:List UInt8}{f:Nat}{S X K X' K':AV}{i:Int}(h:nameR s f X' K' i=true)(c:Wk X X')(a:Wk K K')(d:noRefs [S,X,K]=true):PSpec Tryz.prog 102 [.str s,.fn f [] [.fptr [S,X,K],.fptr [.int .i64 i]]] (.int .i64 0):=by refine PSpec.wk (bs:=[.str s,.fn f [] [.fptr [.any,X',K'],.fptr [.int .i64 i]]]) ⟨Wk.refl _,Wk.fn trivial ⟨Wk.fptr ⟨Wk.any,c,a,trivial⟩,Wk.refl _,trivial⟩,trivial⟩ ?_ (Qrg h);simp_all[noRefs,noRef]
theorem nameX{S K:AV}{xs:List (Nat×List (Nat×Nat))}{i:Nat}{x:Nat×List (Nat×Nat)}(c:xs[i]?=some x)(l:xs.length<=2)(o:(xs.map (·.1)).Pairwise (·<·))(j:∀x∈xs,x.1<2)(g:∀x∈xs,x.2≠[]/\x.2.length<=3)(d:noRefs [S,exs xs,K]=true):PSpec Tryz.prog 102 [.str [101,UInt8.ofNat (48+x.1)],.fn 101 [] [.fptr [S,exs xs,K],.fptr [.int .i64 (i:Int)]]] (.int .i64 0):=by match xs,l with
 |[],_=>simp at c|[(a,f)],_=>
  have hi:i=0:=by grind
  subst hi;simp at c;subst c;have k:=j (a,f) (by simp);have:a=0\/a=1:=by omega
  rcases this with rfl|rfl;·exact nameW e0_1 (Wk.fsl ⟨Wk.refl _,Wk.any,trivial⟩) Wk.any d
  ·exact nameW e1_1 (Wk.fsl ⟨Wk.refl _,Wk.any,trivial⟩) Wk.any d|[(a,f),(b,n)],_=>
  have k:=j (a,f) (by simp);have t:=j (b,n) (by simp);have m:a<b:=by simpa using o
  dsimp only at k t;obtain rfl:a=0:=by omega
  obtain rfl:b=1:=by omega
  have hi:i=0\/i=1:=by grind
  rcases hi with rfl|rfl;·simp at c;subst c;exact nameW e0_2 (Wk.fsl ⟨Wk.refl _,Wk.any,Wk.refl _,Wk.any,trivial⟩) Wk.any d
  ·simp at c;subst c;obtain⟨u,s⟩:=g (0,f) (by simp);match f,u,s with|[],h,_=>exact absurd rfl h|[p],_,_=>exact nameW e1_2a (Wk.fsl ⟨Wk.refl _,Wk.fsl ⟨Wk.any,Wk.any,trivial⟩,Wk.refl _,Wk.any,trivial⟩) Wk.any d|[p,q],_,_=>exact nameW e1_2b (Wk.fsl ⟨Wk.refl _,Wk.fsl ⟨Wk.any,Wk.any,Wk.any,Wk.any,trivial⟩,Wk.refl _,Wk.any,trivial⟩) Wk.any d|[p,q,r],_,_=>exact nameW e1_2c (Wk.fsl ⟨Wk.refl _,Wk.fsl ⟨Wk.any,Wk.any,Wk.any,Wk.any,Wk.any,Wk.any,trivial⟩,Wk.refl _,Wk.any,trivial⟩) Wk.any d
theorem nameK{S X:AV}{ks:List (List (Nat×Int)×Int)}{x:List (Nat×Int)×Int}(c:ks=[x])(a:noRefs [S,X,cos ks]=true):PSpec Tryz.prog 102 [.str [107],.fn 104 [] [.fptr [S,X,cos ks],.fptr [.int .i64 0]]] (.int .i64 0):=by subst c;exact nameW k_1 Wk.any (Wk.fsl ⟨Wk.refl _,Wk.any,Wk.any,trivial⟩) a
end
end Go.AM.SN
namespace Go.AM.SO
open Go.Proofs Go.AM.SD Go.AM.SE
theorem great190(n:Int)(h1:-65536<=n)(a:n<=65536):PSpec Tryz.prog 190 [.int .i64 n] (.bool false):=by
 refine Zcg 64 ok190 rfl rfl rfl ?_;have g1:¬n< -65536:=by omega
 have g2:¬65536<n:=by omega
 unfold s190;refine ZcE (ZcN g1 g2) ?_;exact⟨.inr trivial,_,rfl,rfl⟩
abbrev cdC(S:List Nat)(xs:List (Nat×List (Nat×Nat)))(ks:List (List (Nat×Int)×Int)):List AV:=[sliN S,exs xs,cos ks]
abbrev cdV(S:List Nat)(xs:List (Nat×List (Nat×Nat)))(ks:List (List (Nat×Int)×Int)):AV:=.agg (cdC S xs ks)
theorem QbP{S:List Nat}{xs:List (Nat×List (Nat×Nat))}{ks:List (List (Nat×Int)×Int)}:noRefs (cdC S xs ks)=true:=by rw[cdC,noRefs,noRefs,noRefs,Qab,SU.Qbv,SU.Qkh];rfl
theorem Qi0{l:List (Nat×Nat)}{i:Nat}{x:Nat×Nat}(h:l[i]?=some x):(l.flatMap loC).drop (i*2)=.int .i64 (x.1:Int)::.int .i64 (x.2:Int)::(l.drop (i+1)).flatMap loC:=Qbh (f:=loC) (k:=2) (fun _=>rfl) h
theorem pw_at{l:List Nat}(h:l.Pairwise (·<·)){i:Nat}{x y:Nat}(c:l[i]?=some x)(a:l[i+1]?=some y):x<y:=by
 have hi:i+1<l.length:=by
  rcases Zbz (i+1) l.length with h|h;·exact h
  rw[Zat h]at a;cases a
 rw[Zal (by omega)]at c;rw[Zal hi]at a;cases c;cases a;exact Za8.1 h i (i+1) (by omega) hi (Nat.lt_succ_self _)
theorem _root_.Go.AM.au18{p:Prop}(h:p:=by repeat(first|exact Zck|(refine Zcl ?_ ?_;·(first|exact Rn.any|exact Rn.x1 rfl rfl|exact Rn.x2 rfl rfl|exact Rn.x3 rfl rfl|exact Rn.x4 rfl rfl|exact Rn.x5 rfl|exact Rn.x6 rfl|exact Rn.x7 rfl|(refine Rn.slot ?_ ?_;(first|rfl|(rw[ZaV];rfl));(first|rfl|(simp only[noRef,noRefs,Qag,Zad,Zac,Zag,Qaa,Qan,Qab,SU.Qbj,SU.QaQ,SU.Qbo,SU.Qbb,SU.QcQ];done)))|(refine Rn.fn ?_ ?_<;>(repeat'(first|exact Zcs|refine Zct ?_ ?_|exact Zcd rfl|exact Rn.x6 rfl|exact Rn.x2 rfl rfl|exact Rn.x5 rfl|exact Rn.x1 rfl rfl))))))):p:=h
theorem excl103(S:List Nat)(xs:List (Nat×List (Nat×Nat)))(ks:List (List (Nat×Int)×Int))(x:Nat×List (Nat×Nat))(hS:S.length<=8)(B:∀s∈S,s<=4096)(R:x.2.length<=1000)(t:x.2≠[])(hp:(x.2.map (·.1)).Pairwise (·<·))(I:∀l∈x.2,∃n,S[l.1]?=some n/\l.2<n):PSpec Tryz.prog 103 [cdV S xs ks,.agg (exC x)] (.int .i64 0):=by
 obtain⟨u,l⟩:=x;dsimp only at R t hp I;have hex:exC (u,l)=[.str [101,UInt8.ofNat (48+u)],los l]:=rfl;rw[hex];have a:=@QbP S xs ks;have d:noRefs [.str [101,UInt8.ofNat (48+u)],los l]=true:=by rw[noRefs,noRefs,SU.Qb1];rfl
 refine Zcg 64 ok103 rfl (by rw[noRefs,noRefs,noRef,noRef,a,d];rfl) rfl ?_;have v:¬(l.length:Int)=0:=by have:=List.length_pos_iff.2 t;omega
 have L:=SU.Qgh l;unfold s103;refine ZcE v ?_;refine QaN 100 (fun i:Nat=>[(2,.ptr 50 0 0),(3,.ptr 51 0 0),(12,los l),(13,.int .i64 l.length),(14,.int .i64 i)]) (fun _=>[(50,.cells 0 (cdC S xs ks)),(51,.cells 0 [.str [101,UInt8.ofNat (48+u)],los l])]) (fun i=>i<=l.length) (fun i=>l.length-i) 0 ⟨[(50,.blk 64 0),(51,.blk 65 0)],rfl,au0,?_,au18⟩ (Zah _) ?_;·exact Zcn rfl rfl gg (Zce a) (Zcn rfl rfl gg (Zce d) Zcm)
 rintro i hi;by_cases f:i<l.length
 ·obtain⟨⟨c,s⟩,k⟩:=Qap f;obtain⟨n,o,C⟩:=I _ (Zaf k);dsimp only at o C;have p:c<S.length:=by
   rcases Zbz c S.length with h|h;·exact h
   rw[Zat h]at o;cases o
  have N:=B n (Zaf o);have m:=Qi0 k;have q:2<=((l.flatMap loC).drop (i*2)).length:=by rw[m];simp
  have h1:¬(c:Int)<0:=by omega
  have G:¬(S.length:Int)<=(c:Int):=by omega
  have H:¬(s:Int)<0:=by omega
  have F:¬(n:Int)<=(s:Int):=by omega
  cases i with|zero=>
   have y:¬(0:Int)<((0:Nat):Int):=by omega
   refine ZcE (ZcV f m q y h1 G H F (QaJ o) p) ?_;refine⟨1,by omega,by omega,?_⟩;refine⟨[(50,.blk 50 0),(51,.blk 51 0)],rfl,au0,?_,au18⟩;exact Zcn rfl rfl gg (Zce a) (Zcn rfl rfl gg (Zce d) Zcm)|succ j=>
   obtain⟨⟨E,T⟩,g⟩:=Qap (l:=l) (i:=j) (by omega);have r:=Qi0 g;have Q:E<c:=pw_at hp (i:=j) (by rw[ZaJ,g];rfl) (by rw[ZaJ,k];rfl);have y:(0:Int)<((j+1:Nat):Int):=by omega
   have O:¬(c:Int)<=(E:Int):=by omega
   have K:((j+1:Nat):Int)-1=(j:Int):=by omega
   have P:j<l.length:=by omega
   have hle:((j+1:Nat):Int)<(l.length:Int):=by omega
   have w:((j+1:Nat):Int).toNat=j+1:=by omega
   have z:0<=((j+1:Nat):Int):=by omega
   generalize M:((j+1:Nat):Int)=J at*;simp(disch:=first|omega|(simp only[lenW]<;>omega))only[f,hle,w,z,m,r,q,y,h1,G,H,F,O,K,P,QaJ o,p,wV,simprocAttr];refine⟨j+2,by omega,by omega,?_⟩;have A:J+1=((j+2:Nat):Int):=by omega
   rw[A];refine⟨[(50,.blk 50 0),(51,.blk 51 0)],rfl,au0,?_,au18⟩;exact Zcn rfl rfl gg (Zce a) (Zcn rfl rfl gg (Zce d) Zcm)
 refine ZcE f ?_;exact⟨.inr trivial,_,rfl,rfl⟩
theorem cons105(S:List Nat)(xs:List (Nat×List (Nat×Nat)))(ks:List (List (Nat×Int)×Int))(x:List (Nat×Int)×Int)(hS:S.length<=8)(P:x.1.length<=1000)(n:x.1≠[])(hp:(x.1.map (·.1)).Pairwise (·<·))(F:∀l∈x.1,l.1<S.length/\l.2≠0/\-65536<=l.2/\l.2<=65536)(E:-65536<=x.2/\x.2<=65536):PSpec Tryz.prog 105 [cdV S xs ks,.agg (coC x)] (.int .i64 0):=by
 obtain⟨l,p⟩:=x;dsimp only at P n hp F E;have hex:coC (l,p)=[.str [107],tes l,.int .i64 p]:=rfl;rw[hex];have a:=@QbP S xs ks;have d:noRefs [.str [107],tes l,.int .i64 p]=true:=by rw[noRefs,noRefs,SU.Qco];rfl
 refine Zcg 64 ok105 rfl (by rw[noRefs,noRefs,noRef,noRef,a,d];rfl) rfl ?_;have A:¬(l.length:Int)=0:=by have:=List.length_pos_iff.2 n;omega
 have L:=SU.QcY l;have v:=great190 p E.1 E.2;unfold s105;refine ZcE A ?_;refine QaN 100 (fun i:Nat=>[(2,.ptr 50 0 0),(3,.ptr 51 0 0),(12,tes l),(13,.int .i64 l.length),(14,.int .i64 i)]) (fun _=>[(50,.cells 0 (cdC S xs ks)),(51,.cells 0 [.str [107],tes l,.int .i64 p])]) (fun i=>i<=l.length) (fun i=>l.length-i) 0 ⟨[(50,.blk 64 0),(51,.blk 65 0)],rfl,au0,?_,au18⟩ (Zah _) ?_;·exact Zcn rfl rfl gg (Zce a) (Zcn rfl rfl gg (Zce d) Zcm)
 rintro i hi;by_cases f:i<l.length
 ·obtain⟨⟨c,s⟩,k⟩:=Qap f;obtain⟨B,h,t,q⟩:=F _ (Zaf k);dsimp only at B h t q;have m:=SU.Qdj k;have r:2<=((l.flatMap teC).drop (i*2)).length:=by rw[m];simp
  have h1:¬(c:Int)<0:=by omega
  have H:¬(S.length:Int)<=(c:Int):=by omega
  have u:=great190 s t q;cases i with|zero=>
   have w:¬(0:Int)<((0:Nat):Int):=by omega
   refine ZcE (ZcS f m r w h1 H h) ?_;refine cp u ?_;refine ZcD ?_;refine⟨1,by omega,by omega,?_⟩;refine⟨[(50,.blk 50 0),(51,.blk 51 0)],rfl,au0,?_,au18⟩;exact Zcn rfl rfl gg (Zce a) (Zcn rfl rfl gg (Zce d) Zcm)|succ j=>
   obtain⟨⟨G,Q⟩,g⟩:=Qap (l:=l) (i:=j) (by omega);have o:=SU.Qdj g;have K:G<c:=pw_at hp (i:=j) (by rw[ZaJ,g];rfl) (by rw[ZaJ,k];rfl);have w:(0:Int)<((j+1:Nat):Int):=by omega
   have I:¬(c:Int)<=(G:Int):=by omega
   have M:((j+1:Nat):Int)-1=(j:Int):=by omega
   have N:j<l.length:=by omega
   have hle:((j+1:Nat):Int)<(l.length:Int):=by omega
   have C:((j+1:Nat):Int).toNat=j+1:=by omega
   have y:0<=((j+1:Nat):Int):=by omega
   generalize O:((j+1:Nat):Int)=J at*;refine ZcE (ZcZ f hle C y m o r w h1 H h I M N) ?_;refine cp u ?_;refine ZcD ?_;refine⟨j+2,by omega,by omega,?_⟩;have z:J+1=((j+2:Nat):Int):=by omega
   rw[z];refine⟨[(50,.blk 50 0),(51,.blk 51 0)],rfl,au0,?_,au18⟩;exact Zcn rfl rfl gg (Zce a) (Zcn rfl rfl gg (Zce d) Zcm)
 refine ZcE f ?_;refine cp v ?_;refine ZcD ?_;exact⟨.inr trivial,_,rfl,rfl⟩
end Go.AM.SO
namespace Go.AM.SQ
open Go.Proofs
set_option maxHeartbeats 4000000
noncomputable section
def cf:YA.Cf:={most:=.pure,always:=[102].map fun k=>(k,.heap)}
def s32:SFn:=by
 refine(?f:YA.Yt Tryz.prog cf 32 [[0,2],[15,16,17],[1,18],[2,18,19],[],[23,24,25],[4,26,27,28],[1,20,21,22,30,29,41,40,39,38,31],[2,31,32],[20,21,22,30,29,41,40,39,38,33,34,35,36,37],[1,42],[2,42,43],[],[47,48,49,50],[5,51],[7,52,53,54,55],[56],[1,44,45,46,6,8,57,58],[2,6,8,57,59,60,61],[62],[1,44,45,46,9,63,64],[2,9,63,65],[44,45,46,66],[],[70,71,72,73],[10,74],[12,75,76,77,78],[79],[1,67,68,69,11,13,80,81],[2,11,13,80,82,83,84],[85],[1,67,68,69,14,86,87],[2,14,86,88],[1,67,68,69]]) ?s ?h;case h=>exact YA.rr
 exact fun s _=>s
theorem ok32:okFn Tryz.prog 32 s32=true:=by kernel_rfl
end
end Go.AM.SQ
namespace Go.AM.SO
open Go.Proofs Go.AM.SD Go.AM.SE
def szs(c:Cel):List Nat:=c.cs.map (·.2.n)
theorem WfCel.comp{c:Cel}(h:WfCel c){x:Nat×List (Nat×Nat)}(d:x∈c.xs):∀l∈x.2,∃n,(szs c)[l.1]?=some n/\l.2<n:=fun l a=>by obtain⟨y,h1,f⟩:=(h.xl x d).2.2 l a;exact⟨y.2.n,by unfold szs;rw[ZaJ,h1];rfl,f⟩
theorem WfCel.xlen{c:Cel}(h:WfCel c){x:Nat×List (Nat×Nat)}(a:x∈c.xs):x.2.length<=3:=by
 have h1:=QaS c.cs.length (x.2.map (·.1)) (by rw[ZaK];exact(h.xl x a).2.1.imp fun h=>by omega) (fun y f=>by
  obtain⟨l,d,rfl⟩:=Zaq.1 f;obtain⟨z,h1,_⟩:=(h.xl x a).2.2 l d;rcases Zbz l.1 c.cs.length with h|h;·exact h
  rw[Zat h]at h1;cases h1);rw[Zaw]at h1;exact Zax h1 h.c3
theorem WfCel.klen{c:Cel}(h:WfCel c){x:List (Nat×Int)×Int}(a:x∈c.ks):x.1.length<=3:=by have h1:=QaS c.cs.length (x.1.map (·.1)) (by rw[ZaK];exact(h.kl x a).2.1.imp fun h=>by omega) (fun y f=>by obtain⟨l,d,rfl⟩:=Zaq.1 f;exact((h.kl x a).2.2.1 l d).1);rw[Zaw]at h1;exact Zax h1 h.c3
theorem WfCel.slen{c:Cel}(h:WfCel c):(szs c).length=c.cs.length:=by simp[szs]
theorem WfCel.sz{c:Cel}(h:WfCel c):∀s∈szs c,1<=s/\s<=3:=fun s d=>by obtain⟨x,a,rfl⟩:=Zaq.1 d;exact⟨(h.ca x a).pos,(h.ca x a).n3⟩
theorem Qi1{l:List (Nat×List (Nat×Nat))}{i:Nat}{x:Nat×List (Nat×Nat)}(h:l[i]?=some x):(l.flatMap exC).drop (i*2)=.str [101,UInt8.ofNat (48+x.1)]::los x.2::(l.drop (i+1)).flatMap exC:=Qbh (f:=exC) (k:=2) (fun _=>rfl) h
theorem Qi2{l:List (List (Nat×Int)×Int)}{i:Nat}{x:List (Nat×Int)×Int}(h:l[i]?=some x):(l.flatMap coC).drop (i*3)=.str [107]::tes x.1::.int .i64 x.2::(l.drop (i+1)).flatMap coC:=Qbh (f:=coC) (k:=3) (fun _=>rfl) h
theorem Qgi(l:List (List (Nat×Int)×Int)):(l.flatMap coC).length=l.length*3:=Qbd (k:=3) (fun _=>rfl) l
theorem conds32(c:Cel)(h:WfCel c):PSpec Tryz.prog 32 [cdV (szs c) c.xs c.ks] (.int .i64 0):=by
 have a:=@QbP (szs c) c.xs c.ks;refine Zcg 64 SQ.ok32 rfl (by rw[noRefs,noRef,a];rfl) rfl ?_;have B:=h.slen;have E:=h.c3;have r:=h.x2;have v:=h.k1;have g1:¬(8:Int)<((szs c).length:Int):=by omega
 have g2:¬(32:Int)<(c.xs.length:Int):=by omega
 have g3:¬(32:Int)<(c.ks.length:Int):=by omega
 have w:∀x∈c.xs,x.2≠[]/\x.2.length<=3:=fun x j=>⟨(h.xl x j).1,h.xlen j⟩;unfold SQ.s32;refine ZcM g1 ?_;refine Qaq 100 (fun i:Nat=>[(1,.ptr 50 0 0),(20,sliN (szs c)),(21,.int .i64 (szs c).length),(22,.int .i64 i)]) (fun _=>[(50,.cells 0 (cdC (szs c) c.xs c.ks))]) (fun i=>i<=(szs c).length) (fun i=>(szs c).length-i) 0 0 140 (fun _:Unit=>[(1,.ptr 50 0 0)]) (fun _=>[(50,.cells 0 (cdC (szs c) c.xs c.ks))]) (fun _=>True) ⟨[(50,.blk 64 0)],rfl,au0,?_,au18⟩ (Zah _) ?_ ?_;·exact Zcn rfl rfl gg (Zce a) Zcm
 ·rintro i hi;by_cases d:i<(szs c).length
  ·obtain⟨s,o⟩:=Qap d;obtain⟨H,z⟩:=h.sz s (Zaf o);have q1:¬(s:Int)<1:=by omega
   have q2:¬(4096:Int)<(s:Int):=by omega
   refine ZcM (ZcP d (QaJ o) @q1 @q2) ?_;refine⟨i+1,by omega,by omega,?_⟩;refine⟨[(50,.blk 50 0)],rfl,au0,?_,au18⟩;exact Zcn rfl rfl gg (Zce a) Zcm
  refine ZcM d ?_;refine⟨(),?_⟩;refine⟨[(50,.blk 50 0)],rfl,au0,?_,au18⟩;exact Zcn rfl rfl gg (Zce a) Zcm
 rintro _ _;refine ZcM (ZcN g2 g3) ?_;refine Qaq 200 (fun i:Nat=>[(1,.ptr 50 0 0),(44,exs c.xs),(45,.int .i64 c.xs.length),(46,.int .i64 i)]) (fun _=>[(50,.cells 0 (cdC (szs c) c.xs c.ks))]) (fun i=>i<=c.xs.length) (fun i=>c.xs.length-i) 0 2 240 (fun _:Unit=>[(1,.ptr 50 0 0)]) (fun _=>[(50,.cells 0 (cdC (szs c) c.xs c.ks))]) (fun _=>True) ⟨[(50,.blk 50 0)],rfl,au0,?_,au18⟩ (Zah _) ?_ ?_;·exact Zcn rfl rfl gg (Zce a) Zcm
 ·rintro i hi;by_cases d:i<c.xs.length
  ·obtain⟨x,j⟩:=Qap d;have f:=Zaf j;have g:=Qi1 j;have k:2<=((c.xs.flatMap exC).drop (i*2)).length:=by rw[g];simp
   have p:=SN.nameX j r h.xn.1 h.xn.2 w a;have n:=excl103 (szs c) c.xs c.ks x (by omega) (fun s o=>by have:=h.sz s o;omega) (by have:=h.xlen f;omega) (h.xl x f).1 (h.xl x f).2.1 (h.comp f);have hex:exC x=[.str [101,UInt8.ofNat (48+x.1)],los x.2]:=rfl;rw[hex]at n;refine ZcM (ZcO d g k) ?_;refine SU.chc (Zcx (ZcA (Zch _) (ZcA (FrzTo.fn Zcz (ZcA (FrzTo.ptr (g:=0) (cs:=cdC (szs c) c.xs c.ks) gg (Zci _)) (ZcA (FrzTo.ptr (g:=0) (cs:=[.int .i64 (i:Int)]) gg (Zci _)) Zcz))) Zcz)) p rfl) ?_;refine ZcL ?_;refine cp n ?_;refine ZcL ?_;refine⟨i+1,by omega,by omega,?_⟩;refine⟨[(50,.blk 50 0)],rfl,au0,?_,au18⟩;exact Zcn rfl rfl gg (Zce a) Zcm
  refine ZcM d ?_;refine⟨(),?_⟩;refine⟨[(50,.blk 50 0)],rfl,au0,?_,au18⟩;exact Zcn rfl rfl gg (Zce a) Zcm
 rintro _ _;refine ZcL ?_;refine QaN 300 (fun i:Nat=>[(1,.ptr 50 0 0),(67,cos c.ks),(68,.int .i64 c.ks.length),(69,.int .i64 i)]) (fun _=>[(50,.cells 0 (cdC (szs c) c.xs c.ks))]) (fun i=>i<=c.ks.length) (fun i=>c.ks.length-i) 0 ⟨[(50,.blk 50 0)],rfl,au0,?_,au18⟩ (Zah _) ?_;·exact Zcn rfl rfl gg (Zce a) Zcm
 rintro i hi;by_cases d:i<c.ks.length
 ·obtain⟨x,j⟩:=Qap d;have q:i=0:=by omega
  subst q;have f:=Zaf j;have g:=Qi2 j;rw[Nat.zero_mul]at g;have k:3<=(c.ks.flatMap coC).length:=by rw[Qgi];omega
  have u:c.ks=[x]:=by match hk:c.ks,j,v with|[y],j,_=>simp at j;rw[j]
  have p:=SN.nameK (S:=sliN (szs c)) (X:=exs c.xs) u a;obtain⟨F,G,A,K,I⟩:=h.kl x f;have n:=cons105 (szs c) c.xs c.ks x (by omega) (by have:=h.klen f;omega) F G (fun l C=>by obtain⟨q1,q2,L,J⟩:=A l C;exact⟨by omega,q2,by omega,by omega⟩) ⟨by omega,by omega⟩;have hex:coC x=[.str [107],tes x.1,.int .i64 x.2]:=rfl;rw[hex]at n;have m:(0:Int)<(c.ks.length:Int):=by omega
  rw[Za9]at g;have t:List.take 3 (c.ks.flatMap coC)=[.str [107],tes x.1,.int .i64 x.2]:=by rw[g];rfl
  refine ZcM (ZcP d m t k) ?_;refine SU.chc (Zcx (ZcA (Zch _) (ZcA (FrzTo.fn Zcz (ZcA (FrzTo.ptr (g:=0) (cs:=cdC (szs c) c.xs c.ks) gg (Zci _)) (ZcA (FrzTo.ptr (g:=0) (cs:=[.int .i64 0]) gg (Zci _)) Zcz))) Zcz)) p rfl) ?_;refine ZcL ?_;refine cp n ?_;refine ZcL ?_;refine⟨1,by omega,by omega,?_⟩;refine⟨[(50,.blk 50 0)],rfl,au0,?_,au18⟩;exact Zcn rfl rfl gg (Zce a) Zcm
 refine ZcM d ?_;exact⟨.inr trivial,_,rfl,rfl⟩
end Go.AM.SO
namespace Go.AM.SO
open Go.Proofs Go.AM.SD Go.AM.SE
theorem Qfr{α:Type}{f:α->List AV}(hf:∀x,(f x).all AV.one=true):∀l:List α,(l.flatMap f).all AV.one=true|[]=>rfl|x::l=>by rw[Zav,ZbW,hf,Qfr hf l];rfl
theorem clone148(l:List (Nat×Nat))(g:l.length<=1000)(d:l≠[]):PSpec Tryz.prog 148 [los l] (los l):=by
 refine Zcf 100 ok148 rfl (by rw[noRefs,SU.Qb1];rfl) (SU.Qb1 _) ?_;have f:aEqN false (los l)=.ret (.bool false):=by match l,d with|x::l,_=>rfl
 have a:(l.flatMap loC).all AV.one=true:=Qfr (fun _=>rfl) l;have c:=SU.Qgh l;unfold s148;refine ZcM (ZcO f a c) ?_;exact⟨.inr trivial,_,rfl,Zcv rfl c (Zce (SU.Qbj _))⟩
theorem clone149(l:List (Nat×Int))(g:l.length<=1000)(d:l≠[]):PSpec Tryz.prog 149 [tes l] (tes l):=by
 refine Zcf 100 ok149 rfl (by rw[noRefs,SU.Qco];rfl) (SU.Qco _) ?_;have f:aEqN false (tes l)=.ret (.bool false):=by match l,d with|x::l,_=>rfl
 have a:(l.flatMap teC).all AV.one=true:=Qfr (fun _=>rfl) l;have c:=SU.QcY l;unfold s149;refine ZcM (ZcO f a c) ?_;exact⟨.inr trivial,_,rfl,Zcv rfl c (Zce (SU.QaQ _))⟩
theorem take_succ'{α:Type}{l:List α}{i:Nat}{x:α}(h:l[i]?=some x):l.take (i+1)=l.take i++[x]:=by rw[ZaQ,h];rfl
theorem QtH{x:Nat×List (Nat×Nat)}:List.flatMap exC [x]=[.str [101,UInt8.ofNat (48+x.1)],los x.2]:=rfl
theorem QtI{x:List (Nat×Int)×Int}:List.flatMap coC [x]=[.str [107],tes x.1,.int .i64 x.2]:=rfl
theorem conds85(c:Cel)(h:WfCel c):PSpec Tryz.prog 85 [celV c] (cdV (szs c) c.xs c.ks):=by
 have j:noRefs [evsV c.ev,its 99 c.cs,its 114 c.rs,exs c.xs,cos c.ks]=true:=by have:=SU.Qbc c;rwa[celV,noRef]at this
 refine Zcf 64 ok85 rfl (by rw[noRefs,SU.Qbc];rfl) (by rw[noRef];exact QbP) ?_;have v:=h.c3;have w:=h.x2;have u:=h.k1;have t:=@SU.QdE 99 c.cs;have s:=SU.Qel c.xs;have y:=Qgi c.ks;unfold s85;refine ZcL ?_;refine Qaq 100 (fun i:Nat=>[(1,.ptr 50 0 0),(2,.ptr 51 0 0),(3,.ptr 52 0 0),(12,its 99 c.cs),(13,.int .i64 c.cs.length),(14,.int .i64 i)]) (fun i=>[(50,.cells 0 [evsV c.ev,its 99 c.cs,its 114 c.rs,exs c.xs,cos c.ks]),(51,.cells 0 [.nilsl,.nilsl,.nilsl]),(52,.cells 0 [.sl 76 0 0 (szs c|>.take i).length 1,.nilsl,.nilsl]),(76,.cells 0 (ints (nz ((szs c).take i))))]) (fun i=>i<=c.cs.length) (fun i=>c.cs.length-i) 0 0 160 (fun _:Unit=>[(1,.ptr 50 0 0),(2,.ptr 51 0 0),(3,.ptr 52 0 0)]) (fun _=>[(50,.cells 0 [evsV c.ev,its 99 c.cs,its 114 c.rs,exs c.xs,cos c.ks]),(51,.cells 0 [.nilsl,.nilsl,.nilsl]),(52,.cells 0 [sliN (szs c),.nilsl,.nilsl])]) (fun _=>True) ⟨[(50,.blk 64 0),(51,.blk 65 0),(52,.blk 67 0),(76,.nil)],rfl,au0,?_,au18⟩ (Zah _) ?_ ?_;·exact Zcn rfl rfl gg (Zce j) (Zcn rfl rfl gg (Zce rfl) (Zcn rfl rfl gg (Zct (Rn.x4 rfl rfl) (Zce rfl)) (Zco rfl rfl Zcm)))
 ·rintro i hi;by_cases a:i<c.cs.length
  ·obtain⟨x,n⟩:=Qap a;have f:=SU.Qdk (ch:=99) n;have m:5<=((c.cs.flatMap (itC 99)).drop (i*5)).length:=by rw[f];simp
   have q:(szs c)[i]?=some x.2.n:=by unfold szs;rw[ZaJ,n];rfl
   have g:=take_succ' q;have d:((szs c).take i).length=i:=by rw[Zas,h.slen];omega
   have r:=@SU.QdL [99,UInt8.ofNat (48+x.1)] x.2;refine ZcM (ZcP a f m d) ?_;refine⟨i+1,by omega,by omega,?_⟩;rw[g,Zae,QaF,Qaw,d];refine⟨[(50,.blk 50 0),(51,.blk 51 0),(52,.blk 52 0),(76,.blk 76 1)],rfl,au0,?_,au18⟩;exact Zcn rfl rfl gg (Zce j) (Zcn rfl rfl gg (Zce rfl) (Zcn rfl rfl gg (Zct (Rn.x1 rfl rfl) (Zce rfl)) (Zcn rfl rfl gg (Zce (SU.Qax (Qaa _) rfl)) Zcm)))
  have e:i=c.cs.length:=by omega
  subst e;have p:(szs c).take c.cs.length=szs c:=by rw[<-h.slen,Zay]
  refine ZcM (ZcN a p) ?_;refine⟨(),?_⟩;refine⟨[(50,.blk 50 0),(51,.blk 51 0),(52,.blk 52 0)],rfl,au0,?_,au18⟩;exact Zcn rfl rfl gg (Zce j) (Zcn rfl rfl gg (Zce rfl) (Zcn rfl rfl gg (Zct (Zcu rfl rfl rfl rfl (by simp[ints]) (Zce (Qaa _))) (Zce rfl)) Zcm))
 rintro _ _;refine ZcL ?_;refine Qaq 200 (fun i:Nat=>[(1,.ptr 50 0 0),(2,.ptr 51 0 0),(3,.ptr 52 0 0),(28,exs c.xs),(29,.int .i64 c.xs.length),(30,.int .i64 i)]) (fun i=>[(50,.cells 0 [evsV c.ev,its 99 c.cs,its 114 c.rs,exs c.xs,cos c.ks]),(51,.cells 0 [.nilsl,.nilsl,.nilsl]),(52,.cells 0 [sliN (szs c),.sl 77 0 0 (c.xs.take i).length 2,.nilsl]),(77,.cells 0 ((c.xs.take i).flatMap exC))]) (fun i=>i<=c.xs.length) (fun i=>c.xs.length-i) 0 2 260 (fun _:Unit=>[(1,.ptr 50 0 0),(2,.ptr 51 0 0),(3,.ptr 52 0 0)]) (fun _=>[(50,.cells 0 [evsV c.ev,its 99 c.cs,its 114 c.rs,exs c.xs,cos c.ks]),(51,.cells 0 [.nilsl,.nilsl,.nilsl]),(52,.cells 0 [sliN (szs c),exs c.xs,.nilsl])]) (fun _=>True) ⟨[(50,.blk 50 0),(51,.blk 51 0),(52,.blk 52 0),(77,.nil)],rfl,au0,?_,au18⟩ (Zah _) ?_ ?_;·exact Zcn rfl rfl gg (Zce j) (Zcn rfl rfl gg (Zce rfl) (Zcn rfl rfl gg (Zct (Zcd (Qab _)) (Zct (Rn.x4 rfl rfl) (Zce rfl))) (Zco rfl rfl Zcm)))
 ·rintro i hi;by_cases a:i<c.xs.length
  ·obtain⟨x,n⟩:=Qap a;have l:=Zaf n;have f:=Qi1 n;have m:2<=((c.xs.flatMap exC).drop (i*2)).length:=by rw[f];simp
   have g:=take_succ' n;have d:(c.xs.take i).length=i:=by rw[Zas];omega
   have o:=clone148 x.2 (by have:=h.xlen l;omega) (h.xl x l).1;have k:=SU.Qel (c.xs.take i);rw[d]at k;refine ZcM (ZcP a f m d) ?_;refine cp o ?_;refine ZcM k ?_;refine⟨i+1,by omega,by omega,?_⟩;rw[g,Zae,Zan,d,QtH];refine⟨[(50,.blk 50 0),(51,.blk 51 0),(52,.blk 52 0),(77,.blk 77 1)],rfl,au0,?_,au18⟩;exact Zcn rfl rfl gg (Zce j) (Zcn rfl rfl gg (Zce rfl) (Zcn rfl rfl gg (Zct (Zcd (Qab _)) (Zct (Rn.x1 rfl rfl) (Zce rfl))) (Zcn rfl rfl gg (Zce (SU.Qax (SU.Qbb _) (by rw[noRefs,noRefs,SU.Qb1];rfl))) Zcm)))
  have e:i=c.xs.length:=by omega
  subst e;refine ZcM (ZcN a @Zay) ?_;refine⟨(),?_⟩;refine⟨[(50,.blk 50 0),(51,.blk 51 0),(52,.blk 52 0)],rfl,au0,?_,au18⟩;exact Zcn rfl rfl gg (Zce j) (Zcn rfl rfl gg (Zce rfl) (Zcn rfl rfl gg (Zct (Zcd (Qab _)) (Zct (Zcu rfl rfl rfl rfl (SU.Qel _) (Zce (SU.Qbb _))) (Zce rfl))) Zcm))
 rintro _ _;refine ZcL ?_;refine Qaq 300 (fun i:Nat=>[(2,.ptr 51 0 0),(3,.ptr 52 0 0),(47,cos c.ks),(48,.int .i64 c.ks.length),(49,.int .i64 i)]) (fun i=>[(51,.cells 0 [.nilsl,.nilsl,.nilsl]),(52,.cells 0 [sliN (szs c),exs c.xs,.sl 78 0 0 (c.ks.take i).length 3]),(78,.cells 0 ((c.ks.take i).flatMap coC))]) (fun i=>i<=c.ks.length) (fun i=>c.ks.length-i) 0 4 360 (fun _:Unit=>[(2,.ptr 51 0 0),(3,.ptr 52 0 0)]) (fun _=>[(51,.cells 0 [.nilsl,.nilsl,.nilsl]),(52,.cells 0 [sliN (szs c),exs c.xs,cos c.ks])]) (fun _=>True) ⟨[(51,.blk 51 0),(52,.blk 52 0),(78,.nil)],rfl,au0,?_,au18⟩ (Zah _) ?_ ?_;·exact Zcn rfl rfl gg (Zce rfl) (Zcn rfl rfl gg (Zct (Zcd (Qab _)) (Zct (Zcd (SU.Qbv _)) (Zct (Rn.x4 rfl rfl) Zcs))) (Zco rfl rfl Zcm))
 ·rintro i hi;by_cases a:i<c.ks.length
  ·obtain⟨x,n⟩:=Qap a;have l:=Zaf n;have f:=Qi2 n;have m:3<=((c.ks.flatMap coC).drop (i*3)).length:=by rw[f];simp
   have g:=take_succ' n;have d:(c.ks.take i).length=i:=by rw[Zas];omega
   have o:=clone149 x.1 (by have:=h.klen l;omega) (h.kl x l).1;have k:=Qgi (c.ks.take i);rw[d]at k;refine ZcM (ZcP a f m d) ?_;refine cp o ?_;refine ZcM k ?_;refine⟨i+1,by omega,by omega,?_⟩;rw[g,Zae,Zan,d,QtI];refine⟨[(51,.blk 51 0),(52,.blk 52 0),(78,.blk 78 1)],rfl,au0,?_,au18⟩;exact Zcn rfl rfl gg (Zce rfl) (Zcn rfl rfl gg (Zct (Zcd (Qab _)) (Zct (Zcd (SU.Qbv _)) (Zct (Rn.x1 rfl rfl) Zcs))) (Zcn rfl rfl gg (Zce (SU.Qax (SU.QcQ _) (by rw[noRefs,noRefs,SU.Qco];rfl))) Zcm))
  have e:i=c.ks.length:=by omega
  subst e;refine ZcM (ZcN a @Zay) ?_;refine⟨(),?_⟩;refine⟨[(51,.blk 51 0),(52,.blk 52 0)],rfl,au0,?_,au18⟩;exact Zcn rfl rfl gg (Zce rfl) (Zcn rfl rfl gg (Zct (Zcd (Qab _)) (Zct (Zcd (SU.Qbv _)) (Zct (Zcu rfl rfl rfl rfl (Qgi _) (Zce (SU.QcQ _))) Zcs))) Zcm)
 rintro _ _;refine ZcL ?_;refine⟨.inr trivial,_,rfl,?_⟩;exact Zcd (by rw[noRef];exact QbP)
end Go.AM.SO
namespace Go.AM.SO
open Go.Proofs Go.AM.SD Go.AM.SE
def idxQ{α:Type}(q:α->Bool)(l:List α):Int:=if l.any q then(l.findIdx q:Int)else-1
theorem QdF{α:Type}{q:α->Bool}{l:List α}(h:∀x∈l,q x=false):idxQ q l=-1:=by unfold idxQ;rw[if_neg];rw[List.any_eq_true];rintro⟨x,c,a⟩;rw[h x c]at a;cases a
theorem QeV{α:Type}{q:α->Bool}{l:List α}{i:Nat}{x:α}(a:l[i]?=some x)(d:q x=true)(f:∀(j:Nat)y,j<i->l[j]?=some y->q y=false):idxQ q l=i:=by
 have c:i<l.length:=by
  rcases Zbz i l.length with h|h;·exact h
  rw[Zat h]at a;cases a
 have h1:l.any q=true:=List.any_eq_true.2 ⟨x,Zaf a,d⟩;have k:l.findIdx q=i:=by rw[List.findIdx_eq c];refine⟨by rw[Zal c]at a;cases a;exact d,fun j g=>f j l[j] g (Zal (by omega))⟩
 unfold idxQ;rw[if_pos h1,k]
theorem QnM{α:Type}{q:α->Bool}{l:List α}:decide (0<=idxQ q l)=l.any q:=by
 unfold idxQ;cases h:l.any q;·simp
 simp
theorem Qbw{K:Nat}{cap:List AV}(h:noRefs cap=true):noRef (.fn K [] cap)=true:=by simp only[noRef,noRefs,h];rfl
theorem index110{K:Nat}{cap:List AV}(q:Nat->Bool)(l:List Nat)(s:l.length<=1000000)(hc:noRefs cap=true)(hk:∀x∈l,PSpec Tryz.prog K (.int .i64 (x:Int)::cap) (.bool (q x))):PSpec Tryz.prog 110 [sliN l,.fn K [] cap] (.int .i64 (idxQ q l)):=by
 refine Zcg 64 ok110 rfl (by rw[noRefs,noRefs,Qbw hc,(Qab _)];rfl) rfl ?_;have d:=Qbw (K:=K) hc;have o:=(show(ints (nz l)).length=l.length*1 by simp[ints]);unfold s110;refine ZcM @Zao ?_;refine QaN 100 (fun i:Nat=>[(0,sliN l),(1,.fn K [] cap),(7,.int .i64 l.length),(8,.int .i64 i)]) (fun _=>[]) (fun i=>i<=l.length/\∀(j:Nat)y,j<i->l[j]?=some y->q y=false) (fun i=>l.length-i) 0 ?_ ⟨Zah _,fun j y m=>absurd m (ZaD _)⟩ ?_;·exact⟨[],rfl,Zcj,Zcm,Zcl (Zcd (Qab _)) (Zcl (Zcd d) (Zcl (Zcd rfl) (Zcl (Zcd rfl) Zck)))⟩
 rintro i⟨hi,n⟩;by_cases a:i<l.length
 ·obtain⟨x,c⟩:=Qap a;have k:=hk x (Zaf c);have f:=QaJ c;have g:1<=(List.drop (i*1) (ints (nz l))).length:=by rw[Za6,o];omega
  cases h:q x
  ·rw[h]at k;refine ZcM (ZcQ a f g @Zbi @Zao) ?_;refine⟨_,by simpa using k,?_⟩;refine ZcM @Zao ?_;refine⟨i+1,by omega,⟨by omega,fun j y m p=>?_⟩,?_⟩
   ·by_cases e:j=i;·subst e;rw[c]at p;cases p;exact h
    exact n j y (by omega) p
   exact⟨[],rfl,Zcj,Zcm,Zcl (Zcd (Qab _)) (Zcl (Zcd d) (Zcl (Zcd rfl) (Zcl (Zcd rfl) Zck)))⟩
  rw[h]at k;refine ZcM (ZcQ a f g @Zbi @Zao) ?_;refine⟨_,by simpa using k,?_⟩;refine ZcM @Zao ?_;refine⟨.inr trivial,_,rfl,?_⟩;rw[QeV c h n];rfl
 refine ZcM (ZcN a @Zao) ?_;refine⟨.inr trivial,_,rfl,?_⟩;rw[QdF fun x c=>by obtain⟨j,m,r⟩:=Zbf c;exact n j x (by omega) (by rw[Zal m,r])];rfl
theorem contains36{K:Nat}{cap:List AV}(q:Nat->Bool)(l:List Nat)(a:l.length<=1000000)(hc:noRefs cap=true)(hk:∀x∈l,PSpec Tryz.prog K (.int .i64 (x:Int)::cap) (.bool (q x))):PSpec Tryz.prog 36 [sliN l,.fn K [] cap] (.bool (l.any q)):=by
 refine Zcg 64 ok36 rfl (by rw[noRefs,noRefs,Qbw hc,Qab];rfl) rfl ?_;unfold s36;refine ZcM @Zao ?_;refine cp (index110 q l a hc hk) ?_;have e:=@QnM Nat q l;cases h:l.any q;·rw[h,decide_eq_false_iff_not]at e;refine ZcM (ZcN e @Zao) ?_;exact⟨.inr trivial,_,rfl,rfl⟩
 rw[h,decide_eq_true_eq]at e;refine ZcM (ZcN e @Zao) ?_;exact⟨.inr trivial,_,rfl,rfl⟩
theorem ge166(x:Nat):PSpec Tryz.prog 166 [.int .i64 (x:Int),.fptr [.int .i64 5]] (.bool (decide (5<=x))):=by refine Zcg 64 ok166 rfl rfl rfl ?_;have e:decide ((5:Int)<=(x:Int))=decide (5<=x):=decide_eq_decide.2 (by omega);unfold s166;refine ZcM (ZcN e @Zao) ?_;exact⟨.inr trivial,_,rfl,rfl⟩
end Go.AM.SO
namespace Go.AM.SR
open Go.Proofs
set_option maxHeartbeats 4000000
noncomputable section
def cf:YA.Cf:={most:=.pure,always:=[36].map fun k=>(k,.heap)}
def s83:SFn:=by
 refine(?f:YA.Yt Tryz.prog cf 83 [[0,1,8],[11,12,13,14],[2,3,4,5,10],[10,16,17,18,19],[2,3,4,5,15],[8,3,15,20,21,22],[23,24,25],[26],[2,4,5,9,27,28],[8,9,27,30,31,32,33],[2,4,5,29],[29,35,36,37,38],[2,4,5,34],[5,34,40,41,42,43,44],[2,4,39],[2,4,39,46,47,48,49,50,51],[45],[45]]) ?s ?h;case h=>exact YA.rr
 exact fun s _=>s
theorem ok83:okFn Tryz.prog 83 s83=true:=by kernel_rfl
end
end Go.AM.SR
namespace Go.AM.SO
open Go.Proofs Go.AM.SD Go.AM.SE
theorem Qqa{A B:List Nat}(hA:A.Pairwise (·<·))(c:B.Pairwise (·<·))(h:∀x∈A,x∈B):mrg (fun a b=>a&&!b) A B=[]:=by rw[List.eq_nil_iff_forall_not_mem];intro x d;obtain⟨h1,f⟩:=(QbN hA c).1 d;simp at h1;exact h1.2 (h x h1.1)
theorem Qgj{a:Aut}(h:WfA a):a.al.length<=32:=QaS 32 a.al (by rw[ZaK];exact h.al.imp fun h=>by omega) h.al5
abbrev nmsB(l:List (List UInt8)):Blk:=.map 0 (mapS yes l)
theorem item83(j:List UInt8)(a:Aut)(B:List Nat)(names:List (List UInt8))(h:WfI a)(s:PSpec Tryz.prog 135 [.str j] (.bool true))(m:j∉names)(t:names.length<=100)(n:B.Pairwise (·<·))(k:B.length<=1000000)(p:∀x∈a.al,x∈B):HSpec Tryz.prog 83 [.agg [.str j,sliN a.al,.int .i64 (a.n:Int),sliN a.ms,egsN a.es],.int .i64 5,sliN B,.map 68 0] (hp [(68,nmsB names)]) (.int .i64 0) (hp [(68,nmsB (names++[j]))]):=by
 have q:=Qgj h.wf;have g:a.es.length<=1000000:=Zax h.el (by decide);have u:=check112 a h.wf g;have r:=isCanon60 a h.wf g h.can;have o:=h.pos;have l:¬(a.n:Int)=0:=by omega
 have f:=contains36 (K:=166) (cap:=[.fptr [.int .i64 5]]) (fun x=>decide (5<=x)) a.al (by omega) rfl (fun x _=>ge166 x);have i:a.al.any (fun x=>decide (5<=x))=false:=by rw[List.any_eq_false];intro x v;have:=h.a5 x v;simp;omega
 rw[i]at f;have c:=subset167 a.al B (by omega) k;rw[Qqa h.wf.al n p]at c;have d:PSpec Tryz.prog 167 [sliN a.al,sliN B] (.bool true):=c;refine HSpec.Qs1 (m:=69) 100 SR.ok83 rfl rfl rfl ?_;unfold SR.s83;refine ZcL ?_;refine cp s ?_;refine ZcL ?_;refine Qge gg m ?_;refine ZcL ?_;refine Qek gg m (by omega) ?_;refine ZcM @QhK ?_;refine cp u ?_;refine ZcL ?_;refine cp r ?_;refine ZcM l ?_;refine SU.chc (Zcx (ZcA (Zch _) (ZcA (FrzTo.fn Zcz (ZcA (FrzTo.ptr (g:=0) (cs:=[.int .i64 5]) gg (Zci _)) Zcz)) Zcz)) f rfl) ?_;refine ZcL ?_;refine cp d ?_;refine ZcL ?_;refine⟨.inr trivial,_,rfl,rfl,?_⟩;refine⟨[(68,.nil)],rfl,au0,?_,au18⟩;exact Zcr rfl gg (RnM.mapS fun _ _=>Zcd rfl) Zcm
theorem item83F{h:Heap}(c:List UInt8)(a:Aut)(B:List Nat)(names:List (List UInt8))(hw:WfI a)(m:PSpec Tryz.prog 135 [.str c] (.bool true))(i:c∉names)(g:names.length<=100)(k:B.Pairwise (·<·))(f:B.length<=1000000)(j:∀x∈a.al,x∈B)(d:h.get 68=some (nmsB names)):HSpec Tryz.prog 83 [.agg [.str c,sliN a.al,.int .i64 (a.n:Int),sliN a.ms,egsN a.es],.int .i64 5,sliN B,.map 68 0] h (.int .i64 0) (h.set 68 (nmsB (names++[c]))):=by
 have hm:∀(l:List (List UInt8)),∀e∈mapS yes l,noRef e.1=true/\noRef e.2=true:=fun l e he=>by unfold mapS at he;obtain⟨x,_,rfl⟩:=Zaq.1 he;exact⟨rfl,rfl⟩
 exact HSpec.frameM (item83 c a B names hw m i g k f j) (OnlyD.cons (OnlyD.same (by rw[noRef];exact SU.QdL)) (OnlyD.cons (OnlyD.same rfl) (OnlyD.cons (OnlyD.same (Qab _)) (OnlyD.cons (OnlyD.map rfl) OnlyD.nil)))) (OnlyD.same rfl) (hm _) (hm _) d rfl
end Go.AM.SO
namespace Go.AM.SO
open Go.Proofs Go.AM.SD Go.AM.SE
def uUp(l:List (Nat×Aut)):List Nat:=l.foldl (fun out x=>mrg (fun a b=>a||b) out x.2.al) []
theorem Qi3:∀{l:List (Nat×Aut)}{out:List Nat},out.Pairwise (·<·)->(∀x∈l,x.2.al.Pairwise (·<·))->(l.foldl (fun out x=>mrg (fun a b=>a||b) out x.2.al) out).Pairwise (·<·)/\∀e,e∈l.foldl (fun out x=>mrg (fun a b=>a||b) out x.2.al) out↔e∈out\/∃y∈l,e∈y.2.al
 |[],out,h,_=>⟨h,fun e=>by simp⟩|x::l,out,h,f=>by
  have d:=f x (by simp);obtain⟨h1,g⟩:=Qi3 (l:=l) (Qcw (k:=fun a b=>a||b) h d) fun y i=>f y (by simp[i]);refine⟨h1,fun e=>?_⟩;rw[ZaN,g e,QbN h d];simp only[ZaA,exists_eq_or_imp,Zbd,decide_eq_true_eq];constructor
  ·rintro(⟨c,_⟩|c)
   ·rcases c with c|c;·exact .inl c
    exact .inr (.inl c)
   exact .inr (.inr c)
  rintro(c|c|c);·exact .inl ⟨.inl c,.inl c⟩
  ·exact .inl ⟨.inr c,.inr c⟩
  exact .inr c
theorem Qfs{l:List (Nat×Aut)}(h:∀x∈l,WfI x.2):(uUp l).Pairwise (·<·):=(Qi3 (by simp) fun x a=>(h x a).wf.al).1
theorem Qgy{l:List (Nat×Aut)}(h:∀x∈l,WfI x.2){e:Nat}:e∈uUp l↔∃y∈l,e∈y.2.al:=by have:=(Qi3 (l:=l) (out:=[]) (by simp) fun x a=>(h x a).wf.al).2 e;simpa[uUp]using this
theorem Qi4{l:List (Nat×Aut)}(h:∀x∈l,WfI x.2):(uUp l).length<=5:=by refine QaS 5 _ (by rw[ZaK];exact(Qfs h).imp fun h=>by omega) fun x a=>?_;obtain⟨y,c,he⟩:=(Qgy h).1 a;exact(h y c).a5 x he
theorem Qrh{l:List (Nat×Aut)}{i:Nat}{x:Nat×Aut}(h:l[i]?=some x):uUp (l.take (i+1))=mrg (fun a b=>a||b) (uUp (l.take i)) x.2.al:=by unfold uUp;rw[take_succ' h,ZaZ];rfl
def nmsI(ch:UInt8)(l:List (Nat×Aut)):List (List UInt8):=l.map fun x=>[ch,UInt8.ofNat (48+x.1)]
theorem Ql7{ch:UInt8}{l:List (Nat×Aut)}{i:Nat}{x:Nat×Aut}(h:l[i]?=some x):nmsI ch (l.take (i+1))=nmsI ch (l.take i)++[[ch,UInt8.ofNat (48+x.1)]]:=by unfold nmsI;rw[take_succ' h,ZaL];rfl
theorem Qsg{a b:Nat}(c:a<10)(d:b<10)(h:UInt8.ofNat (48+a)=UInt8.ofNat (48+b)):a=b:=by have:=congrArg UInt8.toNat h;simp at this;omega
theorem Qiw{l:List (Nat×Aut)}(h:l.map (·.1)=List.range l.length){i:Nat}{x:Nat×Aut}(a:l[i]?=some x):x.1=i/\i<l.length:=by
 have hi:i<l.length:=by
  rcases Zbz i l.length with h|h;·exact h
  rw[Zat h]at a;cases a
 have h1:(l.map (·.1))[i]?=some x.1:=by rw[ZaJ,a];rfl
 rw[h,Zbu hi]at h1;cases h1;exact⟨rfl,hi⟩
theorem QnN{ch:UInt8}{l:List (Nat×Aut)}(h:l.map (·.1)=List.range l.length)(m:l.length<=9){i:Nat}{x:Nat×Aut}(c:l[i]?=some x):[ch,UInt8.ofNat (48+x.1)]∉nmsI ch (l.take i):=by intro hm;obtain⟨y,f,he⟩:=Zaq.1 hm;obtain⟨j,d,a⟩:=Zbf f;rw[Zas]at d;rw[List.getElem_take]at a;obtain⟨o,n⟩:=Qiw h c;obtain⟨g,k⟩:=Qiw h (i:=j) (x:=y) (by rw[<-a];exact Zal (by omega));have:=Qsg (a:=y.1) (b:=x.1) (by omega) (by omega) (by simpa using he);omega
theorem Qqb{a b:UInt8}(c:a≠b){s:UInt8}{l:List (Nat×Aut)}:[a,s]∉nmsI b l:=by intro hm;obtain⟨y,d,he⟩:=Zaq.1 hm;simp at he;exact c he.1.symm
theorem Ql0{i:Nat}(h:i<3):PSpec Tryz.prog 135 [.str [99,UInt8.ofNat (48+i)]] (.bool true):=by
 have:i=0\/i=1\/i=2:=by omega
 rcases this with rfl|rfl|rfl;·exact SP.Qr2
 ·exact SP.Qr3
 exact SP.Qr4
theorem QtJ{i:Nat}(h:i<2):PSpec Tryz.prog 135 [.str [114,UInt8.ofNat (48+i)]] (.bool true):=by
 have:i=0\/i=1:=by omega
 rcases this with rfl|rfl;·exact SP.Qr5
 exact SP.Qr6
theorem Qgz{m:Nat}{π:Nat->Option Src}{h:Heap}:RnM m π h (mapS yes []) []:=trivial
theorem QbS(c:Cel):noRefs [evsV c.ev,its 99 c.cs,its 114 c.rs,exs c.xs,cos c.ks]=true:=by have:=SU.Qbc c;rwa[celV,noRef]at this
theorem check21(c:Cel)(h:WfCel c):PSpec Tryz.prog 21 [celV c] (.int .i64 0):=by
 have a:=QbS c;refine Zcg 64 ok21 rfl (by rw[noRefs,SU.Qbc];rfl) rfl ?_;have z:=check82 c.ev h.ev;have B:=h.c0;have E:=h.c3;have C:=h.r2;have g1:¬(c.cs.length:Int)=0:=by omega
 have g2:¬(8:Int)<(c.cs.length:Int):=by omega
 have g3:¬(12:Int)<(c.cs.length:Int)+(c.rs.length:Int):=by omega
 have v:=conds85 c h;have s:=conds32 c h;unfold s21;refine ZcL ?_;refine cp z ?_;refine ZcM (ZcO g1 g2 g3) ?_;refine Qaq 140 (fun i:Nat=>[(1,.ptr 50 0 0),(5,.map 68 0),(6,.sl 76 0 0 i 1),(7,.nilsl),(41,.int .i64 5),(42,.int .i64 i)]) (fun i=>[(50,.cells 0 [evsV c.ev,its 99 c.cs,its 114 c.rs,exs c.xs,cos c.ks]),(68,nmsB []),(76,.cells 0 (ints (nz (List.range i))))]) (fun i=>i<=5) (fun i=>5-i) 0 1 180 (fun _:Unit=>[(1,.ptr 50 0 0),(5,.map 68 0),(6,sliN (List.range 5)),(7,sliN [])]) (fun _=>[(50,.cells 0 [evsV c.ev,its 99 c.cs,its 114 c.rs,exs c.xs,cos c.ks]),(68,nmsB [])]) (fun _=>True) ?_ (Zah _) ?_ ?_;·refine⟨[(50,.blk 64 0),(68,.blk 90 0),(76,.nil)],rfl,au0,?_,au18⟩;exact Zcn rfl rfl gg (Zce a) (Zcp rfl rfl gg Qgz (Zco rfl rfl Zcm))
 ·rintro i hi;by_cases d:i<5
  ·have q:(i:Int)<5:=by omega
   have r:(ints (nz (List.range i))).length=i:=by simp[ints]
   refine ZcM (ZcO q @Zbt r) ?_;refine⟨i+1,by omega,by omega,?_⟩;rw[ZaH,QaF,Qaw];refine⟨[(50,.blk 50 0),(68,.blk 68 0),(76,.blk 76 1)],rfl,au0,?_,au18⟩;exact Zcn rfl rfl gg (Zce a) (Zcp rfl rfl gg Qgz (Zcn rfl rfl gg (Zce (SU.Qax (Qaa _) rfl)) Zcm))
  have e:i=5:=by omega
  subst e;refine ZcL ?_;refine⟨(),[(50,.blk 50 0),(68,.blk 68 0)],rfl,Zcj,?_,?_⟩;·exact Zcn rfl rfl gg (Zce a) (Zcp rfl rfl gg Qgz Zcm)
  exact Zcl (Rn.x2 rfl rfl) (Zcl (Rn.x3 rfl rfl) (Zcl (Rn.fz (b:=76) (g:=0) gg rfl rfl rfl (Zce rfl)) (Zcl Rn.nilK Zck)))
 rintro _ _;refine ZcL ?_;refine Qaq 240 (fun i:Nat=>[(1,.ptr 50 0 0),(5,.map 68 0),(6,sliN (List.range 5)),(7,sliN (uUp (c.cs.take i))),(51,its 99 c.cs),(52,.int .i64 c.cs.length),(53,.int .i64 i)]) (fun i=>[(50,.cells 0 [evsV c.ev,its 99 c.cs,its 114 c.rs,exs c.xs,cos c.ks]),(68,nmsB (nmsI 99 (c.cs.take i)))]) (fun i=>i<=c.cs.length) (fun i=>c.cs.length-i) 0 3 280 (fun _:Unit=>[(1,.ptr 50 0 0),(5,.map 68 0),(7,sliN (uUp c.cs))]) (fun _=>[(50,.cells 0 [evsV c.ev,its 99 c.cs,its 114 c.rs,exs c.xs,cos c.ks]),(68,nmsB (nmsI 99 c.cs))]) (fun _=>True) ?_ (Zah _) ?_ ?_;·refine⟨[(50,.blk 50 0),(68,.blk 68 0)],rfl,au0,?_,au18⟩;exact Zcn rfl rfl gg (Zce a) (Zcp rfl rfl gg Qgz Zcm)
 ·rintro i hi;by_cases d:i<c.cs.length
  ·obtain⟨x,g⟩:=Qap d;have m:=Zaf g;have l:=SU.Qdk (ch:=99) g;have o:5<=((c.cs.flatMap (itC 99)).drop (i*5)).length:=by rw[l];simp
   have j:=h.ca x m;have u:=Qiw h.cn g;have n:(nmsI 99 (c.cs.take i)).length<=100:=by simp[nmsI];omega
   have t:=Ql0 (i:=x.1) (by omega);have k:=QnN (ch:=99) h.cn (by omega) g;have f:(uUp (c.cs.take i)).length<=1000000:=by have:=Qi4 (l:=c.cs.take i) fun y A=>h.ca y (ZaP A);omega
   have w:=union84 (uUp (c.cs.take i)) x.2.al f (by have:=Qgj j.wf;omega);rw[<-Qrh g]at w;have p:=Ql7 (ch:=99) g;refine ZcM (ZcO d l o) ?_;refine SU.chc (item83F _ _ _ _ j t k n ZbC (by decide) (fun e he=>Zau.2 (j.a5 e he)) gg) ?_;refine ZcL ?_;refine cp w ?_;refine ZcL ?_;refine⟨i+1,by omega,by omega,?_⟩;rw[p];refine⟨[(50,.blk 50 0),(68,.blk 68 0)],rfl,au0,?_,au18⟩;exact Zcn rfl rfl gg (Zce a) (Zcp rfl rfl gg (RnM.mapS fun _ _=>Zcd rfl) Zcm)
  have e:i=c.cs.length:=by omega
  subst e;refine ZcM (ZcN d @Zay) ?_;refine⟨(),?_⟩;refine⟨[(50,.blk 50 0),(68,.blk 68 0)],rfl,au0,?_,au18⟩;exact Zcn rfl rfl gg (Zce a) (Zcp rfl rfl gg (RnM.mapS fun _ _=>Zcd rfl) Zcm)
 rintro _ _;refine ZcL ?_;refine Qaq 340 (fun i:Nat=>[(1,.ptr 50 0 0),(5,.map 68 0),(7,sliN (uUp c.cs)),(74,its 114 c.rs),(75,.int .i64 c.rs.length),(76,.int .i64 i)]) (fun i=>[(50,.cells 0 [evsV c.ev,its 99 c.cs,its 114 c.rs,exs c.xs,cos c.ks]),(68,nmsB (nmsI 99 c.cs++nmsI 114 (c.rs.take i)))]) (fun i=>i<=c.rs.length) (fun i=>c.rs.length-i) 0 5 380 (fun _:Unit=>[(1,.ptr 50 0 0)]) (fun _=>[(50,.cells 0 [evsV c.ev,its 99 c.cs,its 114 c.rs,exs c.xs,cos c.ks])]) (fun _=>True) ?_ (Zah _) ?_ ?_;·rw[show nmsI 99 c.cs++nmsI 114 (c.rs.take 0)=nmsI 99 c.cs by simp[nmsI]];refine⟨[(50,.blk 50 0),(68,.blk 68 0)],rfl,au0,?_,au18⟩;exact Zcn rfl rfl gg (Zce a) (Zcp rfl rfl gg (RnM.mapS fun _ _=>Zcd rfl) Zcm)
 ·rintro i hi;by_cases d:i<c.rs.length
  ·obtain⟨x,g⟩:=Qap d;have m:=Zaf g;have l:=SU.Qdk (ch:=114) g;have o:5<=((c.rs.flatMap (itC 114)).drop (i*5)).length:=by rw[l];simp
   have j:=h.ra x m;have u:=Qiw h.rn g;have n:(nmsI 99 c.cs++nmsI 114 (c.rs.take i)).length<=100:=by simp[nmsI];omega
   have t:=QtJ (i:=x.1) (by omega);have k:[114,UInt8.ofNat (48+x.1)]∉nmsI 99 c.cs++nmsI 114 (c.rs.take i):=by
    intro hm;rcases ZaI.1 hm with hm|hm;·exact Qqb (by decide) hm
    exact QnN (ch:=114) h.rn (by omega) g hm
   have f:(uUp c.cs).length<=1000000:=by have:=Qi4 (l:=c.cs) h.ca;omega
   have p:=Ql7 (ch:=114) g;refine ZcM (ZcO d l o) ?_;refine SU.chc (item83F _ _ _ _ j t k n (Qfs h.ca) f (fun e he=>(Qgy h.ca).2 (h.rsub x m e he)) gg) ?_;refine ZcL ?_;refine⟨i+1,by omega,by omega,?_⟩;rw[p,<-ZaM];refine⟨[(50,.blk 50 0),(68,.blk 68 0)],rfl,au0,?_,au18⟩;exact Zcn rfl rfl gg (Zce a) (Zcp rfl rfl gg (RnM.mapS fun _ _=>Zcd rfl) Zcm)
  refine ZcM d ?_;refine⟨(),?_⟩;refine⟨[(50,.blk 50 0)],rfl,au0,?_,au18⟩;exact Zcn rfl rfl gg (Zce a) Zcm
 rintro _ _;refine ZcL ?_;refine cp v ?_;refine ZcL ?_;refine cp s ?_;refine ZcL ?_;exact⟨.inr trivial,_,rfl,rfl⟩
end Go.AM.SO
namespace Go.AM.SO
open Go.Proofs Go.AM.SD Go.AM.SE
theorem u8_wf{n:Int}(h:(Lit.int .u8 n).wf=true):0<=n/\n<256:=by grind[Lit.wf,IntKind.min,IntKind.max,IntKind.signed,IntKind.bits]
theorem i8_wf{n:Int}(h:(Lit.int .i8 n).wf=true):-128<=n/\n<128:=by grind[Lit.wf,IntKind.min,IntKind.max,IntKind.signed,IntKind.bits]
def u8O:Ty->Bool|.int k=>k==.u8|.arr _ t=>u8O t|.st t=>u8O t|.unit=>true|.pair a b=>u8O a&&u8O b|_=>false
theorem Qft{a b:List Nat}:u8s (a++b)=u8s a++u8s b:=by simp[u8s]
theorem Qcb:∀(t:Ty),u8O t=true->∀(d:t.D),t.wf d->∃l:List Nat,l.length=t.sz/\(∀x∈l,x<256)/\t.cells d=u8s l
 |.int k,h,d,hw=>by
  have:k=.u8:=by grind[u8O]
  subst this;have:=u8_wf hw;refine⟨[Int.toNat d],rfl,by simp;omega,?_⟩;show[AV.int .u8 d]=[AV.int .u8 ((Int.toNat d:Nat):Int)];grind|.bool,h,_,_=>by cases h|.str,h,_,_=>by cases h|.sl _,h,_,_=>by cases h|.st t,h,d,hw=>Qcb t h d hw|.unit,_,_,_=>⟨[],rfl,by simp,rfl⟩|.pair a b,h,d,hw=>by simp only[u8O,Zab]at h;obtain⟨l,h1,g,i⟩:=Qcb a h.1 d.1 hw.1;obtain⟨m,g1,g2,g3⟩:=Qcb b h.2 d.2 hw.2;refine⟨l++m,by rw[Zae,h1,g1];rfl,fun x c=>(ZaI.1 c).elim (g x) (g2 x),?_⟩;show a.cells d.1++b.cells d.2=_;rw[i,g3,Qft]|.arr n t,h,d,hw=>by
  obtain⟨f,c⟩:=hw;have key:∀l:List t.D,(∀x∈l,t.wf x)->∃r:List Nat,r.length=l.length*t.sz/\(∀x∈r,x<256)/\l.flatMap t.cells=u8s r:=by intro l;induction l with|nil=>intro _;exact⟨[],by simp,by simp,rfl⟩|cons a l j=>intro f;obtain⟨r,g1,g2,g3⟩:=j fun y o=>f y (by simp[o]);obtain⟨m,h1,g,i⟩:=Qcb t h a (f a (by simp));refine⟨m++r,by grind,fun x c=>(ZaI.1 c).elim (g x) (g2 x),?_⟩;rw[Zav,g3,i,Qft]
  obtain⟨r,g1,g2,g3⟩:=key d c;refine⟨r,by rw[g1];show List.length d*t.sz=n*t.sz;rw[f],g2,g3⟩
abbrev tyTo:Ty:=.arr 5 (.arr 5 (.int .u8))
abbrev tyGr:Ty:=.st (.pair (.int .u8) (.pair (.int .u8) (.pair tyTo .unit)))
abbrev tyPln:Ty:=.st (.pair (.arr 5 (.int .u8)) (.pair (.int .u8) (.pair (.arr 3 (.int .u8)) (.pair (.arr 3 tyGr) (.pair (.int .u8) (.pair (.arr 2 (.int .u8)) (.pair (.arr 2 tyGr) (.pair (.sl (.arr 4 (.int .u8))) (.pair (.arr 3 (.int .i8)) (.pair (.int .i8) .unit))))))))))
theorem QtK{d:tyPln.D}(h:tyPln.wf d):∃p:Pln,POk p/\p.xn<=9223372036854775807/\tyPln.val d=plnV p:=by
 obtain⟨a,b,c,g,e,f,k,x,y,z,u⟩:=d;obtain⟨h1,B,v,t,r,A,s,o,w,n,_⟩:=h;dsimp only at h1 B v t r A s o w n;obtain⟨V,a1,b1,c1⟩:=Qcb (.arr 5 (.int .u8)) rfl _ h1;obtain⟨C,a2,b2,c2⟩:=Qcb (.int .u8) rfl _ B;obtain⟨Q,a3,b3,S⟩:=Qcb (.arr 3 (.int .u8)) rfl _ v;obtain⟨G,a4,b4,M⟩:=Qcb (.arr 3 tyGr) rfl _ t;obtain⟨O,a5,b5,J⟩:=Qcb (.int .u8) rfl _ r;obtain⟨E,H,b6,F⟩:=Qcb (.arr 2 (.int .u8)) rfl _ A;obtain⟨X,Y,b7,N⟩:=Qcb (.arr 2 tyGr) rfl _ s;obtain⟨q,o⟩:=o;obtain⟨K,U,b8,L⟩:=Qcb (.arr (List.length x) (.arr 4 (.int .u8))) rfl x ⟨rfl,o⟩;obtain⟨P,m⟩:=w;obtain⟨i,j,l,rfl⟩:∃i j l,y=[i,j,l]:=by match y,P with|[i,j,l],_=>exact⟨i,j,l,rfl⟩
 have I:=i8_wf (m i (by simp));have R:=i8_wf (m j (by simp));have Z:=i8_wf (m l (by simp));have T:=i8_wf n;refine⟨⟨V++C++Q++G++O++E++X,K,List.length x,i,j,l,z⟩,⟨?_,?_,U,b8,I,R,Z,T⟩,q,?_⟩;·simp only[Zae,a1,a2,a3,a4,a5,H,Y];rfl
 ·grind
 show AV.agg (tyPln.cells _)=_;congr 1;show(Ty.arr 5 (.int .u8)).cells a++((Ty.int .u8).cells b++((Ty.arr 3 (.int .u8)).cells c++((Ty.arr 3 tyGr).cells g++((Ty.int .u8).cells e++((Ty.arr 2 (.int .u8)).cells f++((Ty.arr 2 tyGr).cells k++([.fsl ((Ty.arr (List.length x) (.arr 4 (.int .u8))).cells x) (List.length x) 4]++((Ty.arr 3 (.int .i8)).cells [i,j,l]++((Ty.int .i8).cells z++[])))))))))=_;rw[c1,c2,S,M,J,F,N,L];simp only[plnC,Qft,ZaM];rfl
end Go.AM.SO
namespace Go.AM.SO
open Go.Proofs Go.AM.SD Go.AM.SE
def itN(x:List UInt8×Aut):List AV:=[.str x.1,sliN x.2.al,.int .i64 (x.2.n:Int),sliN x.2.ms,egsN x.2.es]
theorem Qki(l:List (List UInt8×Aut)):noRefs (l.flatMap itN)=true:=Qa1 (fun x=>by simp only[itN,noRefs,noRef,Qaa,Qad];rfl) l
def evl(e:Nat->Evt):List (List UInt8×Evt):=(List.range 5).map fun i=>([UInt8.ofNat (97+i)],e i)
def evN(x:List UInt8×Evt):List AV:=[.str x.1,.bool x.2.c,.bool x.2.o,.bool x.2.f,.int .i64 (x.2.flt:Int)]
abbrev evNV(x:List UInt8×Evt):AV:=.agg [.str x.1,.bool x.2.c,.bool x.2.o,.bool x.2.f,.int .i64 (x.2.flt:Int)]
abbrev evsN(l:List (List UInt8×Evt)):AV:=.fsl (l.flatMap evN) l.length 5
theorem Qi5(e:Nat->Evt):evsV e=evsN (evl e):=rfl
theorem QdM(l:List (List UInt8×Evt)):noRefs (l.flatMap evN)=true:=Qa1 (fun x=>rfl) l
theorem Ql8{l:List (List UInt8×Evt)}{i:Nat}{x:List UInt8×Evt}(h:l[i]?=some x):(l.flatMap evN).drop (i*5)=.str x.1::.bool x.2.c::.bool x.2.o::.bool x.2.f::.int .i64 (x.2.flt:Int)::(l.drop (i+1)).flatMap evN:=Qbh (f:=evN) (k:=5) (fun _=>rfl) h
end Go.AM.SO
namespace Go.AM.SO
open Go.Proofs Go.AM.SD Go.AM.SE
def uncL(e:Nat->Evt)(n:Nat):List Nat:=(List.range n).filter fun i=>!(e i).c
theorem Ql9(e:Nat->Evt)(n:Nat):uncL e (n+1)=uncL e n++if(e n).c then[]else[n]:=by unfold uncL;rw[ZaH,Zbn];cases h:(e n).c<;>simp[h]
theorem QnO(e:Nat->Evt)(n:Nat):(uncL e n).length<=n:=by have:=Za4 (fun i=>!(e i).c) (List.range n);rwa[Zbt]at this
theorem Qqc(e:Nat->Evt){i:Nat}(h:i<5):(evl e)[i]?=some ([UInt8.ofNat (97+i)],e i):=by unfold evl;rw[ZaJ,Zbu h];rfl
theorem unc171(x:List UInt8×Evt):PSpec Tryz.prog 171 [evNV x] (.bool (!x.2.c)):=by refine Zcg 64 OE.ok171 rfl rfl rfl ?_;cases h:x.2.c;all_goals unfold OE.s171;refine ZcM h ?_;exact⟨.inr trivial,_,rfl,rfl⟩
theorem _root_.Go.AM.au19{p:Prop}(h:p:=by repeat(first|exact Zck|(refine Zcl ?_ ?_;·(first|exact Rn.any|exact Rn.x1 rfl rfl|exact Rn.x2 rfl rfl|exact Rn.x3 rfl rfl|exact Rn.x4 rfl rfl|exact Rn.x5 rfl|exact Rn.x6 rfl|exact Rn.x7 rfl|(refine Rn.slot ?_ ?_;(first|rfl|(rw[ZaV];rfl));(first|rfl|(simp only[noRef,noRefs,Qag,Zad,Zac,Zag,Qaa,Qan,Qab,Qki,QdM];done)))|(refine Rn.fn ?_ ?_<;>(repeat'(first|exact Zcs|refine Zct ?_ ?_|exact Zcd rfl|exact Rn.x6 rfl|exact Rn.x2 rfl rfl|exact Rn.x5 rfl|exact Rn.x1 rfl rfl))))))):p:=h
theorem chosen176(e:Nat->Evt):PSpec Tryz.prog 176 [evsV e,.fn 171 [] []] (sliN (uncL e 5)):=by
 have k:=QdM (evl e);rw[Qi5];refine Zcf 64 OE.ok176 rfl (by simp only[noRefs,noRef,k];rfl) (Qab _) ?_;unfold OE.s176;refine ZcL ?_;refine Qaq 100 (fun i:Nat=>[(1,.fn 171 [] []),(5,.sl 76 0 0 (uncL e i).length 1),(8,evsN (evl e)),(9,.int .i64 5),(10,.int .i64 i)]) (fun i=>[(76,.cells 0 (ints (nz (uncL e i))))]) (fun i=>i<=5) (fun i=>5-i) 0 0 160 (fun _:Unit=>[(5,sliN (uncL e 5))]) (fun _=>[]) (fun _=>True) ?_ (Zah _) ?_ ?_;·refine⟨[(76,.nil)],rfl,au0,?_,au19⟩;exact Zco rfl rfl Zcm
 ·rintro i hi;have l:=QnO e i;by_cases j:i<5
  ·have d:=Ql8 (Qqc e j);have f:5<=(((evl e).flatMap evN).drop (i*5)).length:=by rw[d];simp
   have a:=Ql9 e i;have c:(i:Int)<5:=by omega
   have g:i<(evl e).length:=by simpa[evl]using j
   have hc:=unc171 ([UInt8.ofNat (97+i)],e i);cases h:(e i).c;·rw[h]at a;refine ZcM (ZcP c g d f) ?_;refine cp hc ?_;refine ZcM h ?_;refine⟨i+1,by omega,by omega,?_⟩;rw[a,if_neg (by simp),Zae,QaF,Qaw];refine⟨[(76,.blk 76 1)],rfl,au0,?_,au19⟩;exact Zcn rfl rfl gg (Zce (SU.Qax (Qaa _) rfl)) Zcm
   rw[h]at a;refine ZcM (ZcP c g d f) ?_;refine cp hc ?_;refine ZcM h ?_;refine⟨i+1,by omega,by omega,?_⟩;rw[a,if_pos rfl,Zao];refine⟨[(76,.blk 76 0)],rfl,au0,?_,au19⟩;exact Zcn rfl rfl gg (Zce (Qaa _)) Zcm
  have m:i=5:=by omega
  subst m;refine ZcL ?_;refine⟨(),?_⟩;exact⟨[],rfl,Zcj,Zcm,Zcl (Zcu (b:=76) (g:=0) gg rfl rfl (by simp) (by simp[ints]) (Zce (Qaa _))) Zck⟩
 rintro _ _;refine ZcL ?_;exact⟨.inr trivial,_,rfl,Zcd (Qab _)⟩
theorem select86(e:Nat->Evt)(he:∀i,i<5->(e i).Ok):PSpec Tryz.prog 86 [evsV e,.int .i64 2] (.tup [sliN (uncL e 5),.int .i64 0]):=by
 have a:noRef (evsV e)=true:=by rw[Qi5];exact QdM (evl e)
 refine Zcf 64 OE.ok86 rfl (by simp only[noRefs,a];rfl) (by simp only[noRef,noRefs,Qaa];rfl) ?_;have c:=check82 e he;have hH:=chosen176 e;unfold OE.s86;refine ZcL ?_;refine cp c ?_;refine ZcL ?_;refine QbG ?_;refine ZcL ?_;refine Qcv (f:=fun _=>.any) (l:=[]) (x:=1) (by simp) (by decide) ?_;refine ZcL ?_;refine QbG ?_;refine ZcL ?_;refine Qcv (x:=2) (by simp) (by decide) ?_;refine ZcL ?_;refine QbG ?_;refine ZcL ?_;refine Qcv (x:=3) (by simp) (by decide) ?_;refine ZcL ?_;refine QbG ?_;refine ZcL ?_;refine Qcv (x:=4) (by simp) (by decide) ?_;refine ZcL ?_;refine QbG ?_;refine ZcL ?_;refine Qcv (x:=5) (by simp) (by decide) ?_;refine ZcL ?_;refine QbG ?_;refine ZcL ?_;refine Qcv (x:=6) (by simp) (by decide) ?_;refine ZcL ?_;refine Qdq ?_;refine ZcL ?_;refine wK_in (x:=2) (by simp) ?_;have hu:updF (updF (updF (updF (updF (updF (fun _=>.any) 1 (.fn 170 [] [])) 2 (.fn 171 [] [])) 3 (.fn 172 [] [])) 4 (.fn 173 [] [])) 5 (.fn 174 [] [])) 6 (.fn 175 [] []) 2=.fn 171 [] []:=rfl;refine ZcM hu ?_;refine cp hH ?_;refine ZcL ?_;exact⟨.inr trivial,_,rfl,Zcd (by simp only[noRef,noRefs,Qaa];rfl)⟩
end Go.AM.SO
namespace Go.AM.TQ
open Go.Proofs
set_option maxHeartbeats 4000000
noncomputable section
def cf:YA.Cf:={most:=.pure,always:=[48,115,203].map fun k=>(k,.heap),value:=.pure}
def s18:SFn:=by
 refine(?f:YA.Yt Tryz.prog cf 18 [[0],[19,20,18,21,22],[23],[1,4,5,24,25,26],[5,24,27,28,29,30,31],[32,33,34],[],[38,39,40,41],[8,43,44,45,42,46,47],[48,49,50,51,52,53,54],[55,56,57,58,59,60,61,62,63,64,65,66,67,68,69,70,71,72,73,74],[9,76,77,78,79,80,81,75,82,83,84,85,15],[14],[7,10,11,12,13,86,87,88,89,90,91,92,93,94,95],[10,11,12,13,86,96,97,98],[99,100],[101],[102,103,104,105,106,107],[7,16,17,108,109,110,111,112,113,114,115,116,117],[7,99,118],[1,4,6,35,36,37,119]] [(10,[(4,7),(5,7),(4,13),(5,13),(10,13),(11,13),(3,15),(5,15),(9,15),(11,15)])]) ?s ?h;case h=>exact YA.rr
 exact fun s _=>s
def s48:SFn:=by
 refine(?f:YA.Yt Tryz.prog cf 48 [[4],[6],[],[9,10],[11,12,13,14,15],[0,1,7,8,5,16,17],[4,5,16,18],[0,1,7,8]]) ?s ?h;case h=>exact YA.rr
 exact fun s _=>s
def s71:SFn:=by
 refine(?f:YA.Yt Tryz.prog cf 71 [[4,5],[0,7,8,9,10,11,12],[1,6,13,14,15,16,17,18,19]]) ?s ?h;case h=>exact YA.rr
 exact fun s _=>s
def s73:SFn:=by
 refine(?f:YA.Yt Tryz.prog cf 73 [[0,4,5,6,7],[10,11,12],[13],[1,2,8,14,15],[4,5,6,7,1,8,14,16,17,18,19],[26,27],[2,9,25],[25,29,30,31,32,33],[2,9,28,34],[2,9,28,20,21,22,23,24]]) ?s ?h;case h=>exact YA.rr
 exact fun s _=>s
def s74:SFn:=by
 refine(?f:YA.Yt Tryz.prog cf 74 [[0,1,2,6],[3,4,5,7]]) ?s ?h;case h=>exact YA.rr
 exact fun s _=>s
def s115:SFn:=by
 refine(?f:YA.Yt Tryz.prog cf 115 [[4],[0,1,5,6,7,8]]) ?s ?h;case h=>exact YA.rr
 exact fun s _=>s
def s157:SFn:=by
 refine(?f:YA.Yt Tryz.prog cf 157 [[0,4],[6,7],[8],[1,2,5,9,10],[1,2,5,9,11,12,13]]) ?s ?h;case h=>exact YA.rr
 exact fun s _=>s
def s158:SFn:=by
 refine(?f:YA.Yt Tryz.prog cf 158 [[1,4],[0,3,5,6,7]]) ?s ?h;case h=>exact YA.rr
 exact fun s _=>s
def s159:SFn:=by
 refine(?f:YA.Yt Tryz.prog cf 159 [[0,2],[],[8],[],[12,13,14],[5,15,16,17,18,19],[20],[1,9,10,11,21],[],[25,26,27],[7,28,29,30,31,32],[33],[3,22,23,24,34]]) ?s ?h;case h=>exact YA.rr
 exact fun s _=>s
def s161:SFn:=by
 refine(?f:YA.Yt Tryz.prog cf 161 [[0,4,5],[10,11,12],[13],[1,2,6,14,15],[4,5,6,14],[1,2,16,17],[],[21,22,23],[9,24,25,26,27,28],[29],[7,18,19,20,30]]) ?s ?h;case h=>exact YA.rr
 exact fun s _=>s
def s162:SFn:=by
 refine(?f:YA.Yt Tryz.prog cf 162 [[6],[0,12,13,14,15],[],[19,20,21,22],[23,24,25,26,27],[8,28,30,31,32,33,34,35,36,37,29,38,39,40,9,11],[10,41],[1,2,16,17,18,7,42,43],[6,7,42,44],[1,2,16,17,18]]) ?s ?h;case h=>exact YA.rr
 exact fun s _=>s
def s195:SFn:=by
 refine(?f:YA.Yt Tryz.prog cf 195 [[4],[6],[],[9,10],[11,12,13,14,15],[0,1,7,8,5,16,17],[4,5,16,18],[0,1,7,8]]) ?s ?h;case h=>exact YA.rr
 exact fun s _=>s
def s202:SFn:=by
 refine(?f:YA.Yt Tryz.prog cf 202 [[0,4],[7,8,9,10,11],[1,2,12],[4,1,12],[],[16,17,18,19],[5,6,20,21,22],[2,13,14,15,29,23,28,27,25,26,24,30],[4,30,31],[2,13,14,15,29,23,28,27,25,26,24]]) ?s ?h;case h=>exact YA.rr
 exact fun s _=>s
def s203:SFn:=by
 refine(?f:YA.Yt Tryz.prog cf 203 [[4],[6],[],[9,10],[11,12,13,14,15],[0,1,7,8,5,16,17],[4,5,16,18],[0,1,7,8]]) ?s ?h;case h=>exact YA.rr
 exact fun s _=>s
def s204:SFn:=by
 refine(?f:YA.Yt Tryz.prog cf 204 [[3],[0,1,4,5,6]]) ?s ?h;case h=>exact YA.rr
 exact fun s _=>s
def s205:SFn:=by
 refine(?f:YA.Yt Tryz.prog cf 205 [[0,2],[1,3]]) ?s ?h;case h=>exact YA.rr
 exact fun s _=>s
def s206:SFn:=by
 refine(?f:YA.Yt Tryz.prog cf 206 [[0,2],[1,3]]) ?s ?h;case h=>exact YA.rr
 exact fun s _=>s
def s207:SFn:=by
 refine(?f:YA.Yt Tryz.prog cf 207 [[0,4],[6,7],[8],[1,2,5,9,10],[4,1,2,5,9,11,12,13,14,15,16,17],[18],[18]]) ?s ?h;case h=>exact YA.rr
 exact fun s _=>s
def s208:SFn:=by
 refine(?f:YA.Yt Tryz.prog cf 208 [[0,6,7,8],[10,11,12],[13],[1,2,3,14,15],[8,6,7,14,16,17,18,19],[1,2,3,20],[6,7,8,1,2,3,20,21,22,23,24],[25],[9,26,27],[9,26]]) ?s ?h;case h=>exact YA.rr
 exact fun s _=>s
def s226:SFn:=by
 refine(?f:YA.Yt Tryz.prog cf 226 [[0,2,6],[1,3,9,10,11],[5,12,13,14],[15],[7,8,16],[7,8,16,17,18,19,20,21]]) ?s ?h;case h=>exact YA.rr
 exact fun s _=>s
def s233:SFn:=by
 refine(?f:YA.Yt Tryz.prog cf 233 [[0,3],[1,2,4,5,6,7,8]]) ?s ?h;case h=>exact YA.rr
 exact fun s _=>s
def s234:SFn:=by
 refine(?f:YA.Yt Tryz.prog cf 234 [[0,3],[1,2,4,5,6,7,8,9,10,11]]) ?s ?h;case h=>exact YA.rr
 exact fun s _=>s
def s235:SFn:=by
 refine(?f:YA.Yt Tryz.prog cf 235 [[3],[0,1,4,5,6,7,8,9]]) ?s ?h;case h=>exact YA.rr
 exact fun s _=>s
def s236:SFn:=by
 refine(?f:YA.Yt Tryz.prog cf 236 [[0,4],[],[2,8],[],[12,13,14],[7,15,16,17,18,19,20,21,22,23,24],[25],[1,5,9,10,11,26]]) ?s ?h;case h=>exact YA.rr
 exact fun s _=>s
def s262:SFn:=by
 refine(?f:YA.Yt Tryz.prog cf 262 [[0,3],[1,2,4,5,6,7]]) ?s ?h;case h=>exact YA.rr
 exact fun s _=>s
theorem ok18:okFn Tryz.prog 18 s18=true:=by kernel_rfl
theorem ok48:okFn Tryz.prog 48 s48=true:=by kernel_rfl
theorem ok71:okFn Tryz.prog 71 s71=true:=by kernel_rfl
theorem ok73:okFn Tryz.prog 73 s73=true:=by kernel_rfl
theorem ok74:okFn Tryz.prog 74 s74=true:=by kernel_rfl
theorem ok115:okFn Tryz.prog 115 s115=true:=by kernel_rfl
theorem ok157:okFn Tryz.prog 157 s157=true:=by kernel_rfl
theorem ok158:okFn Tryz.prog 158 s158=true:=by kernel_rfl
theorem ok159:okFn Tryz.prog 159 s159=true:=by kernel_rfl
theorem ok161:okFn Tryz.prog 161 s161=true:=by kernel_rfl
theorem ok162:okFn Tryz.prog 162 s162=true:=by kernel_rfl
theorem ok195:okFn Tryz.prog 195 s195=true:=by kernel_rfl
theorem ok202:okFn Tryz.prog 202 s202=true:=by kernel_rfl
theorem ok203:okFn Tryz.prog 203 s203=true:=by kernel_rfl
theorem ok204:okFn Tryz.prog 204 s204=true:=by kernel_rfl
theorem ok205:okFn Tryz.prog 205 s205=true:=by kernel_rfl
theorem ok206:okFn Tryz.prog 206 s206=true:=by kernel_rfl
theorem ok207:okFn Tryz.prog 207 s207=true:=by kernel_rfl
theorem ok208:okFn Tryz.prog 208 s208=true:=by kernel_rfl
theorem ok226:okFn Tryz.prog 226 s226=true:=by kernel_rfl
theorem ok233:okFn Tryz.prog 233 s233=true:=by kernel_rfl
theorem ok234:okFn Tryz.prog 234 s234=true:=by kernel_rfl
theorem ok235:okFn Tryz.prog 235 s235=true:=by kernel_rfl
theorem ok236:okFn Tryz.prog 236 s236=true:=by kernel_rfl
theorem ok262:okFn Tryz.prog 262 s262=true:=by kernel_rfl
end
end Go.AM.TQ
namespace Go.AM.TP
open Go.Proofs
set_option maxHeartbeats 4000000
noncomputable section
def cf:YA.Cf:={most:=.pure,always:=[41].map fun k=>(k,.heap)}
def s17:SFn:=by
 refine(?f:YA.Yt Tryz.prog cf 17 [[0,3,4],[6,7],[8],[1,5,9,10,11],[1,5,9,12,13,14,15,16,17,18]]) ?s ?h;case h=>exact YA.rr
 exact fun s _=>s
def s28:SFn:=by
 refine(?f:YA.Yt Tryz.prog cf 28 [[3,4],[17,18],[19],[0,5,20,21,22],[3,4,0,5,20,23,24],[25,26,27],[29,30,28,31,32],[8,33],[6,7,34,35],[4,34,36,37],[7,38,39,40,41],[],[42,43,44],[45,48,49,50,51,52],[53,54,55,56,57,58,59],[53,60],[],[64,65,66],[68,69,70,71,72,73,74,67,75,76],[14,77],[78,80,81,82,83,79,84,85],[16,86],[15,87,88,89],[6,9,10,61,62,63,12,13,90,91],[4,90,92,93],[94,95,96,97],[13,98,99,100,101],[12,15,13,87,102,103,104,105,106,107,108,109,110],[111],[61,62,63,46,47],[6,9,10,112,113,114],[115,116]]) ?s ?h;case h=>exact YA.rr
 exact fun s _=>s
def s69:SFn:=by
 refine(?f:YA.Yt Tryz.prog cf 69 [[2],[],[0],[],[9,10,11],[5,12,13,14,15,16],[17],[3,6,7,8,18]]) ?s ?h;case h=>exact YA.rr
 exact fun s _=>s
def s95:SFn:=by
 refine(?f:YA.Yt Tryz.prog cf 95 [[2],[6,7],[0,8],[2,0,8],[],[12,13,14],[4,15,16],[17],[9,10,11,5,18,19],[2,5,18,20],[9,10,11]]) ?s ?h;case h=>exact YA.rr
 exact fun s _=>s
def s96:SFn:=by
 refine(?f:YA.Yt Tryz.prog cf 96 [[],[9,10,11,12],[0],[],[16,17,18],[19],[5,20],[],[24,25,26],[8,27,28,29,30,31,32,33,34],[35],[6,21,22,23,36,37,38,39,40,41],[42],[3,13,14,15,43]]) ?s ?h;case h=>exact YA.rr
 exact fun s _=>s
def s97:SFn:=by
 refine(?f:YA.Yt Tryz.prog cf 97 [[0,2,3],[6],[],[10,11,12],[5,13,14],[1,7,8,9,15],[2,3,15,16],[1,7,8,9,17,18,19,20]]) ?s ?h;case h=>exact YA.rr
 exact fun s _=>s
def s99:SFn:=by
 refine(?f:YA.Yt Tryz.prog cf 99 [[0,4],[2,7],[],[11,12,13,14],[6,5,15,16,17,18,19,20,21],[1,8,9,10,22],[4,22,23],[1,8,9,10]]) ?s ?h;case h=>exact YA.rr
 exact fun s _=>s
def s100:SFn:=by
 refine(?f:YA.Yt Tryz.prog cf 100 [[0,6,7],[13,14],[15],[],[19,20,21,22],[10,23,24,25,26],[27,29,30,31,32,33,34,35,36,37,38,39,40,28,41,42],[12,43],[1,2,3,8,16,17,18,9,11,44],[6,7,9,11,44,45,46,47,48],[49],[1,2,3,8,16,17,18,50]]) ?s ?h;case h=>exact YA.rr
 exact fun s _=>s
def s187:SFn:=by
 refine(?f:YA.Yt Tryz.prog cf 187 [[2],[],[0],[],[9,10,11],[5,12,13,14,15],[16],[3,6,7,8,17]]) ?s ?h;case h=>exact YA.rr
 exact fun s _=>s
def s189:SFn:=by
 refine(?f:YA.Yt Tryz.prog cf 189 [[4],[0,1,8,9,10,7,11,12,5],[6,13]]) ?s ?h;case h=>exact YA.rr
 exact fun s _=>s
theorem ok17:okFn Tryz.prog 17 s17=true:=by kernel_rfl
theorem ok28:okFn Tryz.prog 28 s28=true:=by kernel_rfl
theorem ok69:okFn Tryz.prog 69 s69=true:=by kernel_rfl
theorem ok95:okFn Tryz.prog 95 s95=true:=by kernel_rfl
theorem ok96:okFn Tryz.prog 96 s96=true:=by kernel_rfl
theorem ok97:okFn Tryz.prog 97 s97=true:=by kernel_rfl
theorem ok99:okFn Tryz.prog 99 s99=true:=by kernel_rfl
theorem ok100:okFn Tryz.prog 100 s100=true:=by kernel_rfl
theorem ok187:okFn Tryz.prog 187 s187=true:=by kernel_rfl
theorem ok189:okFn Tryz.prog 189 s189=true:=by kernel_rfl
end
end Go.AM.TP
namespace Go.AM
section
variable{m:Nat}{π:Nat->Option Src}{h:Heap}
theorem Rn.frzM{b g:Nat}{es:List (AV×AV)}{ks vs:List AV}(j:h.get b=some (.map g es))(hm:m<=b)(l:∀i q,m<=i->π i≠some (.blk b q))(hk:RnL m π h ks (es.map (·.1)))(o:RnL m π h vs (es.map (·.2))):Rn m π h (.fmap ks vs) (.map b g):=fun _ c w v H M d=>by simp only[VRel]at d;obtain⟨p,hp,rfl⟩:=d;obtain⟨ms,clock,hO,r,f,n⟩:=H.atMap j hp;have a:=M.out H ⟨_,j,rfl,fun k=>by simp⟩ hp hm l;obtain⟨g1,g2,g3⟩:=QiD f;have s:=QbF f;simp only[VRel];exact⟨p,ms,clock,rfl,.inr ⟨hO,a⟩,r,by simp_all,g1,hk.rels H M g2,o.rels H M g3⟩
end
end Go.AM
set_option linter.unusedSectionVars false
namespace Go.AM
variable{P:Program}{α:Type}[DecidableEq α]
def mapG(c:α->AV)(f:α->AV)(l:List α):List (AV×AV):=l.map fun x=>(c x,f x)
def updG(f:α->AV)(x:α)(v:AV):α->AV:=fun y=>if y=x then v else f y
def KeyG(row:Bool)(ks:List LK)(c:α->AV)(x:α)(l:List α):Prop:=keyOK row ks (c x)=true/\∀y∈l,keyEq row ks (c x) (c y)=some (decide (x=y))
theorem Qgk{row:Bool}{ks:List LK}{c f:α->AV}{x:α}:∀(l:List α)(i:Nat),KeyG row ks c x l->x∈l->aFind row ks (c x) (mapG c f l) i=some (some (i+l.findIdx (·==x),f x))
 |y::l,i,hk,g=>by
  show(match keyEq row ks (c x) (c y)with|some true=>_|some false=>_|none=>_)=_;rw[hk.2 y (by simp),List.findIdx_cons];by_cases e:x=y;·subst e;simp
  have a:(y==x)=false:=by grind
  rw[decide_eq_false e,a];show aFind row ks (c x) (mapG c f l) (i+1)=_;rw[Qgk l (i+1) ⟨hk.1,fun y d=>hk.2 y (by simp[d])⟩ ((ZaA.1 g).resolve_left e)];grind
theorem QdN{row:Bool}{ks:List LK}{c f:α->AV}{x:α}:∀(l:List α)(i:Nat),KeyG row ks c x l->x∉l->aFind row ks (c x) (mapG c f l) i=some none|[],_,_,_=>rfl|y::l,i,hk,a=>by simp only[ZaA,not_or]at a;show(match keyEq row ks (c x) (c y)with|some true=>_|some false=>_|none=>_)=_;rw[hk.2 y (by simp),decide_eq_false a.1];exact QdN l (i+1) ⟨hk.1,fun y d=>hk.2 y (by simp[d])⟩ a.2
theorem Qri{c f:α->AV}{x:α}{v:AV}{l:List α}(a:x∉l):mapG c f l++[(c x,v)]=mapG c (updG f x v) (l++[x]):=by grind[mapG,updG,Za0]
theorem Qix{c f g:α->AV}{l:List α}(h:∀x∈l,f x=g x):mapG c f l=mapG c g l:=Za0 fun x a=>by rw[h x a]
abbrev fmapG(c f:α->AV)(l:List α):AV:=.fmap (l.map c) (l.map f)
theorem Qma{c f:α->AV}(l:List α):(l.map c).zip (l.map f)=mapG c f l:=by induction l with|nil=>rfl|cons x l a=>simp only[ZaR,List.zip_cons_cons,a];rfl
section
variable{N:NM}{d:Option Nat}{r:List SOper}{dead:List Nat}{fs:List Fr}{n:Nat}{T:Tmps}{h:Heap}{Q:QC}{row:Bool}{ks:List LK}{c f:α->AV}{x:α}{l:List α}{b g:Nat}{z v:AV}{ok:Bool}
theorem Qhd(i:h.get b=some (.map g (mapG c f l)))(a:KeyG row ks c x l)(j:x∈l)(hk:wR P N r dead fs (n+1) (putD T d (if ok then .tup [f x,.bool true]else f x)) h Q):wM P N (aLookup row ks z ok (.map b g) (c x)) d r dead fs n T h Q:=by
 refine⟨_,h,?_,hk⟩;have k:Nat.beq g g=true:=by simp
 unfold aLookup;rw[if_pos a.1];simp_all[HM.entries,HM.run,Qgk]
theorem Qgl(i:h.get b=some (.map g (mapG c f l)))(a:KeyG row ks c x l)(j:x∉l)(hk:wR P N r dead fs (n+1) (putD T d (if ok then .tup [z,.bool false]else z)) h Q):wM P N (aLookup row ks z ok (.map b g) (c x)) d r dead fs n T h Q:=by
 refine⟨_,h,?_,hk⟩;have k:Nat.beq g g=true:=by simp
 unfold aLookup;rw[if_pos a.1];simp_all[HM.entries,HM.run,QdN]
theorem Qgm(a:KeyG row ks c x l)(g:x∈l)(hk:wR P N r dead fs (n+1) (putD T d (if ok then .tup [f x,.bool true]else f x)) h Q):wM P N (aLookup row ks z ok (fmapG c f l) (c x)) d r dead fs n T h Q:=by refine⟨_,h,?_,hk⟩;unfold aLookup;rw[if_pos a.1];simp only[fmapG];rw[Qma,Qgk l 0 a g];rfl
theorem QkE(a:KeyG row ks c x l)(g:x∉l)(hk:wR P N r dead fs (n+1) (putD T d (if ok then .tup [z,.bool false]else z)) h Q):wM P N (aLookup row ks z ok (fmapG c f l) (c x)) d r dead fs n T h Q:=by refine⟨_,h,?_,hk⟩;unfold aLookup;rw[if_pos a.1];simp only[fmapG];rw[Qma,QdN l 0 a g];rfl
theorem Qcp(k:h.get b=some (.map g (mapG c f l)))(i:KeyG row ks c x l)(j:x∉l)(m:b<1099511627775)(hk:wR P N r dead fs (n+1) (putD T d .any) (h.set b (.map g (mapG c (updG f x v) (l++[x])))) Q):wM P N (aMapUpd row ks (.map b g) (c x) v) d r dead fs n T h Q:=by
 refine⟨_,_,?_,hk⟩;have o:Nat.beq g g=true:=by simp
 have a:Nat.blt b lim=true:=by simp[Nat.blt];exact m
 unfold aMapUpd;rw[if_pos i.1];simp only[HM.entries,HM.run,k,o,cond_true,QdN l 0 i j,a,Qri j]
end
theorem RnM.mapG{m:Nat}{π:Nat->Option Src}{h:Heap}{c f:α->AV}:∀{l:List α},(∀x∈l,noRef (c x)=true/\noRef (f x)=true)->RnM m π h (mapG c f l) (mapG c f l)|[],_=>trivial|x::l,hf=>⟨⟨Zcd (hf x (by simp)).1,Zcd (hf x (by simp)).2⟩,RnM.mapG (l:=l) fun y a=>hf y (by simp[a])⟩
abbrev kP(x:Nat×Nat):AV:=.agg [.int .i64 (x.1:Int),.int .i64 (x.2:Int)]
theorem Qmb{x:Nat×Nat}{l:List (Nat×Nat)}:KeyG true [.i,.i] kP x l:=by
 have key:∀y:Nat×Nat,keyEq true [.i,.i] (kP x) (kP y)=some (decide (x=y)):=by intro y;obtain⟨a,b⟩:=x;obtain⟨c,d⟩:=y;simp only[keyEq,eqCells,eqCell,Zaj];by_cases f:a=c<;>by_cases g:b=d<;>simp[f,g]<;>omega
 refine⟨?_,fun y _=>key y⟩;simp_all[keyOK]
end Go.AM
namespace Go.AM
theorem Rn.fzM{α:Type}{m:Nat}{h:Heap}{k:List (Nat×Src)}{b g:Nat}{c f:α->AV}{l:List α}(a:h.get b=some (.map g (mapG c f l)))(n:srcNew (.blk b g) k=true)(hm:Nat.ble m b=true)(hk:∀x∈l,noRef (c x)=true/\noRef (f x)=true):Rn m (ow m k) h (fmapG c f l) (.map b g):=by
 refine Rn.frzM a (by simpa using hm) (fun o p i e=>?_) ?_ ?_;·rw[ow_ge i]at e;exact QiO n o _ e rfl
 ·have e:(mapG c f l).map (·.1)=l.map c:=by simp[mapG]
  rw[e];clear a e;induction l with|nil=>trivial|cons x l j=>exact⟨Zcd (hk x (by simp)).1,j fun y d=>hk y (by simp[d])⟩
 have e:(mapG c f l).map (·.2)=l.map f:=by simp[mapG]
 rw[e];clear a e;induction l with|nil=>trivial|cons x l j=>exact⟨Zcd (hk x (by simp)).2,j fun y d=>hk y (by simp[d])⟩
end Go.AM
theorem _root_.Go.AM.ZcC:type_of%@Go.AM.RnM.mapG:=@Go.AM.RnM.mapG
