/- A part of the proof of GuardsLoopCardSaid: lemmas on the way (AnVj, AnUi, AnUj, AnUd, AnUp, AnVo, AnVn, AnVp, AnVq, AnVr, AnVs, AnVt, AnVu, AnVv, AnHg, AnHj, AnVw, AnVx, AnGj). Conditions: none of ours. -/
import Derived.Test.YtikknocmfjfohaaGreatDoorProg
import Derived.KernelRfl
import Derived.Test.YtikknocmfjfohaaGreatDoorAmL16
theorem Go.AM.by1F4{p:Prop}(h:p:=by
 clear h1;refine Qas 400 (fun i:Nat=>[(2,gdsV own),(3,.ptr 50 0 0),(4,.ptr 51 0 0),(7,vrsV v),(8,.sl 71 0 0 (X).length 2),(9,.int .i64 e),(10,.ptr 72 0 0),(12,.int .i64 i)]) (fun i=>[(50,.cells 0 (u8s D)),(51,.cells 0 [evsV c.ev,its 99 c.cs,its 114 c.rs,exs c.xs,cos c.ks]),(71,.cells 0 ((X).flatMap gdC)),(72,.cells 0 [.int .i64 (e:Int),.sl 73 0 0 i 2]),(73,.cells 0 (((List.range i).map fun i=>dBx v D e i v.length).flatMap bxC))]) (fun i=>i<=K-1) (fun i=>K-i) 0 2 500 (fun _:Unit=>[(2,gdsV own),(3,.ptr 50 0 0),(4,.ptr 51 0 0),(7,vrsV v),(8,.sl 71 0 0 (X).length 2),(9,.int .i64 e),(10,.ptr 72 0 0)]) (fun _=>[(50,.cells 0 (u8s D)),(51,.cells 0 [evsV c.ev,its 99 c.cs,its 114 c.rs,exs c.xs,cos c.ks]),(71,.cells 0 ((X).flatMap gdC)),(72,.cells 0 [.int .i64 (e:Int),bxsV ((List.range (K-1)).map fun i=>dBx v D e i v.length)])]) (fun _=>True) ?_ (Zah _) ?_ ?_;·refine⟨[(50,.blk 50 0),(51,.blk 51 0),(71,.blk 71 0),(72,.blk 226 0),(73,.nil)],rfl,au0,?_,au41⟩;exact Zcw rfl rfl gg (Zcn a) (Zcw rfl rfl gg (Zcn d) (Zcw rfl rfl gg (Zcn (Qay _)) (Zcw rfl rfl gg (ZcC (Zcm rfl) (ZcC (Rn.x4 rfl rfl) ZcB)) (Zcx rfl rfl Zcv))))
 ·rintro i hi;by_cases T:(i:Int)<(K:Int)-1
  ·refine ZcQ (Zc2 m l T) ?_;refine Qas 600 (fun k:Nat=>[(2,gdsV own),(3,.ptr 50 0 0),(4,.ptr 51 0 0),(7,vrsV v),(8,.sl 71 0 0 (X).length 2),(9,.int .i64 e),(10,.ptr 72 0 0),(12,.int .i64 i),(13,.ptr 74 0 0),(14,.int .i64 k)]) (fun k=>[(50,.cells 0 (u8s D)),(51,.cells 0 [evsV c.ev,its 99 c.cs,its 114 c.rs,exs c.xs,cos c.ks]),(71,.cells 0 ((X).flatMap gdC)),(72,.cells 0 [.int .i64 (e:Int),.sl 73 0 0 i 2]),(73,.cells 0 (((List.range i).map fun i=>dBx v D e i v.length).flatMap bxC)),(74,.cells 0 [.sl 75 0 0 k 1,.sl 76 0 0 k 1]),(75,.cells 0 (ints (dBx v D e i k).lo)),(76,.cells 0 (ints (dBx v D e i k).hi))]) (fun k=>k<=v.length) (fun k=>v.length-k) 0 4 700 (fun _:Unit=>[(2,gdsV own),(3,.ptr 50 0 0),(4,.ptr 51 0 0),(7,vrsV v),(8,.sl 71 0 0 (X).length 2),(9,.int .i64 e),(10,.ptr 72 0 0),(12,.int .i64 i),(13,.ptr 74 0 0)]) (fun _=>[(50,.cells 0 (u8s D)),(51,.cells 0 [evsV c.ev,its 99 c.cs,its 114 c.rs,exs c.xs,cos c.ks]),(71,.cells 0 ((X).flatMap gdC)),(72,.cells 0 [.int .i64 (e:Int),.sl 73 0 0 i 2]),(73,.cells 0 (((List.range i).map fun i=>dBx v D e i v.length).flatMap bxC)),(74,.cells 0 [sli (dBx v D e i v.length).lo,sli (dBx v D e i v.length).hi])]) (fun _=>True) ?_ (Zah _) ?_ ?_;·refine⟨[(50,.blk 50 0),(51,.blk 51 0),(71,.blk 71 0),(72,.blk 72 0),(73,.blk 73 0),(74,.blk 409 0),(75,.nil),(76,.nil)],rfl,au0,?_,au41⟩;exact Zcw rfl rfl gg (Zcn a) (Zcw rfl rfl gg (Zcn d) (Zcw rfl rfl gg (Zcn (Qay _)) (Zcw rfl rfl gg (ZcC (Zcm rfl) (ZcC (Rn.x1 rfl rfl) ZcB)) (Zcw rfl rfl gg (Zcn (Qau _)) (Zcw rfl rfl gg (ZcC (Rn.x4 rfl rfl) (ZcC (Rn.x4 rfl rfl) ZcB)) (Zcx rfl rfl (Zcx rfl rfl Zcv)))))))
   ·rintro k hk;by_cases p:k<v.length
    ·obtain⟨x,q⟩:=Qam p;have s:=Qde q;have y:4<=((v.flatMap vrC).drop (k*4)).length:=by rw[s];simp
     have Z:=@Qg6 D (e*25+1+i*12+k*2) (by omega);have a2:=@Qg6 D (e*25+1+i*12+k*2+1) (by omega);have N:=@Qnx v D e i k;have A:(k:Int)<6:=by omega
     have w:(i:Int)<2:=by omega
     have x2:=P x (Zac q);have d1:=@Qjs D C (e*25+1+i*12+k*2);have d2:=@Qjs D C (e*25+1+i*12+k*2+1);have l1:=@Qjr v D e i k x q x2.1;have l2:=@Qny v D e i k x q x2.1;have t1:(dAt D (e*25+1+i*12+k*2)).tmod (x.2+1)=dLo v D e i k:=by rw[ZaZ d1.1];unfold dLo;rw[Qaz q]
     have t2:(dAt D (e*25+1+i*12+k*2+1)).tmod (x.2+1-dLo v D e i k)=dHi v D e i k-dLo v D e i k:=by rw[ZaZ d2.1];unfold dHi;rw[Qaz q];omega
     have Y:¬x.2+1=0:=by omega
     have Q:¬x.2+1-dLo v D e i k=0:=by omega
     have U:dLo v D e i k+(dHi v D e i k-dLo v D e i k)=dHi v D e i k:=by omega
     have g:(ints (dBx v D e i k).lo).length=k:=by simp[ints,dBx]
     have n:(ints (dBx v D e i k).hi).length=k:=by simp[ints,dBx]
     generalize dAt D (e*25+1+i*12+k*2)=A1 at*;generalize dAt D (e*25+1+i*12+k*2+1)=A2 at*;generalize dBx v D e i k=F at*;generalize dLo v D e i k=lo at*;generalize dHi v D e i k=hi' at*;refine ZcQ (Zde p A s y f w Z a2 t1 t2 Y Q g n U) ?_;refine Qb8 [(105,[75]),(110,[76])] rfl rfl ?_;refine ZcQ (Zde p A s y f w Z a2 t1 t2 Y Q g n U) ?_;refine⟨⟨⟨[75],rfl,fun b I=>I⟩,⟨[76],rfl,fun b I=>I⟩,trivial⟩,?_⟩;refine⟨k+1,by omega,by omega,?_⟩;rw[N,QaB,QaB];refine⟨[(50,.blk 50 0),(51,.blk 51 0),(71,.blk 71 0),(72,.blk 72 0),(73,.blk 73 0),(74,.blk 74 0),(75,.blk 75 1),(76,.blk 76 1)],rfl,au0,?_,au41⟩;exact Zcw rfl rfl gg (Zcn a) (Zcw rfl rfl gg (Zcn d) (Zcw rfl rfl gg (Zcn (Qay _)) (Zcw rfl rfl gg (ZcC (Zcm rfl) (ZcC (Rn.x1 rfl rfl) ZcB)) (Zcw rfl rfl gg (Zcn (Qau _)) (Zcw rfl rfl gg (ZcC (Rn.x1 rfl rfl) (ZcC (Rn.x1 rfl rfl) ZcB)) (Zcw rfl rfl gg (Zcn (SU.Qat (Qaa _) rfl)) (Zcw rfl rfl gg (Zcn (SU.Qat (Qaa _) rfl)) Zcv)))))))
    have ek:k=v.length:=by omega
    subst ek;refine ZcQ p ?_;have g:(ints (dBx v D e i v.length).lo).length=v.length:=by simp[ints,dBx]
    have n:(ints (dBx v D e i v.length).hi).length=v.length:=by simp[ints,dBx]
    have J:(dBx v D e i v.length).lo.length=v.length:=by simp[dBx]
    have L:(dBx v D e i v.length).hi.length=v.length:=by simp[dBx]
    generalize dBx v D e i v.length=F at*;refine⟨(),?_⟩;exact⟨[(50,.blk 50 0),(51,.blk 51 0),(71,.blk 71 0),(72,.blk 72 0),(73,.blk 73 0),(74,.blk 74 0)],rfl,Zcs,Zcw rfl rfl gg (Zcn a) (Zcw rfl rfl gg (Zcn d) (Zcw rfl rfl gg (Zcn (Qay _)) (Zcw rfl rfl gg (ZcC (Zcm rfl) (ZcC (Rn.x1 rfl rfl) ZcB)) (Zcw rfl rfl gg (Zcn (Qau _)) (Zcw rfl rfl gg (ZcC (ZcD (b:=75) (g:=0) gg rfl rfl J (by rw[g,ZbE]) (Zcn (Qaa _))) (ZcC (ZcD (b:=76) (g:=0) gg rfl rfl L (by rw[n,ZbE]) (Zcn (Qaa _))) ZcB)) Zcv))))),Zcu (Zcm (Qa0 _)) (Zcu (Rn.x2 rfl rfl) (Zcu (Rn.x2 rfl rfl) (Zcu (Zcm (Qbp _)) (Zcu (Rn.x1 rfl rfl) (Zcu (Zcm rfl) (Zcu (Rn.x2 rfl rfl) (Zcu (Zcm rfl) (Zcu (Rn.x2 rfl rfl) Zct))))))))⟩
   rintro _ _;have z:=QcY ((List.range i).map fun i=>dBx v D e i v.length);have o:((List.range i).map fun i=>dBx v D e i v.length).length=i:=by simp
   rw[o]at z;have H:((List.range (i+1)).map fun i=>dBx v D e i v.length)=((List.range i).map fun i=>dBx v D e i v.length)++[dBx v D e i v.length]:=by rw[ZaL,ZaI];rfl
   generalize((List.range i).map fun i=>dBx v D e i v.length)=Bs at*;generalize dBx v D e i v.length=F at*;refine ZcQ z ?_;refine⟨i+1,by omega,by omega,?_⟩;rw[H,Zan];refine⟨[(50,.blk 50 0),(51,.blk 51 0),(71,.blk 71 0),(72,.blk 72 0),(73,.blk 73 1)],rfl,au0,?_,au41⟩;exact Zcw rfl rfl gg (Zcn a) (Zcw rfl rfl gg (Zcn d) (Zcw rfl rfl gg (Zcn (Qay _)) (Zcw rfl rfl gg (ZcC (Zcm rfl) (ZcC (Rn.x1 rfl rfl) ZcB)) (Zcw rfl rfl gg (Zcn (SU.Qat (Qau _) (Qau [F]))) Zcv))))
  have ei:i=K-1:=by omega
  subst ei;refine ZcQ (Zc2 m l T) ?_;have o:((List.range (K-1)).map fun i=>dBx v D e i v.length).length=K-1:=by simp
  generalize((List.range (K-1)).map fun i=>dBx v D e i v.length)=Bs at*;refine⟨(),?_⟩;exact⟨[(50,.blk 50 0),(51,.blk 51 0),(71,.blk 71 0),(72,.blk 72 0)],rfl,Zcs,Zcw rfl rfl gg (Zcn a) (Zcw rfl rfl gg (Zcn d) (Zcw rfl rfl gg (Zcn (Qay _)) (Zcw rfl rfl gg (ZcC (Zcm rfl) (ZcC (ZcD (b:=73) (g:=0) gg rfl rfl o (by rw[QcY,o]) (Zcn (Qau _))) ZcB)) Zcv))),Zcu (Zcm (Qa0 _)) (Zcu (Rn.x2 rfl rfl) (Zcu (Rn.x2 rfl rfl) (Zcu (Zcm (Qbp _)) (Zcu (Rn.x1 rfl rfl) (Zcu (Zcm rfl) (Zcu (Rn.x2 rfl rfl) Zct))))))⟩
 rintro _ _;refine ZcQ E ?_;refine⟨e+1,by omega,by omega,?_⟩;have R:(X++[G]).length=X.length+1:=by simp
 rw[B,if_pos ⟨hc,by omega⟩,R,Zan,O];refine⟨[(50,.blk 50 0),(51,.blk 51 0),(71,.blk 71 1)],rfl,au0,?_,au41⟩;exact Zcw rfl rfl gg (Zcn a) (Zcw rfl rfl gg (Zcn d) (Zcw rfl rfl gg (Zcn (SU.Qat (Qay _) (Qay [_]))) Zcv))):p:=h
theorem Go.AM.bLfNp{p:Prop}(h:p:=by
 refine cp k ?_;by_cases n:gF (ctC c) v l i=0;·refine Zc0 n ?_;exact⟨i+1,by omega,⟨by omega,fe_up q n⟩,⟨[(50,.blk 50 0)],rfl,au0,au42,au41⟩⟩
 refine Zc0 n ?_;exact⟨.inr trivial,_,rfl,by rw[Qfy a rfl n q,ckV,QrY n];rfl⟩):p:=h
theorem Go.AM.bQ0MM{p:Prop}(h:p:=by
 refine ZcQ (Zc2 a b c) ?_;refine cpcP hw ?_;refine ZcP ?_;exact⟨i+1,by omega,by omega,⟨[],rfl,au0,au42,au41⟩⟩):p:=h
theorem Go.AM.bVS0T{p:Prop}(h:p:=by
 refine⟨[(50,.blk 50 0),(51,.blk 51 0),(52,.blk 52 0),(53,.blk 53 0),(78,.blk 78 0),(69,.blk 69 0),(74,.blk 74 0),(75,.blk 75 0),(76,.blk 76 0),(77,.blk 77 0)],rfl,au0,?_,au41⟩;refine Zcw rfl rfl gg (Zcn o) (Zcw rfl rfl gg (Zcn f) (Zcw rfl rfl gg (Zcn u) (Zcw rfl rfl gg (Zcn rfl) (Zcw rfl rfl gg (Zcn (Qaq _ _ _)) ?_))));refine Zcw rfl rfl gg (ZcC (Zcm (Qab _)) (ZcC (Zcm rfl) (ZcC (Rn.x1 rfl rfl) (ZcC (Rn.x1 rfl rfl) ZcB)))) (Zcy rfl rfl gg (ZcN fun x _=>Zcm rfl) (Zcw rfl rfl gg (Zcn (Qaa _)) (Zcw rfl rfl gg (Zcn (Qaf _)) (Zcw rfl rfl gg (Zcn (Qaa _)) Zcv))))):p:=h
theorem Go.AM.bCMRu{p:Prop}(h:p:=by
 exact⟨[(53,.blk 53 0),(69,.blk 69 0),(75,.blk 75 0),(76,.blk 76 0),(77,.blk 77 0)],rfl,au0,au42,au41⟩):p:=h
theorem Go.AM.bcCPY{p:Prop}(h:p:=by
 refine⟨[(50,.blk 50 0),(53,.blk 53 0),(69,.blk 69 0),(75,.blk 75 0),(76,.blk 76 0),(77,.blk 77 0)],rfl,au0,?_,au41⟩;exact Zcw rfl rfl gg (Zcn hnw) (Zcw rfl rfl gg (Zcn rfl) (Zcw rfl rfl gg (ZcC (Zcm (Qab _)) (ZcC (Zcm rfl) (ZcC (Rn.x1 rfl rfl) (ZcC (Rn.x1 rfl rfl) ZcB)))) (Zcw rfl rfl gg (Zcn (Qaa _)) (Zcw rfl rfl gg (Zcn (Qaf _)) (Zcw rfl rfl gg (Zcn (Qaa _)) Zcv)))))):p:=h
theorem Go.AM.bxjTk{p:Prop}(h:p:=by
 have o:pm v ev=false:=by rw[R];unfold prmQ;rw[show ctC c ev=true from w,Zbt.2 fun g hg=>by rw[decide_eq_false (hno g hg),Zbk];decide];rfl
 have M:evF q pm v ev=none:=by unfold evF;rw[if_neg (by rw[o];decide)]
 have C:byE q p.es P (ctC c) pm v ev=false:=by unfold byE;rw[o];rfl
 rw[M]at d;rw[C,Zb6]at m;have d:((q.al.take (k+1)).filterMap (evF q pm v)).foldl (sEd i) s=t:=d;refine ZcP ?_;refine⟨k+1,by omega,by omega,?_⟩;rw[d,m];refine⟨[(50,.blk 50 0),(53,.blk 53 0),(69,.blk 69 0),(75,.blk 75 0),(76,.blk 76 0),(77,.blk 77 0)],rfl,au0,?_,au41⟩;exact Zcw rfl rfl gg (Zcn hnw) (Zcw rfl rfl gg (Zcn rfl) (Zcw rfl rfl gg (ZcC (Zcm (Qab _)) (ZcC (Zcm rfl) (ZcC (Rn.x1 rfl rfl) (ZcC (Rn.x1 rfl rfl) ZcB)))) (Zcw rfl rfl gg (Zcn (Qaa _)) (Zcw rfl rfl gg (Zcn (Qaf _)) (Zcw rfl rfl gg (Zcn (Qaa _)) Zcv)))))):p:=h
theorem Go.AM.bKmiI{p:Prop}(h:p:=by
 refine⟨(),?_⟩;refine⟨[(50,.blk 50 0),(53,.blk 53 0),(69,.blk 69 0),(75,.blk 75 0),(76,.blk 76 0),(77,.blk 77 0)],rfl,au0,?_,au41⟩;exact Zcw rfl rfl gg (Zcn hnw) (Zcw rfl rfl gg (Zcn rfl) (Zcw rfl rfl gg (ZcC (Zcm (Qab _)) (ZcC (Zcm rfl) (ZcC (Rn.x1 rfl rfl) (ZcC (Rn.x1 rfl rfl) ZcB)))) (Zcw rfl rfl gg (Zcn (Qaa _)) (Zcw rfl rfl gg (Zcn (Qaf _)) (Zcw rfl rfl gg (Zcn (Qaa _)) Zcv)))))):p:=h
theorem Go.AM.bRWIW{p:Prop}(h:p:=by
 have a:bdC c x g=false:=a;refine ZcP ?_;refine⟨k+1,by omega,⟨by omega,fun j z B f=>?_⟩,?_⟩
 ·by_cases E:j=k;·subst E;rw[d]at f;cases f;exact a
  exact q j z (by omega) f
 exact⟨[(51,.blk 51 0)],rfl,Zcs,Zcw rfl rfl gg (Zcn QbW) Zcv,Zcu (Zcm (Qa0 _)) (Zcu (Rn.x2 rfl rfl) (Zcu (Zcm n) (Zcu (Zcm m) (Zcu (Zcm (Qab _)) (Zcu (Zcm rfl) (Zcu (Zcm rfl) (Zcu (Zcm rfl) (Zcu (Zcm (Qa0 _)) (Zcu (Zcm rfl) (Zcu (Zcm rfl) Zct))))))))))⟩):p:=h
set_option linter.unusedSectionVars false
set_option maxHeartbeats 32000000
set_option maxRecDepth 100000
set_option linter.unusedVariables false
set_option linter.unusedSimpArgs false
namespace Go.AM.SO
open Go.Proofs Go.AM.SD Go.AM.SE
variable{v:List (List UInt8×Int)}{l:List Gdn}{a b:List Nat}{α:Type}{x:α}
section
variable(v:List (List UInt8×Int))(D:List Nat)
def dAt(k:Nat):Int:=((D.getD k 0:Nat):Int)
def dLo(e i k:Nat):Int:=dAt D (e*25+1+i*12+k*2)%((v.getD k vr0).2+1)
def dHi(e i k:Nat):Int:=dLo v D e i k+dAt D (e*25+1+i*12+k*2+1)%((v.getD k vr0).2+1-dLo v D e i k)
def dBx(e i n:Nat):Bxn:=⟨(List.range n).map (dLo v D e i),(List.range n).map (dHi v D e i)⟩
def dKd(e:Nat):Nat:=D.getD (e*25) 0%4
variable(ct:Nat->Bool)(own:List Gdn)(fd:Nat->Int)
def drG(e:Nat):Gdn:=if dKd D e=1/\0<=fd e then own.getD (fd e).toNat gd0 else⟨(e:Int),(List.range (dKd D e-1)).map fun i=>dBx v D e i v.length⟩
def drQ:Nat->List Gdn|0=>[]|e+1=>if ct e=true/\dKd D e≠0 then drQ e++[drG v D own fd e]else drQ e
end
theorem Qpe{v}{D}{ct}{own}{fd}:∀e,(drQ v D ct own fd e).length<=e
 |0=>ZaC _|e+1=>by
  have:=@Qpe v D ct own fd e;rw[drQ];split;·rw[Zaf];simp;omega
  omega
theorem Qnx{v}{D}{e i k}:dBx v D e i (k+1)=⟨(dBx v D e i k).lo++[dLo v D e i k],(dBx v D e i k).hi++[dHi v D e i k]⟩:=by unfold dBx;rw[ZaL,ZaI,ZaI];rfl
theorem Qg6{D}{k}(h:k<D.length):(u8s D)[k]?=some (.int .u8 (dAt D k)):=by rw[SU.Qm0 h];rfl
theorem Qjr{v}{D}{e i k}{x}(a:v[k]?=some x)(b:0<=x.2):0<=dLo v D e i k/\dLo v D e i k<=x.2:=by unfold dLo;rw[Qaz a];have h1:=Int.emod_nonneg (dAt D (e*25+1+i*12+k*2)) (show x.2+1≠0 by omega);have c:=Int.emod_lt_of_pos (dAt D (e*25+1+i*12+k*2)) (show 0<x.2+1 by omega);omega
theorem Qny{v}{D}{e i k}{x}(a:v[k]?=some x)(b:0<=x.2):dLo v D e i k<=dHi v D e i k/\dHi v D e i k<=x.2:=by have h:=@Qjr v D e i k x a b;unfold dHi;rw[Qaz a];have h1:=Int.emod_nonneg (dAt D (e*25+1+i*12+k*2+1)) (show x.2+1-dLo v D e i k≠0 by omega);have c:=Int.emod_lt_of_pos (dAt D (e*25+1+i*12+k*2+1)) (show 0<x.2+1-dLo v D e i k by omega);omega
theorem Qjs{D}(h:∀x∈D,x<256)(k):0<=dAt D k/\dAt D k<256:=by
 unfold dAt;by_cases hk:k<D.length;·obtain⟨x,a⟩:=Qam hk;have:=h x (Zac a);rw[Qaz a];omega
 rw[Zaj,Zax (by omega)];exact⟨Int.le_refl _,by decide⟩
theorem list18(D)(hD:D.length=125)(C:∀x∈D,x<256)(c)(own)(hol:own.length<=1000)(fd:Nat->Int)(hfd:∀e:Nat,e<5->Ps 61 [gdsV own,.int .i64 (e:Int)] (.int .i64 (fd e)))(hfl:∀e,e<5->fd e<own.length)(v:List (List UInt8×Int))(h5:v.length<=5)(P:∀x∈v,0<=x.2/\x.2<=2)(hv:Ps 12 [celV c] (vrsV v)):Ps 18 [.agg (u8s D),celV c,gdsV own] (gdsV (drQ v D (ctC c) own fd 5)):=by
 have d:=Qbi c;have a:noRefs (u8s D)=true:=QaP D;have hDL:(u8s D).length=125:=by rw[SU.QcD];exact hD
 refine Zco 64 (Ok VK.s18) rfl (by rw[noRefs,noRef,a,noRefs,SU.QaX,noRefs,Qa0];rfl) (Qa0 _) ?_;unfold VK.s18;refine ZcP ?_;refine cp hv ?_;refine ZcP ?_;refine Qas 200 (fun e:Nat=>[(2,gdsV own),(3,.ptr 50 0 0),(4,.ptr 51 0 0),(7,vrsV v),(8,.sl 71 0 0 (drQ v D (ctC c) own fd e).length 2),(9,.int .i64 e)]) (fun e=>[(50,.cells 0 (u8s D)),(51,.cells 0 [evsV c.ev,its 99 c.cs,its 114 c.rs,exs c.xs,cos c.ks]),(71,.cells 0 ((drQ v D (ctC c) own fd e).flatMap gdC))]) (fun e=>e<=5) (fun e=>5-e) 0 0 300 (fun _:Unit=>[(8,gdsV (drQ v D (ctC c) own fd 5))]) (fun _=>[]) (fun _=>True) ?_ (Zah _) ?_ ?_;·refine⟨[(50,.blk 64 0),(51,.blk 65 0),(71,.nil)],rfl,au0,?_,au41⟩;exact Zcw rfl rfl gg (Zcn a) (Zcw rfl rfl gg (Zcn d) (Zcx rfl rfl Zcv))
 ·rintro e he;have B:drQ v D (ctC c) own fd (e+1)=if ctC c e=true/\dKd D e≠0 then drQ v D (ctC c) own fd e++[drG v D own fd e]else drQ v D (ctC c) own fd e:=rfl;have hXn:=@Qpe v D (ctC c) own fd e;by_cases u:e<5
  ·have t:=QeX c.ev u;have M:5<=((evsC c.ev).drop (e*5)).length:=by rw[t];simp
   have f:(e:Int)<5:=by omega
   have m:=@Qg6 D (e*25) (by omega);have l:(dAt D (e*25)).tmod 4=(dKd D e:Nat):=by unfold dAt dKd;rw[ZaZ (by omega)];omega
   have hk4:dKd D e<4:=by unfold dKd;omega
   have O:drG v D own fd e=if dKd D e=1/\0<=fd e then own.getD (fd e).toNat gd0 else⟨(e:Int),(List.range (dKd D e-1)).map fun i=>dBx v D e i v.length⟩:=rfl;generalize drG v D own fd e=G at*;generalize dKd D e=K at*;have hfe:=hfd e u;generalize drQ v D (ctC c) own fd e=X at*;have E:(X.flatMap gdC).length=X.length*2:=Qi0 X;cases hc:(c.ev e).c with|false=>rw[hc]at t;refine ZcQ (Zc3 u f t M) ?_;refine⟨e+1,by omega,by omega,?_⟩;rw[B,if_neg (by rintro⟨h,_⟩;have h:(c.ev e).c=true:=h;rw[hc]at h;cases h)];refine⟨[(50,.blk 50 0),(51,.blk 51 0),(71,.blk 71 0)],rfl,au0,?_,au41⟩;exact Zcw rfl rfl gg (Zcn a) (Zcw rfl rfl gg (Zcn d) (Zcw rfl rfl gg (Zcn (Qay _)) Zcv))|true=>
    rw[hc]at t;by_cases hz:(K:Int)=0;·refine ZcQ (Zc6 u f t M m l hz) ?_;refine⟨e+1,by omega,by omega,?_⟩;rw[B,if_neg (by rintro⟨_,h⟩;exact h (by omega))];refine⟨[(50,.blk 50 0),(51,.blk 51 0),(71,.blk 71 0)],rfl,au0,?_,au41⟩;exact Zcw rfl rfl gg (Zcn a) (Zcw rfl rfl gg (Zcn d) (Zcw rfl rfl gg (Zcn (Qay _)) Zcv))
    refine ZcQ (Zc6 u f t M m l hz) ?_;refine cp hfe ?_;by_cases h1:(K:Int)=1
    ·by_cases h2:0<=fd e
     ·have hoe:fd e<(own.length:Int):=hfl e u;have hot:(fd e).toNat<own.length:=by omega
      obtain⟨x,q⟩:=Qam hot;have V:=Qcf q;have S:2<=((own.flatMap gdC).drop ((fd e).toNat*2)).length:=by rw[V];simp
      rw[if_pos ⟨by omega,h2⟩,Qaz q]at O;subst O;refine ZcQ (Zc7 l m h1 h2 hoe V S E) ?_;refine⟨e+1,by omega,by omega,?_⟩;have R:(X++[G]).length=X.length+1:=by simp
      rw[B,if_pos ⟨hc,by omega⟩,R,Zan];refine⟨[(50,.blk 50 0),(51,.blk 51 0),(71,.blk 71 1)],rfl,au0,?_,au41⟩;exact Zcw rfl rfl gg (Zcn a) (Zcw rfl rfl gg (Zcn d) (Zcw rfl rfl gg (Zcn (SU.Qat (Qay _) (Qay [_]))) Zcv))
     refine ZcQ (Zc3 l m h1 h2) ?_;rw[if_neg (by rintro⟨q1,q2⟩;exact h2 q2)]at O;exact by1F4
    refine ZcQ (Zc2 l m h1) ?_;rw[if_neg (by rintro⟨q1,q2⟩;omega)]at O;exact by1F4
  have ee:e=5:=by omega
  subst ee;generalize drQ v D (ctC c) own fd 5=X at*;exact bxht8
 rintro _ _;refine ZcP ?_;exact⟨.inr trivial,_,rfl,Zcm (Qa0 _)⟩
theorem vars99(c)(h:WfCel c):Ps 99 [celV c] (vrsV (vrsL c)):=by
 have u:=h.c0;have v:=h.c3;have t:=h.r2;have l:=Qry h;rw[vrs_N];have q:=Qne c;refine Zco 64 (Ok UK.s99) rfl (by rw[noRefs,SU.QaX];rfl) (Qbp _) ?_;have p:(nmL' 99 c.cs).length=c.cs.length:=by simp[nmL']
 have s:(nmL' 114 c.rs).length=c.rs.length:=by simp[nmL']
 rw[show celV c=.agg [evsV c.ev,itsN (nmL' 99 c.cs),itsN (nmL' 114 c.rs),exs c.xs,cos c.ks]from by rw[celV,Qjg,Qjg]];unfold itsL at*;generalize nmL' 99 c.cs=A at*;generalize nmL' 114 c.rs=B at*;have a:[A,B].flatten=A++B:=by simp
 have n:=concat158 [A,B] (by show 2<=1000;decide) (by rw[a];omega) (by rw[a];omega);rw[a]at n;unfold UK.s99;refine ZcZ ?_;refine ch (HSpec.give1 (g:=0) (ds:=[itsN A,itsN B]) n gg (by rw[noRefs,Qdt,noRefs,Qdt];rfl) rfl rfl) ?_;generalize A++B=L at*;have o:L.length<=5:=by omega
 refine ZcZ ?_;refine Qas 100 (fun i:Nat=>[(3,.sl 60 0 0 i 4),(11,itsN L),(12,.int .i64 L.length),(13,.int .i64 i)]) (fun i=>[(60,.cells 0 (((L.take i).map vrN).flatMap vrC))]) (fun i=>i<=L.length) (fun i=>L.length-i) 0 0 160 (fun _:Unit=>[(3,vrsV (L.map vrN))]) (fun _=>[]) (fun _=>True) ?_ (Zah _) ?_ ?_;·refine⟨[(60,.nil)],rfl,au0,?_,au41⟩;exact Zcx rfl rfl Zcv
 ·rintro i hi;by_cases b:i<L.length
  ·obtain⟨x,k⟩:=Qam b;have d:=Qo2 k;have m:5<=((L.flatMap itN).drop (i*5)).length:=by rw[d];simp
   have f:((L.take i).map vrN).length=i:=by rw[Zav,Zar];omega
   have g:(((L.take i).map vrN).flatMap vrC).length=i*4:=by rw[Qi1,f]
   have w:=l x (Zac k);refine Zc0 (Zc3 b d m g) ?_;refine⟨i+1,by omega,by omega,?_⟩;rw[take_succ' k,ZaI,Zan,Qrz];refine⟨[(60,.blk 60 1)],rfl,au0,?_,au41⟩;exact Zcw rfl rfl gg (Zcn (SU.Qat (QaC _) (QaC [vrN x]))) Zcv
  have e:i=L.length:=by omega
  subst e;refine ZcY b ?_;exact bahUb
 rintro _ _;refine ZcZ ?_;exact⟨.inr trivial,_,rfl,Zcm (Qbp _)⟩
theorem first44(c)(h:WfCel c):Ps 44 [celV c] (.tup [vrsV (vrsL c),.int .i64 0]):=by
 have o:=vars99 c h;have m:=check21 c h;refine Zcp 64 (Ok UK.s44) rfl (by rw[noRefs,SU.QaX];rfl) (by rw[noRef,noRefs,Qbp];rfl) ?_;have a:=Qdh h;have l:=QcN h;generalize vrsL c=v at*;unfold UK.s44;refine ZcZ ?_;refine cp m ?_;refine ZcZ ?_;refine cp o ?_;refine ZcZ ?_;refine QaE 100 (fun i:Nat=>[(5,vrsV v),(6,.int .i64 (szV 1 (v.take i))),(16,vrsV v),(17,.int .i64 v.length),(18,.int .i64 i)]) (fun _=>[]) (fun i=>i<=v.length) (fun i=>v.length-i) 0 ⟨[],rfl,au0,au42,au41⟩ (Zah _) ?_;rintro i hi;by_cases b:i<v.length
 ·obtain⟨x,f⟩:=Qam b;have d:=Qde f;have g:4<=((v.flatMap vrC).drop (i*4)).length:=by rw[d];simp
  have q:=QcO a l i;have b2:=a x (Zac f);have p:=QcO a l (i+1);have k:=Qf2 f;rw[k]at p;generalize szV 1 (v.take i)=S at*;have n:¬(4096:Int)<S*(x.2+1):=by omega
  refine Zc0 (Zc3 b d g n) ?_;refine⟨i+1,by omega,by omega,?_⟩;rw[k];exact⟨[],rfl,au0,au42,au41⟩
 refine Zc0 b ?_;exact⟨.inr trivial,_,rfl,rfl⟩
def ckA(e:Int)(v:List (List UInt8×Int)):AV:=if e=0 then vrsV v else .nilsl
abbrev ckV(e:Int)(v:List (List UInt8×Int)):AV:=.tup [ckA e v,.int .i64 e]
theorem Qnz(e)(v):noRef (ckV e v)=true:=by
 unfold ckV ckA;split;·rw[noRef,noRefs,Qbp];rfl
 rfl
theorem ckA_0:ckA 0 v=vrsV v:=if_pos rfl
theorem QrY{e}(h:e≠0):ckA e v=.nilsl:=if_neg h
theorem checked71(c)(h:WfCel c)(l)(B:GdsR l):Ps 71 [celV c,gdsV l] (ckV (gdsE (ctC c) (vrsL c) l) (vrsL c)):=by
 have Q:=first44 c h;have E:=Qbi c;refine Zcp 64 (Ok UK.s71) rfl (by rw[noRefs,SU.QaX,noRefs,Qa0];rfl) (Qnz _ _) ?_;have R:=QcN h;have O:=Quw c.ev;generalize vrsL c=v at*;unfold UK.s71;refine ZcZ ?_;refine cp Q ?_;refine ZcZ ?_;refine QaE 100 (fun i:Nat=>[(1,gdsV l),(2,.ptr 50 0 0),(6,vrsV v),(19,gdsV l),(20,.int .i64 l.length),(21,.int .i64 i)]) (fun _=>[(50,.cells 0 [evsV c.ev,its 99 c.cs,its 114 c.rs,exs c.xs,cos c.ks])]) (fun i=>i<=l.length/\∀j,j<i->gF (ctC c) v l j=0) (fun i=>l.length-i) 0 ?_ ⟨Zah _,fun j L=>absurd L (Zay _)⟩ ?_;·refine⟨[(50,.blk 64 0)],rfl,au0,?_,au41⟩;exact Zcw rfl rfl gg (Zcn E) Zcv
 rintro i⟨hi,q⟩;have P:=B.len;by_cases a:i<l.length
 ·obtain⟨g,o⟩:=Qam a;have b:=Qcf o;have d:2<=((l.flatMap gdC).drop (i*2)).length:=by rw[b];simp
  have u:=B.bl g (Zac o);by_cases C:g.ev<0;·refine Zc0 (Zc3 a b d C) ?_;exact⟨.inr trivial,_,rfl,by rw[Qfy a (gF_2 o (.inl C)) (by decide) q];rfl⟩
  by_cases a2:5<=g.ev;·refine Zc0 (Zc4 a b d C a2) ?_;exact⟨.inr trivial,_,rfl,by rw[Qfy a (gF_2 o (.inr a2)) (by decide) q];rfl⟩
  have a12:¬(g.ev<0\/5<=g.ev):=by omega
  obtain⟨K,A⟩:∃K:Nat,g.ev=(K:Int):=⟨g.ev.toNat,by omega⟩;have f:K<5:=by omega
  have m:=QeX c.ev f;have p:5<=((evsC c.ev).drop (K*5)).length:=by rw[m];simp
  have w:g.ev.toNat=K:=by omega
  have g1:¬(K:Int)<0:=by omega
  have g2:¬(5:Int)<=(K:Int):=by omega
  by_cases a3:(c.ev K).c=true
  ·have t:ctC c g.ev.toNat=true:=by rw[w];exact a3
   by_cases i0:i=0
   ·have G:gF (ctC c) v l i=bxsE v g.bs:=gF_b o a12 t (.inl i0);have a4:¬(0:Int)<(i:Int):=by omega
    have k:=cbx139 v g.bs (by omega) u (B.ll g (Zac o));rw[<-G]at k;refine Zc0 (Zda a b d A g1 g2 f m p a3 a4) ?_;exact bLfNp
   obtain⟨y,F⟩:=Qam (l:=l) (i:=i-1) (by omega);have a4:(0:Int)<(i:Int):=by omega
   have I:(i:Int)-1=((i-1:Nat):Int):=by omega
   have N:((i-1:Nat):Int)<l.length:=by omega
   have J:i-1<l.length:=by omega
   have s:=Qcf F;have x:2<=((l.flatMap gdC).drop ((i-1)*2)).length:=by rw[s];simp
   by_cases a5:g.ev<=y.ev
   ·have H:(K:Int)<=y.ev:=by omega
    simp(disch:=first|omega|exact PairsOK.mk rfl|(simp only[lenW]<;>omega))only[a,b,d,A,g1,g2,f,m,p,a3,a4,I,N,J,s,x,H,wW,wV,simprocAttr];exact⟨.inr trivial,_,rfl,by rw[Qfy a (gF_5 o F a12 t (by omega) a5) (by decide) q];rfl⟩
   have G:gF (ctC c) v l i=bxsE v g.bs:=gF_b o a12 t (.inr fun z M=>by rw[F]at M;cases M;exact a5);have H:¬(K:Int)<=y.ev:=by omega
   have k:=cbx139 v g.bs (by omega) u (B.ll g (Zac o));rw[<-G]at k;simp(disch:=first|omega|exact PairsOK.mk rfl|(simp only[lenW]<;>omega))only[a,b,d,A,g1,g2,f,m,p,a3,a4,I,N,J,s,x,H,wW,wV,simprocAttr];exact bLfNp
  have a3:(c.ev K).c=false:=by simpa using a3
  refine Zc0 (Zc9 a b d A g1 g2 f m p a3) ?_;exact⟨.inr trivial,_,rfl,by rw[Qfy a (gF_11 o a12 (by rw[w];exact a3)) (by decide) q];rfl⟩
 refine Zc0 a ?_;exact⟨.inr trivial,_,rfl,by rw[show gdsE (ctC c) v l=0 from Qfo (f:=gF (ctC c) v l) fun j L=>q j (by omega),ckV,ckA_0];rfl⟩
theorem check35(c)(h:WfCel c)(l)(d:GdsR l):Ps 35 [celV c,gdsV l] (.int .i64 (gdsE (ctC c) (vrsL c) l)):=by have b:=checked71 c h l d;refine Zcp 64 (Ok UK.s35) rfl (by rw[noRefs,SU.QaX,noRefs,Qa0];rfl) rfl ?_;have a:=Qnz (gdsE (ctC c) (vrsL c) l) (vrsL c);generalize gdsE (ctC c) (vrsL c) l=e at*;generalize ckA e (vrsL c)=A at*;unfold UK.s35;refine ZcZ ?_;refine cp b ?_;refine ZcZ ?_;exact⟨.inr trivial,_,rfl,rfl⟩
theorem QrZ{l:List α}{j}(h:l[j]?=some x):j<l.length:=(Zai.1 h).1
theorem cloneI86(l)(c:l.length<=1000000):HSpec Tryz.prog 86 [sli l] .e (.sl 83 0 0 l.length 1) (hp [(83,.cells 0 (ints l))]):=by cases l with|nil=>exact HSpec.empty QkZ Qk0|cons x l=>
 refine ZcM 100 (Ok s86) rfl ?_;have b:aEq (.nil 2) false (sli (x::l)) .nilsl=some (.bool false):=rfl;have a:(ints (x::l)).all AV.one=true:=by simp[ints,AV.one]
 generalize x::l=q at*;unfold s86;refine Zc0 (Zc1 b a) ?_;exact⟨.inr trivial,_,rfl,⟨[(83,.blk 103 1)],rfl,au0,au3,au4⟩⟩
theorem clone86(l)(a:l.length<=1000000):Ps 86 [sli l] (sli l):=by
 have h:=(cloneI86 l a).freeze (b:=83) (g:=0) (ds:=ints l) gg (by
  have:∀m:List Int,flatVs (ints m)=true:=fun m=>by induction m with|nil=>rfl|cons x m b=>simp only[ints,ZaK,flatVs,Zab];exact⟨rfl,b⟩
  exact this _) (by simp[ints]) rfl;have e:(ints l).take (l.length*1)=ints l:=by rw[ZaN (by simp[ints])]
 rw[e]at h;exact⟨by rw[noRefs,Qah];rfl,Qah _,_,h⟩
def prmQ(ct:Nat->Bool)(l:List Gdn)(T:Nat->List Int)(x e:Nat):Bool:=!ct e||l.any fun g=>decide (g.ev=(e:Int))&&inBs g.bs (T x)
theorem is128(g)(ev):Ps 128 [gdV g,.fptr [.int .i64 ev]] (.bool (decide (g.ev=ev))):=by refine Zcp 64 (Ok VK.s128) rfl (by simp only[noRefs,noRef,Qau];rfl) rfl ?_;unfold VK.s128;refine ZcP ?_;exact⟨.inr trivial,_,rfl,rfl⟩
theorem index84E(l)(ev)(v:l.length<=1000):∃k:Int,Ps 84 [gdsV l,.fn 128 [] [.fptr [.int .i64 ev]]] (.int .i64 k)/\((k=-1/\∀g∈l,g.ev≠ev)\/∃(f:Nat)(g:Gdn),k=f/\l[f]?=some g/\g.ev=ev):=by
 by_cases h:∃f g,l[f]?=some g/\g.ev=ev/\∀(j:Nat)y,j<f->l[j]?=some y->y.ev≠ev
 ·obtain⟨f,g,hf,he,s⟩:=h;refine⟨f,?_,.inr ⟨f,g,rfl,hf,he⟩⟩;refine Zcp 64 (Ok UK.s84) rfl (by simp only[noRefs,noRef,Qay];rfl) rfl ?_;have t:=QrZ hf;unfold UK.s84;refine ZcP ?_;refine QaE 100 (fun i:Nat=>[(0,gdsV l),(1,.fn 128 [] [.fptr [.int .i64 ev]]),(7,.int .i64 l.length),(8,.int .i64 i)]) (fun _=>[]) (fun i=>i<=f) (fun i=>l.length-i) 0 ⟨[],rfl,au0,au42,au41⟩ (Zah _) ?_;rintro i hi;have a:i<l.length:=by omega
  obtain⟨x,d⟩:=Qam a;have b:=Qcf d;have c:2<=((l.flatMap gdC).drop (i*2)).length:=by rw[b];simp
  have hw:=is128 x ev;by_cases e:i=f;·subst e;rw[hf]at d;cases d;rw[decide_eq_true he]at hw;refine ZcQ (Zc2 a b c) ?_;refine cpcP hw ?_;refine ZcP ?_;exact⟨.inr trivial,_,rfl,rfl⟩
  rw[decide_eq_false (s i x (by omega) d)]at hw;exact bQ0MM
 have m:∀g∈l,g.ev≠ev:=by intro g u he;obtain⟨i,hi,rfl⟩:=ZaU u;obtain⟨f,y,h1,n,_,q⟩:=fstG' i (Zak hi);exact h ⟨f,y,h1,by rw[n,he],fun j z p o=>by rw[<-he];exact q j z p o⟩
 refine⟨-1,?_,.inl ⟨rfl,m⟩⟩;refine Zcp 64 (Ok UK.s84) rfl (by simp only[noRefs,noRef,Qay];rfl) rfl ?_;unfold UK.s84;refine ZcP ?_;refine QaE 100 (fun i:Nat=>[(0,gdsV l),(1,.fn 128 [] [.fptr [.int .i64 ev]]),(7,.int .i64 l.length),(8,.int .i64 i)]) (fun _=>[]) (fun i=>i<=l.length) (fun i=>l.length-i) 0 ⟨[],rfl,au0,au42,au41⟩ (Zah _) ?_;rintro i hi;by_cases a:i<l.length
 ·obtain⟨x,d⟩:=Qam a;have b:=Qcf d;have c:2<=((l.flatMap gdC).drop (i*2)).length:=by rw[b];simp
  have hw:=is128 x ev;rw[decide_eq_false (m x (Zac d))]at hw;exact bQ0MM
 refine ZcQ a ?_;exact⟨.inr trivial,_,rfl,rfl⟩
variable{q p:Aut}{A B:List (List Nat)}{P:List Nat}{F:List (Nat×Int×Int×Int)}{c:Cel}
abbrev spCl(q:Aut)(A B:List (List Nat))(P:List Nat)(F:List (Nat×Int×Int×Int)):List AV:=[sliN q.al,.int .i64 (q.n:Int),sliN q.ms,egsN q.es,tuV A,tuV B,sliN P,rss F]
abbrev ceCl(c:Cel):List AV:=[evsV c.ev,its 99 c.cs,its 114 c.rs,exs c.xs,cos c.ks]
theorem QbW:noRefs (spCl q A B P F)=true:=by have hA:noRefs (A.map sliN)=true:=Qax Qab _;have a:noRefs (B.map sliN)=true:=Qax Qab _;simp only[noRefs,noRef,Qaa,Qaf,hA,a,Qa4];rfl
theorem Qpf(h:l.Pairwise fun y z=>y.ev<z.ev){y z:Gdn}(d:y∈l)(c:z∈l)(he:y.ev=z.ev):y=z:=by induction l with|nil=>cases d|cons x l i=>
 obtain⟨h1,k⟩:=ZaB.1 h;rcases Zaz.1 d with g|f
 ·rcases Zaz.1 c with a|b;·rw[g,a]
  have:=h1 z b;rw[g]at he;omega
 rcases Zaz.1 c with a|b;·have:=h1 y f;rw[a]at he;omega
 exact i k f b
theorem Qux{X Y Z}{i j}(a:noRefs X=true)(hY:noRefs Y=true)(b:noRefs Z=true):noRefs [.int .i64 i,.int .i64 j,.fptr X,.fptr Y,.fptr Z]=true:=by simp only[noRefs,noRef,a,hY,b];rfl
theorem permitted127(l:List Gdn)(x e:Nat)(he:e<5)(hA:A[x]?=some a)(Q:B[x]?=some b)(V:0<a.length)(L:a.length<=1000)(w:b.length<=1000)(S:l.length<=1000)(J:∀g∈l,g.bs.length<=1000/\∀y∈g.bs,y.lo.length=(a++b).length/\y.hi.length=(a++b).length)(o:l.Pairwise fun y z=>y.ev<z.ev):Ps 127 [.int .i64 (x:Int),.int .i64 (e:Int),.fptr (ceCl c),.fptr [gdsV l],.fptr (spCl q A B P F)] (.bool (prmQ (ctC c) l (tplQ A B) x e)):=by
 have H:=Qbi c;have M:=@QbW q A B P F;have T:tplQ A B x=nz (a++b):=by unfold tplQ;rw[Qaz hA,Qaz Q]
 obtain⟨k,hk,C⟩:=index84E l (e:Int) S;have X:=@tuple49 q A B P F x a b hA Q V L w;refine Zcp 64 (Ok VK.s127) rfl (Qux H (by simp only[noRefs,noRef,Qay];rfl) M) rfl ?_;have d:=QeX c.ev he;have s:5<=((evsC c.ev).drop (e*5)).length:=by rw[d];simp
 have i:(e:Int)<5:=by omega
 cases hc:(c.ev e).c with|false=>
  have I:prmQ (ctC c) l (tplQ A B) x e=true:=by unfold prmQ;rw[show ctC c e=false from hc];rfl
  rw[I];rw[hc]at d;unfold VK.s127;refine ZcQ (Zc2 i d s) ?_;exact⟨.inr trivial,_,rfl,rfl⟩|true=>
  rw[hc]at d;have I:prmQ (ctC c) l (tplQ A B) x e=l.any fun g=>decide (g.ev=(e:Int))&&inBs g.bs (nz (a++b)):=by unfold prmQ;rw[show ctC c e=true from hc,T];rfl
  rw[I];unfold VK.s127;refine ZcQ (Zc2 i d s) ?_;refine ch (ZcI (ZcL (Zcq _) (ZcL (FrzTo.fn ZcK (ZcL (ZcH gg (Zcr _)) ZcK)) ZcK)) hk rfl) ?_;rcases C with⟨rfl,O⟩|⟨f,g,rfl,hf,u⟩
  ·have n:(l.any fun g=>decide (g.ev=(e:Int))&&inBs g.bs (nz (a++b)))=false:=by rw[Zbt];intro g u;rw[decide_eq_false (O g u),Zbk];decide
   rw[n];refine ZcP ?_;exact⟨.inr trivial,_,rfl,rfl⟩
  have v:=(Zai.1 hf).1;have m:=Zac hf;obtain⟨U,K⟩:=J g m;have t:=permits65 g (nz (a++b)) (by omega) (fun y E=>by rw[Qb6];exact K y E) (by rw[Qb6,Zaf];omega);rw[Qbg]at t;have n:(l.any fun g=>decide (g.ev=(e:Int))&&inBs g.bs (nz (a++b)))=inBs g.bs (nz (a++b)):=by cases h:inBs g.bs (nz (a++b))with|true=>exact Zba.2 ⟨g,m,by rw[decide_eq_true u,h];rfl⟩|false=>
   rw[Zbt];intro y E;by_cases R:y.ev=(e:Int);·have :y=g:=Qpf o E m (by rw[R,u]);subst this;rw[h,ZbN];decide
   rw[decide_eq_false R,Zbk];decide
  rw[n];generalize inBs g.bs (nz (a++b))=W at*;have p:=Qcf hf;have N:2<=((l.flatMap gdC).drop (f*2)).length:=by rw[p];simp
  have G:(f:Int)<(l.length:Int):=by omega
  refine ZcQ (Zc3 v G p N) ?_;refine cp X ?_;refine ZcP ?_;refine cp t ?_;refine ZcP ?_;exact⟨.inr trivial,_,rfl,rfl⟩
end Go.AM.SO
namespace Go.AM.VN
open Go.Proofs
set_option maxHeartbeats 4000000
noncomputable section
def cf:YA.Cf:={most:=.pure}
def s62:SFn:=by
 refine(?f:YA.Yt Tryz.prog cf 62 [[0,1,2,7],[3,5,20],[21,22,23,24],[25,26],[],[30,31,32],[11,33,34,35,36,37,38,39,40,41,42,43,44],[45],[27,28,29,46,47,48,49,50],[51,52,53],[],[54,55,56],[57,60,61,62,63,64,65,66],[67,68,69,70,71,72,73],[67,74,75,76,77,78,79],[],[83,84,85],[86,87,88,89,90,91,92,93],[94,96,97,98,99,95,100,101],[19,102],[103,104,105],[106,107,108,109],[110,111,112,113,114],[17,18,103,115,116,117,118,119,120,121,122,123,124],[125],[80,81,82,58,59],[4,8,9,14,15,126,127,128],[12,13,129,130]] [(21,[(2,10)])]) ?s ?h;case h=>exact YA.rr
 exact fun s _=>s
end
end Go.AM.VN
namespace Go.AM.SO
open Go.Proofs Go.AM.SD Go.AM.SE
variable{q:Aut}{f:Ed->Bool}{L:List Ed}{fs:List Fr}{N:NM}{m:Nat}{pm:Nat->Nat->Bool}{G:Prop}{Q:QC}{b:SCode}{E:Tmps}
def flt(q:Aut)(pm:Nat->Nat->Bool):Aut:=⟨q.al,q.n,q.ms,q.es.filter fun e=>pm e.1 e.2.1⟩
abbrev tru:Nat->Bool:=fun _=>true
theorem Qef(h:WfA q):WfA (flt q pm):=⟨h.al,h.al5,h.n5,h.ms,h.msn,h.es.filter _,fun e he=>h.esn e (Zbh.1 he).1,fun e he=>h.ev e (Zbh.1 he).1⟩
theorem Quy(v):sOut (flt q pm).es tru v=(sOut q.es tru v).filter fun e=>pm v e.2.1:=by
 unfold sOut flt;rw[List.filter_filter,List.filter_filter];refine ZbF fun e _=>?_;by_cases h:e.1=v;·subst h;simp[Bool.and_comm]
 have a:(e.1==v)=false:=by simpa using h
 simp only[a,Zbk,ZbN]
theorem Qtf{j}{e}(h:L[j]?=some e):(L.take (j+1)).filter f=(L.take j).filter f++if f e=true then[e]else[]:=by rw[ZaS,h,Option.toList,Zbj];congr 1;by_cases h1:f e=true<;>simp[h1]
variable{q p:Aut}{A B:List (List Nat)}{P:List Nat}{F:List (Nat×Int×Int×Int)}{c:Cel}
theorem QnA{P}{L}(c)(key:∀n T h,Rec m E L T h->wS P N (.loop b) fs n T h Q)(h1:c=true->(∀n T h,Rec m E L T h->wS P N (.loop b) fs n T h Q)->G)(a:c=false->(∀n T h,Rec m E L T h->wS P N (.loop b) fs n T h Q)->G):G:=by cases c with|true=>exact h1 rfl key|false=>exact a rfl key
abbrev CLO:AV:=.fn 127 [] [.ptr 50 0 0,.ptr 52 0 0,.ptr 51 0 0]
theorem loop62(l)(pm:Nat->Nat->Bool)(hw:WfA q)(hq0:0<q.n)(hel:q.es.length<=1000000)(hev:∀e∈q.es,e.2.1<5)(hpm:∀x e:Nat,x<q.n->e<5->Ps 127 [.int .i64 (x:Int),.int .i64 (e:Int),.fptr (ceCl c),.fptr [gdsV l],.fptr (spCl q A B P F)] (.bool (pm x e))):Ps 62 [celV c,.agg (spCl q A B P F),gdsV l] (.tup [aV (restr (flt q pm) tru),sliN (sAll (flt q pm) tru).1]):=by
 have o:noRefs (ceCl c)=true:=Qbi c;have f:=@QbW q A B P F;have u:noRefs [gdsV l]=true:=by simp only[noRefs,noRef,Qay];rfl
 have hal:q.al.length<=32:=QaV 32 q.al (by rw[ZaM];exact hw.al.imp fun h=>by omega) hw.al5;have hn5:=hw.n5;have hms:q.ms.length<=q.n:=QaV q.n q.ms hw.nd hw.msn;refine Zco 60 (Ok VN.s62) rfl (by rw[noRefs,SU.QaX,noRefs,noRef,f,noRefs,Qa0];rfl) (by simp only[noRef,noRefs,Qaa,Qaf];rfl) ?_;have hn24:(24:Int)*(q.n:Int)<=140737488355328/\(q.n:Int)<=140737488355328:=by omega
 unfold VN.s62;refine Zc0 (Zc4 hn24 @repN @Qac @Qad @Qae) ?_;have hrn:∀k∈List.range q.n,k<1000000:=fun k hk=>by have:=Zat.1 hk;omega
 refine Qas 100 (fun i:Nat=>[(4,.ptr 51 0 0),(6,.ptr 53 0 0),(8,CLO),(9,.sl 78 0 0 q.n 1),(27,egsN q.es),(28,.int .i64 q.es.length),(29,.int .i64 i)]) (fun i=>[(50,.cells 0 (ceCl c)),(51,.cells 0 (spCl q A B P F)),(52,.cells 0 [gdsV l]),(53,.cells 0 [.nilsl,.int .i64 0,.nilsl,.nilsl]),(78,.cells 0 ((List.range q.n).map (SE.ptrE (q.es.take i) tru)))]++rowsL (SE.rowE (q.es.take i) tru) (List.range q.n)) (fun i=>i<=q.es.length) (fun i=>q.es.length-i) 0 0 160 (fun _:Unit=>[(4,.ptr 51 0 0),(6,.ptr 53 0 0),(8,CLO),(9,.sl 78 0 0 q.n 1)]) (fun _=>[(50,.cells 0 (ceCl c)),(51,.cells 0 (spCl q A B P F)),(52,.cells 0 [gdsV l]),(53,.cells 0 [.nilsl,.int .i64 0,.nilsl,.nilsl]),(78,.cells 0 ((List.range q.n).map (frzE q.es tru)))]) (fun _=>True) ?_ (Zah _) ?_ ?_;·refine⟨[(50,.blk 60 0),(51,.blk 61 0),(52,.blk 62 0),(53,.blk 63 0),(78,.blk 70 0)]++psL (fun _=>.nil) (List.range q.n),QdP (QcJ ZaX hrn (fun _ _ _ _ _ b g b' g' h=>by cases h)) rfl (by decide) (fun _ _ _ _ _ _ _ b g h=>by cases h),Zcs,?_,au41⟩;refine Zcw rfl rfl rfl (Zcn o) (Zcw rfl rfl rfl (Zcn f) (Zcw rfl rfl rfl (Zcn u) (Zcw rfl rfl rfl (Zcn rfl) (Zcw rfl rfl rfl (Qdf fun k hk=>Rn.x4 rfl (QcZ hk (A:=[(50,.blk 60 0),(51,.blk 61 0),(52,.blk 62 0),(53,.blk 63 0),(78,.blk 70 0)]) (by decide))) ?_))));exact QcT fun k hk=>Zcx rfl (QcZ hk (A:=[(50,.blk 60 0),(51,.blk 61 0),(52,.blk 62 0),(53,.blk 63 0),(78,.blk 70 0)]) (by decide)) Zcv
 ·rintro i hi;have hr0:∀b,b<300->(hp (rowsL (SE.rowE (q.es.take i) tru) (List.range q.n))).get b=none:=fun b hb=>Qeh hrn fun k hk=>by omega
  by_cases n:i<q.es.length
  ·obtain⟨e,he⟩:=Qam n;obtain⟨Q,hto⟩:=hw.esn e (Zac he);have C:∀k:Nat,k<q.n->(hp (rowsL (SE.rowE (q.es.take i) tru) (List.range q.n))).get (300+k)=some (.cells 0 (SE.rowE (q.es.take i) tru k)):=fun k hk=>Qb7 ZaX hrn (Zat.2 hk);have E:=C e.1 Q;have a:=Qk1 (left:=tru) he;have hpl:=Qcw (q.es.take i) tru e.1;rw[Zar]at hpl;have z:=Qbx (sOut (q.es.take i) tru e.1);refine ZcQ (Zc5 @ZaW @ZaP n (QaQ he) hr0 hto) ?_;refine Qb8 [(40,[300+e.1])] rfl ?_ ?_;·exact Qdq (a:=[103]) (b:=[115,300+e.1,114]) rfl rfl (fun x S=>by simp only[Zaz,Zbx,or_false]at S⊢;omega) QgN
   have hfr1:e.1+1<=q.n:=by omega
   refine ZcQ (Zc7 hr0 Q E z (fun f=>QgP (f:=f) Q) (fun f v=>QkW (f:=f) (v:=v) Q) @ZbH hfr1) ?_;refine⟨⟨⟨_,rfl,fun b hb=>hb⟩,trivial⟩,i+1,by omega,by omega,?_⟩;have X:∀k b g,(fun k=>if k=e.1 then Src.blk (300+e.1) 1 else Src.blk (300+k) 0) k=.blk b g->b=300+k:=by
    intro k b g w;dsimp only at w;split at w<;>cases w;·rename_i N;rw[N]
    rfl
   refine⟨[(50,.blk 50 0),(51,.blk 51 0),(52,.blk 52 0),(53,.blk 53 0),(78,.blk 78 0)]++psL (fun k=>if k=e.1 then Src.blk (300+e.1) 1 else Src.blk (300+k) 0) (List.range q.n),QdP (A:=[(50,.blk 50 0),(51,.blk 51 0),(52,.blk 52 0),(53,.blk 53 0),(78,.blk 78 0)]) (L:=[(50,_),(51,_),(52,_),(53,_),(78,_)]) (QcJ ZaX hrn (fun k hk j hj hkj b g b' g' h1 w=>?_)) rfl (by decide) (fun p hp b g hb k hk b' g' h1=>?_),Zcs,?_,au41⟩;·have :=X k b g h1;have:=X j b' g' w;omega
   ·have w:=X k b' g' h1;simp only[Zaz,Zbx,or_false]at hp;rcases hp with rfl|rfl|rfl|rfl|rfl<;>cases hb<;>omega
   refine Zcw rfl rfl gg (Zcn o) (Zcw rfl rfl gg (Zcn f) (Zcw rfl rfl gg (Zcn u) (Zcw rfl rfl gg (Zcn rfl) (Zcw rfl rfl gg (Qdf fun k hk=>?_) (QcT fun k hk=>?_)))))
   ·have I:=QcZ (s:=fun k=>if k=e.1 then Src.blk (300+e.1) 1 else Src.blk (300+k) 0) hk (A:=[(50,.blk 50 0),(51,.blk 51 0),(52,.blk 52 0),(53,.blk 53 0),(78,.blk 78 0)]) (by decide);unfold updF SE.ptrE;rw[a];by_cases w:k=e.1;·subst w;rw[if_pos rfl,if_pos ⟨rfl,rfl⟩,Zaf];exact Rn.x1 rfl (by rw[I];simp)
    rw[if_neg w,if_neg (fun N=>w N.1.symm),Zas];exact Rn.x1 rfl (by rw[I];simp[w])
   have I:=QcZ (s:=fun k=>if k=e.1 then Src.blk (300+e.1) 1 else Src.blk (300+k) 0) hk (A:=[(50,.blk 50 0),(51,.blk 51 0),(52,.blk 52 0),(53,.blk 53 0),(78,.blk 78 0)]) (by decide);have T:=Zat.1 hk;by_cases w:k=e.1;·subst w;refine Zcw rfl (b:=300+e.1) (g:=1) (by rw[I];simp) gg (RnL.eq ?_ (Qaf _)) Zcv;unfold SE.rowE;rw[a,if_pos ⟨rfl,rfl⟩,Zan];rfl
   refine Zcw rfl (b:=300+k) (g:=0) (ds:=SE.rowE (q.es.take i) tru k) (by rw[I];simp[w]) (by first|(simp(disch:=omega)only[QaF,QaI,QaZ,C k T];done)|(simp(disch:=omega)only[QaF,QaI,QaZ,C k T];rfl)) (RnL.eq ?_ (Qaf _)) Zcv;unfold SE.rowE;rw[a,if_neg (fun N=>w N.1.symm),Zas]
  have e:i=q.es.length:=by omega
  subst e;refine ZcQ (Zc2 @ZaW @ZaP n) ?_;refine⟨(),[(50,.blk 50 0),(51,.blk 51 0),(52,.blk 52 0),(53,.blk 53 0),(78,.blk 78 0)],rfl,Zcs,?_,au41⟩;refine Zcw rfl rfl gg (Zcn o) (Zcw rfl rfl gg (Zcn f) (Zcw rfl rfl gg (Zcn u) (Zcw rfl rfl gg (Zcn rfl) (Zcw rfl rfl gg (Qdf fun k hk=>?_) Zcv))));have T:=Zat.1 hk;have hr:=Qb7 (f:=SE.rowE q.es tru) ZaX hrn hk;have b0:∀m:Nat,m<300->Nat.beq (300+k) m=false:=fun m hm=>by rw[ZaH];simp;try omega
  exact ZcD (by first|(simp(disch:=omega)only[QaF,QaI,QaZ,hr];done)|(simp(disch:=omega)only[QaF,QaI,QaZ,hr];rfl)) (by simp[srcNew,b0]) (by simp) rfl (Qbx _) (Zcn (Qaf _))
 rintro _ _;refine ZcP ?_;have hcl:=clone86 (nz q.al) (by rw[Qb6];omega);rw[Qbg]at hcl;refine cp hcl ?_;refine ZcP ?_;refine QbF ?_;refine ZcP ?_;refine Qce (x:=0) (f:=numF [0]) (l:=[]) (by simp) (by decide) ?_;refine ZcP ?_;have hms0:mks q 0 [0]=[]:=rfl;have hwf:WfA (flt q pm):=Qef hw;have y:SI q.n (flt q pm).es tru 0 (([0],[]):OE):=by refine⟨⟨by simp,fun x S=>by simp at S;omega⟩,fun x S=>rfl,Zah _,fun j v hj=>by omega,by simp⟩
 have Y:sQ (flt q pm).es tru (q.n+1) 0 ([0],[])=sAll (flt q pm) tru:=by unfold sAll;rw[if_pos (by show(decide (0<q.n)&&true)=true;rw[decide_eq_true hq0];rfl)];rfl
 refine Qas 180 (fun t:Nat×OE=>[(4,.ptr 51 0 0),(6,.ptr 53 0 0),(8,CLO),(9,.sl 78 0 0 q.n 1),(12,.ptr 69 0 0),(13,.sl 75 0 0 t.2.1.length 1),(14,.map 74 0),(15,.int .i64 t.1)]) (fun t=>[(50,.cells 0 (ceCl c)),(51,.cells 0 (spCl q A B P F)),(52,.cells 0 [gdsV l]),(53,.cells 0 [.nilsl,.int .i64 0,.nilsl,.nilsl]),(78,.cells 0 ((List.range q.n).map (frzE q.es tru))),(69,.cells 0 [sliN q.al,.int .i64 0,.sl 77 0 0 (mks q t.1 t.2.1).length 1,.sl 76 0 0 (t.2.2).length 3]),(74,.map 0 (mapF .i64 (numF (t.2.1)) (t.2.1))),(75,.cells 0 (ints (nz (t.2.1)))),(76,.cells 0 ((t.2.2).flatMap edC)),(77,.cells 0 (ints (nz (mks q t.1 t.2.1))))]) (fun t=>t.1<=q.n/\SI q.n (flt q pm).es tru t.1 t.2/\t.2.2.length<=t.1*1000000/\sQ (flt q pm).es tru (q.n+1-t.1) t.1 t.2=sAll (flt q pm) tru) (fun t=>q.n+1-t.1) (0,([0],[])) 2 260 (fun _:Unit=>[(6,.ptr 53 0 0),(12,.ptr 69 0 0),(13,.sl 75 0 0 (sAll (flt q pm) tru).1.length 1)]) (fun _=>[(53,.cells 0 [.nilsl,.int .i64 0,.nilsl,.nilsl]),(69,.cells 0 [sliN q.al,.int .i64 0,.sl 77 0 0 (restr (flt q pm) tru).ms.length 1,.sl 76 0 0 (restr (flt q pm) tru).es.length 3]),(75,.cells 0 (ints (nz (sAll (flt q pm) tru).1))),(76,.cells 0 ((restr (flt q pm) tru).es.flatMap edC)),(77,.cells 0 (ints (nz (restr (flt q pm) tru).ms)))]) (fun _=>True) ?_ ⟨Zah _,y,Zah _,Y⟩ ?_ ?_
 ·dsimp only;rw[hms0];refine⟨[(50,.blk 50 0),(51,.blk 51 0),(52,.blk 52 0),(53,.blk 53 0),(78,.blk 78 0),(69,.blk 165 0),(74,.blk 168 0),(75,.blk 167 0),(76,.nil),(77,.nil)],rfl,Zcs,?_,au41⟩;refine Zcw rfl rfl gg (Zcn o) (Zcw rfl rfl gg (Zcn f) (Zcw rfl rfl gg (Zcn u) (Zcw rfl rfl gg (Zcn rfl) (Zcw rfl rfl gg (Zcn (Qaq _ _ _)) ?_))));repeat'(first|exact Zcv|(refine Zcn ?_;first|rfl|(simp only[noRef,noRefs,Qag,Zae,Zad,Zag,Qaa,Qah,Qab,Qar,Qaj,QaR,Qaf,SU.QaW,SU.QaS,SU.Qa9,Qbc,Qa4,Qau,Qay,QaC,QaT,QaG,Qaq,Qak];done))|exact ZcJ rfl|exact ZcB|exact(True.intro:RnM _ _ _ [] [])|refine ZcC ?_ ?_|(refine Zcm ?_;first|rfl|(simp only[noRef,noRefs,Qag,Zae,Zad,Zag,Qaa,Qah,Qab,Qar,Qaj,QaR,Qaf,SU.QaW,SU.QaS,SU.Qa9,Qbc,Qa4,Qau,Qay,QaC,QaT,QaG,Qaq,Qak];done))|exact Rn.x1 rfl rfl|exact Rn.x2 rfl rfl|exact Rn.x3 rfl rfl|exact Rn.x4 rfl rfl|exact Rn.x5 rfl|exact Rn.x6 rfl|exact Rn.x7 rfl|refine Zcx rfl rfl ?_|refine Zcw rfl rfl rfl ?_ ?_|refine Zcy rfl rfl rfl ?_ ?_|refine Zcz rfl rfl ?_ ?_|refine ZcA rfl rfl ?_ ?_)
  refine ZcN (l:=[0]) fun x S=>?_;have:x=0:=by simpa using S
  subst this;exact Zcm rfl
 ·rintro⟨i,s⟩⟨hi,y,hsl,hq⟩;dsimp only at hi y hsl hq⊢;have hfl:=y.fi.len;have hile:=y.le;by_cases n:i<s.1.length
  ·obtain⟨v,M⟩:=Qam n;have J:=y.fi.lt v (Zac M);have hin':i<q.n:=by omega
   have hsi':=y.step hwf.esn M;have hq':sQ (flt q pm).es tru (q.n+1-(i+1)) (i+1) (sRow (flt q pm).es tru i v s)=sAll (flt q pm) tru:=by rw[<-hq,show q.n+1-i=(q.n+1-(i+1))+1 by omega];simp only[sQ,M]
   have hol:=Qcw q.es tru v;obtain⟨d,hfv⟩:∃d:Ed->Bool,d=fun e:Ed=>pm v e.2.1:=⟨_,rfl⟩;have hfe:∀e:Ed,d e=pm v e.2.1:=fun e=>by rw[hfv]
   have hso:sOut (flt q pm).es tru v=(sOut q.es tru v).filter d:=by rw[hfv];exact Quy v
   have E:=fun j=>QcG (n:=q.n) (left:=tru) i (((sOut q.es tru v).take j).filter d) s (fun e he=>⟨(hw.esn e (Qa5.1 (ZaR (Zbh.1 he).1)).1).2,rfl⟩) y.fi y.lft;have hmsl:=@QdQ q (i+1) s.1;have hml0:=@QdQ q i s.1;have L:=QeQ (a:=q) M;have Z:∀j,mks q (i+1) ((((sOut q.es tru v).take j).filter d).foldl (sEd i) s).1=mks q (i+1) s.1:=fun j=>by obtain⟨_,_,⟨t,ht⟩,_⟩:=E j;rw[ht,Qha n]
   have hRf:((sOut q.es tru v).filter d).foldl (sEd i) s=sRow (flt q pm).es tru i v s:=by rw[<-hso];rfl
   have H:=Z (sOut q.es tru v).length;rw[Zao,hRf]at H;have hsl3:(sRow (flt q pm).es tru i v s).2.length=s.2.length+(sOut (flt q pm).es tru v).length:=QbZ _ _;have hol2:=Qcw (flt q pm).es tru v;have hfel:(flt q pm).es.length<=1000000:=Zaw (ZaY _ _) hel;have hc:=contains62 (nz q.ms) v (by simp;omega);rw[Qbg,Qd8]at hc;have hmx:(ints (nz (mks q i s.1))).length=(mks q i s.1).length*1:=by simp[ints]
   refine ZcQ (Zc1 n (Qbh (nz_at M))) ?_;refine cp hc ?_;have h75:(ints (nz s.1))[i]?=some (.int .i64 (v:Int)):=Qbh (nz_at M);apply QnA (m:=0) (E:=[(4,.ptr 51 0 0),(6,.ptr 53 0 0),(8,CLO),(9,.sl 78 0 0 q.n 1),(12,.ptr 69 0 0),(13,.sl 75 0 0 ((((sOut q.es tru v).take 0).filter d).foldl (sEd i) s).1.length 1),(14,.map 74 0),(15,.int .i64 i),(80,egsN (sOut q.es tru v)),(81,.int .i64 (sOut q.es tru v).length),(82,.int .i64 (0:Nat))]) (L:=[(50,.cells 0 (ceCl c)),(51,.cells 0 (spCl q A B P F)),(52,.cells 0 [gdsV l]),(53,.cells 0 [.nilsl,.int .i64 0,.nilsl,.nilsl]),(78,.cells 0 ((List.range q.n).map (frzE q.es tru))),(69,.cells 0 [sliN q.al,.int .i64 0,.sl 77 0 0 (mks q (i+1) s.1).length 1,.sl 76 0 0 (((((sOut q.es tru v).take 0).filter d).foldl (sEd i) s).2).length 3]),(74,.map 0 (mapF .i64 (numF (((((sOut q.es tru v).take 0).filter d).foldl (sEd i) s).1)) (((((sOut q.es tru v).take 0).filter d).foldl (sEd i) s).1))),(75,.cells 0 (ints (nz (((((sOut q.es tru v).take 0).filter d).foldl (sEd i) s).1)))),(76,.cells 0 ((((((sOut q.es tru v).take 0).filter d).foldl (sEd i) s).2).flatMap edC)),(77,.cells 0 (ints (nz (mks q (i+1) s.1))))]) (q.ms.contains v);rotate_left;·intro G key;rw[if_pos G]at L;rw[G];refine ZcQ (Zc4 n h75 hmx J (fun e f=>Qii (es:=e) (left:=f) J)) ?_;refine key _ _ _ ?_;rw[L,ZbL,List.filter_nil,List.foldl_nil];rw[Zaf,QaM,QaB];refine⟨[(50,.blk 50 0),(51,.blk 51 0),(52,.blk 52 0),(53,.blk 53 0),(78,.blk 78 0),(69,.blk 69 0),(74,.blk 74 0),(75,.blk 75 0),(76,.blk 76 0),(77,.blk 77 1)],rfl,au0,?_,au41⟩;refine Zcw rfl rfl gg (Zcn o) (Zcw rfl rfl gg (Zcn f) (Zcw rfl rfl gg (Zcn u) (Zcw rfl rfl gg (Zcn rfl) (Zcw rfl rfl gg (Zcn (Qaq _ _ _)) ?_))));refine Zcw rfl rfl gg (ZcC (Zcm (Qab _)) (ZcC (Zcm rfl) (ZcC (Rn.x1 rfl rfl) (ZcC (Rn.x1 rfl rfl) ZcB)))) (Zcy rfl rfl gg (ZcN fun x _=>Zcm rfl) (Zcw rfl rfl gg (Zcn (Qaa _)) (Zcw rfl rfl gg (Zcn (Qaf _)) (Zcw rfl rfl gg (Zcn (SU.Qat (Qaa _) (Qaa _))) Zcv))))
   ·intro G key;rw[if_neg (by rw[G];decide),Zas]at L;rw[G];refine ZcQ (Zc4 n h75 hmx J (fun e f=>Qii (es:=e) (left:=f) J)) ?_;refine key _ _ _ ?_;rw[L,ZbL,List.filter_nil,List.foldl_nil];exact bVS0T
   intro nn TT hh hrec;refine Qas 300 (fun j:Nat=>[(4,.ptr 51 0 0),(6,.ptr 53 0 0),(8,CLO),(9,.sl 78 0 0 q.n 1),(12,.ptr 69 0 0),(13,.sl 75 0 0 ((((sOut q.es tru v).take j).filter d).foldl (sEd i) s).1.length 1),(14,.map 74 0),(15,.int .i64 i),(80,egsN (sOut q.es tru v)),(81,.int .i64 (sOut q.es tru v).length),(82,.int .i64 j)]) (fun j=>[(50,.cells 0 (ceCl c)),(51,.cells 0 (spCl q A B P F)),(52,.cells 0 [gdsV l]),(53,.cells 0 [.nilsl,.int .i64 0,.nilsl,.nilsl]),(78,.cells 0 ((List.range q.n).map (frzE q.es tru))),(69,.cells 0 [sliN q.al,.int .i64 0,.sl 77 0 0 (mks q (i+1) s.1).length 1,.sl 76 0 0 (((((sOut q.es tru v).take j).filter d).foldl (sEd i) s).2).length 3]),(74,.map 0 (mapF .i64 (numF (((((sOut q.es tru v).take j).filter d).foldl (sEd i) s).1)) (((((sOut q.es tru v).take j).filter d).foldl (sEd i) s).1))),(75,.cells 0 (ints (nz (((((sOut q.es tru v).take j).filter d).foldl (sEd i) s).1)))),(76,.cells 0 ((((((sOut q.es tru v).take j).filter d).foldl (sEd i) s).2).flatMap edC)),(77,.cells 0 (ints (nz (mks q (i+1) s.1))))]) (fun j=>j<=(sOut q.es tru v).length) (fun j=>(sOut q.es tru v).length-j) 0 4 400 (fun _:Unit=>[(4,.ptr 51 0 0),(6,.ptr 53 0 0),(8,CLO),(9,.sl 78 0 0 q.n 1),(12,.ptr 69 0 0),(13,.sl 75 0 0 (sRow (flt q pm).es tru i v s).1.length 1),(14,.map 74 0),(15,.int .i64 i)]) (fun _=>[(50,.cells 0 (ceCl c)),(51,.cells 0 (spCl q A B P F)),(52,.cells 0 [gdsV l]),(53,.cells 0 [.nilsl,.int .i64 0,.nilsl,.nilsl]),(78,.cells 0 ((List.range q.n).map (frzE q.es tru))),(69,.cells 0 [sliN q.al,.int .i64 0,.sl 77 0 0 (mks q (i+1) s.1).length 1,.sl 76 0 0 ((sRow (flt q pm).es tru i v s).2).length 3]),(74,.map 0 (mapF .i64 (numF ((sRow (flt q pm).es tru i v s).1)) ((sRow (flt q pm).es tru i v s).1))),(75,.cells 0 (ints (nz ((sRow (flt q pm).es tru i v s).1)))),(76,.cells 0 (((sRow (flt q pm).es tru i v s).2).flatMap edC)),(77,.cells 0 (ints (nz (mks q (i+1) s.1))))]) (fun _=>True) hrec (Zah _) ?_ ?_
   ·rintro j hj;by_cases O:j<(sOut q.es tru v).length
    ·obtain⟨e,he⟩:=Qam O;have hem:=Qa5.1 (Zac he);have hto:=(hw.esn e hem.1).2;have he5:=hev e hem.1;have hft:=Qtf (f:=d) he;obtain⟨k1,_,⟨tt,htt⟩,_,_⟩:=E j;have hfi:=k1.len;have hnd:=k1.nd;have hsl2:=QbZ (i:=i) (((sOut q.es tru v).take j).filter d) s;have hfll:(((sOut q.es tru v).take j).filter d).length<=(sOut q.es tru v).length:=by have h1:=ZaY d ((sOut q.es tru v).take j);rw[Zar]at h1;omega
     have hp:=hpm v e.2.1 J he5;rw[<-hfe e]at hp;have hvt:((((sOut q.es tru v).take j).filter d).foldl (sEd i) s).1[i]?=some v:=by rw[htt,Za1 n];exact M
     have R:=(Zai.1 hvt).1;have h76:=Qbh (nz_at hvt);have a:(((sOut q.es tru v).take (j+1)).filter d).foldl (sEd i) s=(if d e=true then[e]else[]).foldl (sEd i) ((((sOut q.es tru v).take j).filter d).foldl (sEd i) s):=by rw[hft,Za0]
     generalize(((sOut q.es tru v).take j).filter d).foldl (sEd i) s=t at*;have z:=Qbx t.2;cases K:d e with|false=>rw[K]at hp;refine ZcQ (Zc3 O (QaQ he) R h76) ?_;refine Qkr (ZcI (ZcL (Zcq _) (ZcL (Zcq _) (ZcL (ZcH gg (Zcr _)) (ZcL (ZcH gg (Zcr _)) (ZcL (ZcH gg (Zcr _)) ZcK))))) hp rfl) ?_;refine ZcP ?_;rw[K,if_neg (by decide),List.foldl_nil]at a;refine⟨j+1,by omega,by omega,?_⟩;rw[a];refine⟨[(50,.blk 50 0),(51,.blk 51 0),(52,.blk 52 0),(53,.blk 53 0),(78,.blk 78 0),(69,.blk 69 0),(74,.blk 74 0),(75,.blk 75 0),(76,.blk 76 0),(77,.blk 77 0)],rfl,au0,?_,au41⟩;refine Zcw rfl rfl gg (Zcn o) (Zcw rfl rfl gg (Zcn f) (Zcw rfl rfl gg (Zcn u) (Zcw rfl rfl gg (Zcn rfl) (Zcw rfl rfl gg (Zcn (Qaq _ _ _)) ?_))));refine Zcw rfl rfl gg (ZcC (Zcm (Qab _)) (ZcC (Zcm rfl) (ZcC (Rn.x1 rfl rfl) (ZcC (Rn.x1 rfl rfl) ZcB)))) (Zcy rfl rfl gg (ZcN fun x _=>Zcm rfl) (Zcw rfl rfl gg (Zcn (Qaa _)) (Zcw rfl rfl gg (Zcn (Qaf _)) (Zcw rfl rfl gg (Zcn (Qaa _)) Zcv))))|true=>
      rw[K]at hp;refine ZcQ (Zc3 O (QaQ he) R h76) ?_;refine Qkr (ZcI (ZcL (Zcq _) (ZcL (Zcq _) (ZcL (ZcH gg (Zcr _)) (ZcL (ZcH gg (Zcr _)) (ZcL (ZcH gg (Zcr _)) ZcK))))) hp rfl) ?_;refine ZcP ?_;rw[K,if_pos rfl,ZaO,List.foldl_nil]at a;by_cases hc:e.2.2∈t.1;·have w:sEd i t e=(t.1,t.2++[(i,e.2.1,idx t.1 e.2.2)]):=if_pos (by simpa using hc);rw[w]at a;refine Qcz ?_;refine ZcP ?_;refine wK_in hc ?_;refine ZcQ z ?_;refine⟨j+1,by omega,by omega,?_⟩;rw[a,Zan,Zaf];refine⟨[(50,.blk 50 0),(51,.blk 51 0),(52,.blk 52 0),(53,.blk 53 0),(78,.blk 78 0),(69,.blk 69 0),(74,.blk 74 0),(75,.blk 75 0),(76,.blk 76 1),(77,.blk 77 0)],rfl,au0,?_,au41⟩;refine Zcw rfl rfl gg (Zcn o) (Zcw rfl rfl gg (Zcn f) (Zcw rfl rfl gg (Zcn u) (Zcw rfl rfl gg (Zcn rfl) (Zcw rfl rfl gg (Zcn (Qaq _ _ _)) ?_))));refine Zcw rfl rfl gg (ZcC (Zcm (Qab _)) (ZcC (Zcm rfl) (ZcC (Rn.x1 rfl rfl) (ZcC (Rn.x1 rfl rfl) ZcB)))) (Zcy rfl rfl gg (ZcN fun x _=>Zcm rfl) (Zcw rfl rfl gg (Zcn (Qaa _)) (Zcw rfl rfl gg (Zcn (SU.Qat (Qaf _) (Qaf [_]))) (Zcw rfl rfl gg (Zcn (Qaa _)) Zcv))))
      have w:sEd i t e=(t.1++[e.2.2],t.2++[(i,e.2.1,t.1.length)]):=if_neg (by simpa using hc);rw[w]at a;refine Qcz ?_;refine ZcP ?_;refine Qmy hc ?_;refine ZcQ z ?_;refine QbF ?_;refine ZcP ?_;refine Qce hc (by decide) ?_;have hm:mapF .i64 (updF (numF t.1) e.2.2 (.int .i64 (t.1.length:Int))) (t.1++[e.2.2])=mapF .i64 (numF (t.1++[e.2.2])) (t.1++[e.2.2]):=by
       refine Qi4 fun x S=>?_;unfold updF numF;split;·rename_i U;subst U;rw[QdH hc]
       rename_i U;have:x∈t.1:=by
        rcases ZaG.1 S with N|N;·exact N
        exact absurd (by simpa using N) U
       rw[Qda this]
      refine ZcQ (Zc1 hm z) ?_;refine⟨j+1,by omega,by omega,?_⟩;rw[a,Zan,Zaf];dsimp only;rw[Zaf,QaM,QaB];refine⟨[(50,.blk 50 0),(51,.blk 51 0),(52,.blk 52 0),(53,.blk 53 0),(78,.blk 78 0),(69,.blk 69 0),(74,.blk 74 0),(75,.blk 75 1),(76,.blk 76 1),(77,.blk 77 0)],rfl,au0,?_,au41⟩;refine Zcw rfl rfl gg (Zcn o) (Zcw rfl rfl gg (Zcn f) (Zcw rfl rfl gg (Zcn u) (Zcw rfl rfl gg (Zcn rfl) (Zcw rfl rfl gg (Zcn (Qaq _ _ _)) ?_))));refine Zcw rfl rfl gg (ZcC (Zcm (Qab _)) (ZcC (Zcm rfl) (ZcC (Rn.x1 rfl rfl) (ZcC (Rn.x1 rfl rfl) ZcB)))) (Zcy rfl rfl gg (ZcN fun x _=>Zcm rfl) (Zcw rfl rfl gg (Zcn (SU.Qat (Qaa _) (Qaa _))) (Zcw rfl rfl gg (Zcn (SU.Qat (Qaf _) (Qaf [_]))) (Zcw rfl rfl gg (Zcn (Qaa _)) Zcv))))
    have e:j=(sOut q.es tru v).length:=by omega
    subst e;refine ZcQ O ?_;refine⟨(),?_⟩;rw[hRf];exact bVS0T
   rintro _ _;refine ZcP ?_;refine⟨(i+1,sRow (flt q pm).es tru i v s),by dsimp only;omega,⟨hin',hsi',by dsimp only;omega,hq'⟩,?_⟩;dsimp only;rw[H];exact bVS0T
  have M:s.1[i]?=none:=Zax (by omega);have V:s=sAll (flt q pm) tru:=by rw[<-hq,show q.n+1-i=(q.n-i)+1 by omega];simp only[sQ,M]
  have hil:i=s.1.length:=by omega
  have hmf:mks q i s.1=(restr (flt q pm) tru).ms:=by rw[hil,V];rfl
  have hef:s.2=(restr (flt q pm) tru).es:=by rw[V];rfl
  refine ZcQ n ?_;refine⟨(),?_⟩;rw[hmf,hef,<-V];exact bCMRu
 rintro _ _;have hra:(restr (flt q pm) tru).al=q.al:=rfl;have hrn2:(restr (flt q pm) tru).n=(sAll (flt q pm) tru).1.length:=rfl;refine ZcP ?_;refine⟨.inr trivial,_,rfl,?_⟩;refine Rn.tup (ZcC (Rn.agg (ZcC (Zcm (Qab _)) (ZcC (Zcm rfl) (ZcC (ZcE gg (by simp[ints,nz]) (Zcn (Qaa _))) (ZcC (ZcE gg (Qbx _) (Zcn (Qaf _))) ZcB))))) (ZcC (ZcE gg (by simp[ints,nz]) (Zcn (Qaa _))) ZcB))
end Go.AM.SO
namespace Go.AM.VQ
open Go.Proofs
set_option maxHeartbeats 4000000
noncomputable section
def cf:YA.Cf:={}
def s63:SFn:=by
 refine(?f:YA.Yt Tryz.prog cf 63 [[4],[],[6,7,8],[9,12,13,14,15,16],[0,1,5,17],[4,17,10,11],[0,1,5]]) ?s ?h;case h=>exact YA.rr
 exact fun s _=>s
end
end Go.AM.VQ
namespace Go.AM.SO
open Go.Proofs Go.AM.SD Go.AM.SE
variable{q:Aut}{g:Gdn}{fs:List Fr}{T:List Int}{L l:List Nat}{N:NM}{k m v x:Nat}{pm:Nat->Nat->Bool}{G:Prop}{Q:QC}{b:SCode}{E:Tmps}{α:Type}
theorem has63(l)(n)(h:l.length<=1000000):Ps 63 [sli l,.int .i64 n] (.bool (decide (n∈l))):=by
 refine Zcp 64 (Ok VQ.s63) rfl (by simp only[noRefs,noRef,Qaa];rfl) rfl ?_;unfold VQ.s63;refine ZcP ?_;refine QaE 100 (fun i:Nat=>[(0,sli l),(1,.int .i64 n),(5,.int .i64 i)]) (fun _=>[]) (fun i=>i<=l.length/\∀(j:Nat)y,j<i->l[j]?=some y->y≠n) (fun i=>l.length-i) 0 ⟨[],rfl,au0,au42,au41⟩ ⟨Zah _,fun j y c=>absurd c (Zay _)⟩ ?_;rintro i⟨hi,f⟩;by_cases a:i<l.length
 ·obtain⟨x,d⟩:=Qam a;by_cases e:x=n;·refine ZcQ (Zc2 a (QaD d) e) ?_;refine⟨.inr trivial,_,rfl,?_⟩;rw[decide_eq_true (by rw[<-e];exact Zac d)];rfl
  refine ZcQ (Zc2 a (QaD d) e) ?_;refine⟨i+1,by omega,⟨by omega,fun j y c b=>?_⟩,⟨[],rfl,au0,au42,au41⟩⟩;by_cases g:j=i;·subst g;rw[d]at b;cases b;exact e
  exact f j y (by omega) b
 refine ZcQ a ?_;refine⟨.inr trivial,_,rfl,?_⟩;rw[decide_eq_false (fun hm=>by obtain⟨j,c,b⟩:=ZaU hm;exact f j _ (by omega) (Zak c) b)];rfl
theorem Qu3(l)(x):idx l x<=l.length:=List.findIdx_le_length
theorem QoV(h:x∉l):idx l x=l.length:=by unfold idx;refine List.findIdx_eq_length.2 fun y a=>?_;simp only[beq_eq_false_iff_ne];rintro rfl;exact h a
theorem Quz(h:idx l x<l.length):l[idx l x]?=some x:=by refine Qoe (Decidable.byContradiction fun a=>?_);rw[QoV a]at h;omega
theorem QuA(a:l.Nodup){i}(h:l[i]?=some x):idx l x=i:=Qqo a h
def evF(q:Aut)(pm:Nat->Nat->Bool)(v ev:Nat):Option Ed:=if pm v ev=true then(stepA q.es v ev).map fun to=>((v,ev,to):Ed)else none
theorem Qr0{ev}:stepA (flt q pm).es v ev=if pm v ev=true then stepA q.es v ev else none:=by unfold flt;dsimp only;generalize q.es=es;induction es with|nil=>unfold stepA;simp|cons e es a=>
 rw[ZbX,QcV];by_cases h:e.1=v/\e.2.1=ev
 ·obtain⟨rfl,rfl⟩:=h;by_cases hp:pm e.1 e.2.1=true;·rw[if_pos hp,QcV,if_pos (And.intro rfl rfl),if_pos hp,if_pos (And.intro rfl rfl)]
  rw[if_neg hp,if_neg hp,a,if_neg hp]
 rw[if_neg h];by_cases hp:pm e.1 e.2.1=true;·rw[if_pos hp,QcV,if_neg h,a]
 rw[if_neg hp,a]
theorem QuB{q}{pm}(h:WfA q)(v):sOut (flt q pm).es tru v=q.al.filterMap (evF q pm v):=by rw[show sOut (flt q pm).es tru v=sOut (flt q pm).es (fun _=>true) v from rfl,QjM (Qef h)];show q.al.filterMap _=_;congr 1;funext ev;rw[Qr0];unfold evF;split<;>rfl
theorem QvN(h:WfA q){e}(he:e∈L.filterMap (evF q pm v)):e.2.2<q.n:=by
 obtain⟨ev,_,a⟩:=ZbC.1 he;unfold evF at a;split at a;·obtain⟨to,h1,rfl⟩:=Option.map_eq_some_iff.1 a;exact QeF h.esn h1
 cases a
def byE(q:Aut)(pe:List Ed)(P:List Nat)(ct:Nat->Bool)(pm:Nat->Nat->Bool)(v ev:Nat):Bool:=pm v ev&&(decide (stepI q.es v ev<0)&&(ct ev&&decide (0<=stepI pe (P.getD v 0) ev)))
def byO(q:Aut)(pe:List Ed)(P:List Nat)(ct:Nat->Bool)(pm:Nat->Nat->Bool)(o:List Nat):Bool:=o.any fun v=>q.al.any (byE q pe P ct pm v)
theorem QnB{l:List α}{f}{x}(h:l[k]?=some x):(l.take (k+1)).any f=((l.take k).any f||f x):=by rw[ZaS,h,Option.toList,List.any_append];simp
theorem Qtg{β:Type}{l:List α}{f:α->Option β}{x}(h:l[k]?=some x):(l.take (k+1)).filterMap f=(l.take k).filterMap f++(f x).toList:=by rw[ZaS,h,Option.toList,Zb4];congr 1
theorem Qpg{l:List Gdn}{ev:Int}(h:l.Pairwise fun y z=>y.ev<z.ev)(c:g∈l)(he:g.ev=ev):(!true||l.any fun g=>decide (g.ev=ev)&&inBs g.bs T)=inBs g.bs T:=by rw[Bool.not_true,Zcc];cases a:inBs g.bs T with|true=>exact Zba.2 ⟨g,c,by rw[decide_eq_true he,a];rfl⟩|false=>
 rw[Zbt];intro y d;by_cases b:y.ev=ev;·have :y=g:=Qpf h d c (by rw[b,he]);subst this;rw[a,ZbN];decide
 rw[decide_eq_false b,Zbk];decide
variable{q p:Aut}{A B:List (List Nat)}{P:List Nat}{F:List (Nat×Int×Int×Int)}{c:Cel}
theorem QuC{P}{L}(c:Prop)(key:c->∀n T h,Rec m E L T h->wS P N (.loop b) fs n T h Q)(h1:(c->∀n T h,Rec m E L T h->wS P N (.loop b) fs n T h Q)->G):G:=h1 key
theorem loop20(l:List Gdn)(n:Nat)(hw:WfA q)(hq0:0<q.n)(hel:q.es.length<=1000000)(hpe:p.es.length<=1000000)(hPl:P.length<=1000000)(hev:∀x∈q.al,x<5)(hl:l.length<=1000)(hn5:n<=1000)(hst:∀v,v<q.n->∃a b y,A[v]?=some a/\B[v]?=some b/\P[v]?=some y/\(a++b).length=n)(hbx:∀g∈l,g.bs.length<=1000/\∀y∈g.bs,y.lo.length=n/\y.hi.length=n)(hinc:l.Pairwise fun y z=>y.ev<z.ev)(pm:Nat->Nat->Bool)(R:pm=prmQ (ctC c) l (tplQ A B)):Ps 20 [.agg (wCl q A B P F p c),gdsV l] (.tup [aV (restr (flt q pm) tru),sliN (sAll (flt q pm) tru).1,.bool (byO q p.es P (ctC c) pm (sAll (flt q pm) tru).1)]):=by
 have hnw:=@Qdw q p A B P F c;have hal:q.al.length<=32:=QaV 32 q.al (by rw[ZaM];exact hw.al.imp fun h=>by omega) hw.al5;have hn4:=hw.n5;have hms:q.ms.length<=q.n:=QaV q.n q.ms hw.nd hw.msn;have hwf:WfA (flt q pm):=Qef hw;refine Zco 60 (Ok VK.s20) rfl (by rw[noRefs,noRef,hnw,noRefs,Qa0];rfl) (by simp only[noRef,noRefs,Qaa,Qaf];rfl) ?_;unfold VK.s20;refine ZcP ?_;have hms0:mks q 0 [0]=[]:=rfl;have J:SI q.n (flt q pm).es tru 0 (([0],[]):OE):=by refine⟨⟨by simp,fun x hx=>by simp at hx;omega⟩,fun x hx=>rfl,Zah _,fun j v hj=>by omega,by simp⟩
 have hq0':sQ (flt q pm).es tru (q.n+1) 0 ([0],[])=sAll (flt q pm) tru:=by unfold sAll;rw[if_pos (by show(decide (0<q.n)&&true)=true;rw[decide_eq_true hq0];rfl)];rfl
 refine Qas 180 (fun t:Nat×OE=>[(1,gdsV l),(2,.ptr 50 0 0),(4,.ptr 53 0 0),(7,.ptr 69 0 0),(8,.sl 75 0 0 t.2.1.length 1),(9,.bool (byO q p.es P (ctC c) pm (t.2.1.take t.1))),(10,.int .i64 t.1)]) (fun t=>[(50,.cells 0 (wCl q A B P F p c)),(53,.cells 0 [.nilsl,.int .i64 0,.nilsl,.nilsl]),(69,.cells 0 [sliN q.al,.int .i64 0,.sl 77 0 0 (mks q t.1 t.2.1).length 1,.sl 76 0 0 (t.2.2).length 3]),(75,.cells 0 (ints (nz (t.2.1)))),(76,.cells 0 ((t.2.2).flatMap edC)),(77,.cells 0 (ints (nz (mks q t.1 t.2.1))))]) (fun t=>t.1<=q.n/\SI q.n (flt q pm).es tru t.1 t.2/\t.2.2.length<=t.1*1000000/\sQ (flt q pm).es tru (q.n+1-t.1) t.1 t.2=sAll (flt q pm) tru) (fun t=>q.n+1-t.1) (0,([0],[])) 0 260 (fun _:Unit=>[(4,.ptr 53 0 0),(7,.ptr 69 0 0),(8,.sl 75 0 0 (sAll (flt q pm) tru).1.length 1),(9,.bool (byO q p.es P (ctC c) pm (sAll (flt q pm) tru).1))]) (fun _=>[(53,.cells 0 [.nilsl,.int .i64 0,.nilsl,.nilsl]),(69,.cells 0 [sliN q.al,.int .i64 0,.sl 77 0 0 (restr (flt q pm) tru).ms.length 1,.sl 76 0 0 (restr (flt q pm) tru).es.length 3]),(75,.cells 0 (ints (nz (sAll (flt q pm) tru).1))),(76,.cells 0 ((restr (flt q pm) tru).es.flatMap edC)),(77,.cells 0 (ints (nz (restr (flt q pm) tru).ms)))]) (fun _=>True) ?_ ⟨Zah _,J,Zah _,hq0'⟩ ?_ ?_;·dsimp only;rw[hms0];refine⟨[(50,.blk 60 0),(53,.blk 61 0),(69,.blk 69 0),(75,.blk 71 0),(76,.nil),(77,.nil)],rfl,au0,?_,au41⟩;exact Zcw rfl rfl gg (Zcn hnw) (Zcw rfl rfl gg (Zcn rfl) (Zcw rfl rfl gg (ZcC (Zcm (Qab _)) (ZcC (Zcm rfl) (ZcC (Rn.x4 rfl rfl) (ZcC (Rn.x4 rfl rfl) ZcB)))) (Zcw rfl rfl gg (Zcn (Qaa _)) (Zcx rfl rfl (Zcx rfl rfl Zcv)))))
 ·rintro⟨i,s⟩⟨hi,J,hsl,hq⟩;dsimp only at hi J hsl hq⊢;have hfl:=J.fi.len;have hile:=J.le;by_cases K:i<s.1.length
  ·obtain⟨v,hv⟩:=Qam K;have hvn:=J.fi.lt v (Zac hv);have hin':i<q.n:=by omega
   have hsi':=J.step hwf.esn hv;have hq':sQ (flt q pm).es tru (q.n+1-(i+1)) (i+1) (sRow (flt q pm).es tru i v s)=sAll (flt q pm) tru:=by rw[<-hq,show q.n+1-i=(q.n+1-(i+1))+1 by omega];simp only[sQ,hv]
   have hso:=@QuB q pm hw v;have Z:=fun k=>QcG (n:=q.n) (left:=tru) i ((q.al.take k).filterMap (evF q pm v)) s (fun e he=>⟨QvN hw he,rfl⟩) J.fi J.lft;have hml0:=@QdQ q i s.1;have hmsl:=@QdQ q (i+1) s.1;have hmn:=QeQ (a:=q) hv;have hmsk:∀k,mks q (i+1) (((q.al.take k).filterMap (evF q pm v)).foldl (sEd i) s).1=mks q (i+1) s.1:=fun k=>by obtain⟨_,_,⟨t,ht⟩,_⟩:=Z k;rw[ht,Qha K]
   have hRf:(q.al.filterMap (evF q pm v)).foldl (sEd i) s=sRow (flt q pm).es tru i v s:=by rw[<-hso];rfl
   have hfull:=hmsk q.al.length;rw[Zao,hRf]at hfull;have hbt:byO q p.es P (ctC c) pm ((sRow (flt q pm).es tru i v s).1.take (i+1))=(byO q p.es P (ctC c) pm (s.1.take i)||q.al.any (byE q p.es P (ctC c) pm v)):=by obtain⟨_,_,⟨t,ht⟩,_⟩:=Z q.al.length;rw[Zao,hRf]at ht;rw[ht,List.take_append_of_le_length (by omega)];exact QnB hv
   have hsl3:(sRow (flt q pm).es tru i v s).2.length=s.2.length+(sOut (flt q pm).es tru v).length:=QbZ _ _;have hol2:=Qcw (flt q pm).es tru v;have hfel:(flt q pm).es.length<=1000000:=Zaw (ZaY _ _) hel;have hc:=has63 (nz q.ms) v (by rw[Qb6];omega);rw[Qbg,Qd8]at hc;have hmx:(ints (nz (mks q i s.1))).length=(mks q i s.1).length*1:=by simp[ints]
   generalize byO q p.es P (ctC c) pm (s.1.take i)=W0 at*;refine ZcQ (Zc1 K (Qbh (nz_at hv))) ?_;refine cp hc ?_;have h75:(ints (nz s.1))[i]?=some (.int .i64 (v:Int)):=Qbh (nz_at hv);apply QnA (m:=0) (E:=[(1,gdsV l),(2,.ptr 50 0 0),(4,.ptr 53 0 0),(7,.ptr 69 0 0),(8,.sl 75 0 0 (((q.al.take 0).filterMap (evF q pm v)).foldl (sEd i) s).1.length 1),(9,.bool (W0||(q.al.take 0).any (byE q p.es P (ctC c) pm v))),(10,.int .i64 i),(11,.int .i64 (0:Nat))]) (L:=[(50,.cells 0 (wCl q A B P F p c)),(53,.cells 0 [.nilsl,.int .i64 0,.nilsl,.nilsl]),(69,.cells 0 [sliN q.al,.int .i64 0,.sl 77 0 0 (mks q (i+1) s.1).length 1,.sl 76 0 0 ((((q.al.take 0).filterMap (evF q pm v)).foldl (sEd i) s).2).length 3]),(75,.cells 0 (ints (nz ((((q.al.take 0).filterMap (evF q pm v)).foldl (sEd i) s).1)))),(76,.cells 0 (((((q.al.take 0).filterMap (evF q pm v)).foldl (sEd i) s).2).flatMap edC)),(77,.cells 0 (ints (nz (mks q (i+1) s.1))))]) (q.ms.contains v);rotate_left;·intro T key;rw[if_pos T]at hmn;rw[T];refine ZcQ (Zc2 K h75 hmx) ?_;refine key _ _ _ ?_;rw[hmn,ZbL,List.filterMap_nil,List.foldl_nil,List.any_nil,Zb6];rw[Zaf,QaM,QaB];refine⟨[(50,.blk 50 0),(53,.blk 53 0),(69,.blk 69 0),(75,.blk 75 0),(76,.blk 76 0),(77,.blk 77 1)],rfl,au0,?_,au41⟩;exact Zcw rfl rfl gg (Zcn hnw) (Zcw rfl rfl gg (Zcn rfl) (Zcw rfl rfl gg (ZcC (Zcm (Qab _)) (ZcC (Zcm rfl) (ZcC (Rn.x1 rfl rfl) (ZcC (Rn.x1 rfl rfl) ZcB)))) (Zcw rfl rfl gg (Zcn (Qaa _)) (Zcw rfl rfl gg (Zcn (Qaf _)) (Zcw rfl rfl gg (Zcn (SU.Qat (Qaa _) (Qaa _))) Zcv)))))
   ·intro T key;rw[if_neg (by rw[T];decide),Zas]at hmn;rw[T];refine ZcQ (Zc2 K h75 hmx) ?_;refine key _ _ _ ?_;rw[hmn,ZbL,List.filterMap_nil,List.foldl_nil,List.any_nil,Zb6];exact bcCPY
   intro nn0 TT0 hh0 hrec;refine Qas 300 (fun k:Nat=>[(1,gdsV l),(2,.ptr 50 0 0),(4,.ptr 53 0 0),(7,.ptr 69 0 0),(8,.sl 75 0 0 (((q.al.take k).filterMap (evF q pm v)).foldl (sEd i) s).1.length 1),(9,.bool (W0||(q.al.take k).any (byE q p.es P (ctC c) pm v))),(10,.int .i64 i),(11,.int .i64 k)]) (fun k=>[(50,.cells 0 (wCl q A B P F p c)),(53,.cells 0 [.nilsl,.int .i64 0,.nilsl,.nilsl]),(69,.cells 0 [sliN q.al,.int .i64 0,.sl 77 0 0 (mks q (i+1) s.1).length 1,.sl 76 0 0 ((((q.al.take k).filterMap (evF q pm v)).foldl (sEd i) s).2).length 3]),(75,.cells 0 (ints (nz ((((q.al.take k).filterMap (evF q pm v)).foldl (sEd i) s).1)))),(76,.cells 0 (((((q.al.take k).filterMap (evF q pm v)).foldl (sEd i) s).2).flatMap edC)),(77,.cells 0 (ints (nz (mks q (i+1) s.1))))]) (fun k=>k<=q.al.length) (fun k=>q.al.length-k) 0 2 700 (fun _:Unit=>[(1,gdsV l),(2,.ptr 50 0 0),(4,.ptr 53 0 0),(7,.ptr 69 0 0),(8,.sl 75 0 0 (sRow (flt q pm).es tru i v s).1.length 1),(9,.bool (W0||q.al.any (byE q p.es P (ctC c) pm v))),(10,.int .i64 i)]) (fun _=>[(50,.cells 0 (wCl q A B P F p c)),(53,.cells 0 [.nilsl,.int .i64 0,.nilsl,.nilsl]),(69,.cells 0 [sliN q.al,.int .i64 0,.sl 77 0 0 (mks q (i+1) s.1).length 1,.sl 76 0 0 ((sRow (flt q pm).es tru i v s).2).length 3]),(75,.cells 0 (ints (nz ((sRow (flt q pm).es tru i v s).1)))),(76,.cells 0 (((sRow (flt q pm).es tru i v s).2).flatMap edC)),(77,.cells 0 (ints (nz (mks q (i+1) s.1))))]) (fun _=>True) hrec (Zah _) ?_ ?_
   ·rintro k hk;by_cases Q:k<q.al.length
    ·obtain⟨ev,Y⟩:=Qam Q;have he5:=hev ev (Zac Y);have G:=QeX c.ev he5;have O:5<=((evsC c.ev).drop (ev*5)).length:=by rw[G];simp
     have I:(ev:Int)<5:=by omega
     have L:=Qbh (nz_at Y);have E:=QaJ Y;obtain⟨k1,_,⟨tt,htt⟩,_,_⟩:=Z k;have hfi:=k1.len;have hnd:=k1.nd;have hsl2:=QbZ (i:=i) ((q.al.take k).filterMap (evF q pm v)) s;have hfll:((q.al.take k).filterMap (evF q pm v)).length<=q.al.length:=by have h1:=ZbS (evF q pm v) (q.al.take k);rw[Zar]at h1;omega
     have d:((q.al.take (k+1)).filterMap (evF q pm v)).foldl (sEd i) s=(evF q pm v ev).toList.foldl (sEd i) (((q.al.take k).filterMap (evF q pm v)).foldl (sEd i) s):=by rw[Qtg Y,Za0]
     have m:(W0||(q.al.take (k+1)).any (byE q p.es P (ctC c) pm v))=((W0||(q.al.take k).any (byE q p.es P (ctC c) pm v))||byE q p.es P (ctC c) pm v ev):=by rw[QnB Y,Bool.or_assoc]
     have hvt:(((q.al.take k).filterMap (evF q pm v)).foldl (sEd i) s).1[i]?=some v:=by rw[htt,Za1 K];exact hv
     have u:=(Zai.1 hvt).1;have H:=Qbh (nz_at hvt);obtain⟨a,bb,y,hA,hB,hP,hab⟩:=hst v hvn;rw[Zaf]at hab;have hs:=step60 q v ev hel;have hpos:=@possible56 q p A B P F c v ev y hP hpe hPl;have htu:=@tuple58 q p A B P F c v a bb hA hB (by omega) (by omega);generalize((q.al.take k).filterMap (evF q pm v)).foldl (sEd i) s=t at*;generalize(q.al.take k).any (byE q p.es P (ctC c) pm v)=Wk at*;have hel2:=Qbx t.2;cases hz:stepA q.es v ev with
     |none=>
      have N:stepI q.es v ev=-1:=by unfold stepI;rw[hz]
      rw[N]at hs;cases w:(c.ev ev).c with
      |false=>
       have o:pm v ev=true:=by rw[R];unfold prmQ;rw[show ctC c ev=false from w];rfl
       rw[w]at G;refine ZcQ (Zc7 Q L E I G O u H) ?_;refine cp hs ?_;have M:evF q pm v ev=none:=by unfold evF;rw[if_pos o,hz];rfl
       have C:byE q p.es P (ctC c) pm v ev=(ctC c ev&&decide (0<=stepI p.es y ev)):=by unfold byE;rw[N,o,Qaz hP];rfl
       rw[M]at d;have d:((q.al.take (k+1)).filterMap (evF q pm v)).foldl (sEd i) s=t:=d;rw[C,show ctC c ev=_ from w]at m;cases hW:(W0||Wk)with|true=>rw[hW]at m;have m:(W0||(q.al.take (k+1)).any (byE q p.es P (ctC c) pm v))=true:=m;refine ZcP ?_;refine⟨k+1,by omega,by omega,?_⟩;rw[d,m];refine⟨[(50,.blk 50 0),(53,.blk 53 0),(69,.blk 69 0),(75,.blk 75 0),(76,.blk 76 0),(77,.blk 77 0)],rfl,au0,?_,au41⟩;exact Zcw rfl rfl gg (Zcn hnw) (Zcw rfl rfl gg (Zcn rfl) (Zcw rfl rfl gg (ZcC (Zcm (Qab _)) (ZcC (Zcm rfl) (ZcC (Rn.x1 rfl rfl) (ZcC (Rn.x1 rfl rfl) ZcB)))) (Zcw rfl rfl gg (Zcn (Qaa _)) (Zcw rfl rfl gg (Zcn (Qaf _)) (Zcw rfl rfl gg (Zcn (Qaa _)) Zcv)))))|false=>rw[hW,Zcc]at m;have m:(W0||(q.al.take (k+1)).any (byE q p.es P (ctC c) pm v))=false:=m;refine ZcQ (Zc5 E I G O u H) ?_;refine⟨k+1,by omega,by omega,?_⟩;rw[d,m];refine⟨[(50,.blk 50 0),(53,.blk 53 0),(69,.blk 69 0),(75,.blk 75 0),(76,.blk 76 0),(77,.blk 77 0)],rfl,au0,?_,au41⟩;exact Zcw rfl rfl gg (Zcn hnw) (Zcw rfl rfl gg (Zcn rfl) (Zcw rfl rfl gg (ZcC (Zcm (Qab _)) (ZcC (Zcm rfl) (ZcC (Rn.x1 rfl rfl) (ZcC (Rn.x1 rfl rfl) ZcB)))) (Zcw rfl rfl gg (Zcn (Qaa _)) (Zcw rfl rfl gg (Zcn (Qaf _)) (Zcw rfl rfl gg (Zcn (Qaa _)) Zcv)))))
      |true=>
       rw[w]at G;obtain⟨kk,hf1,hf2⟩:=find61 l (ev:Int) hl;refine ZcQ (Zc7 Q L E I G O u H) ?_;refine cp hf1 ?_;rcases hf2 with⟨rfl,hno⟩|⟨f,g,rfl,hf,hge,_⟩
       ·exact bxjTk
       have hlf:=(Zai.1 hf).1;have V:=Zac hf;obtain⟨hb1,hb2⟩:=hbx g V;have hwi:=within40 g.bs (nz (a++bb)) (by omega) (fun y hy=>by rw[Qb6,Zaf,hab];exact hb2 y hy) (by rw[Qb6,Zaf];omega);rw[Qbg]at hwi;have hT:tplQ A B v=nz (a++bb):=by unfold tplQ;rw[Qaz hA,Qaz hB]
       have X:pm v ev=inBs g.bs (nz (a++bb)):=by rw[R];unfold prmQ;rw[show ctC c ev=true from w,hT];exact Qpg hinc V hge
       have hdg:=Qcf hf;have hdk:2<=((l.flatMap gdC).drop (f*2)).length:=by rw[hdg];simp
       have hfi:(f:Int)<(l.length:Int):=by omega
       have hnf:¬(f:Int)<0:=by omega
       refine ZcQ (Zc6 hlf hfi hnf hdg hdk u H) ?_;refine cp htu ?_;refine ZcP ?_;refine cp hwi ?_;rw[<-X];cases o:pm v ev with|false=>
        have M:evF q pm v ev=none:=by unfold evF;rw[if_neg (by rw[o];decide)]
        have C:byE q p.es P (ctC c) pm v ev=false:=by unfold byE;rw[o];rfl
        rw[M]at d;rw[C,Zb6]at m;have d:((q.al.take (k+1)).filterMap (evF q pm v)).foldl (sEd i) s=t:=d;refine ZcP ?_;refine⟨k+1,by omega,by omega,?_⟩;rw[d,m];refine⟨[(50,.blk 50 0),(53,.blk 53 0),(69,.blk 69 0),(75,.blk 75 0),(76,.blk 76 0),(77,.blk 77 0)],rfl,au0,?_,au41⟩;exact Zcw rfl rfl gg (Zcn hnw) (Zcw rfl rfl gg (Zcn rfl) (Zcw rfl rfl gg (ZcC (Zcm (Qab _)) (ZcC (Zcm rfl) (ZcC (Rn.x1 rfl rfl) (ZcC (Rn.x1 rfl rfl) ZcB)))) (Zcw rfl rfl gg (Zcn (Qaa _)) (Zcw rfl rfl gg (Zcn (Qaf _)) (Zcw rfl rfl gg (Zcn (Qaa _)) Zcv)))))|true=>
        refine ZcQ (Zc2 E u H) ?_;refine cp hs ?_;have M:evF q pm v ev=none:=by unfold evF;rw[if_pos o,hz];rfl
        have C:byE q p.es P (ctC c) pm v ev=(ctC c ev&&decide (0<=stepI p.es y ev)):=by unfold byE;rw[N,o,Qaz hP];rfl
        rw[M]at d;have d:((q.al.take (k+1)).filterMap (evF q pm v)).foldl (sEd i) s=t:=d;rw[C,show ctC c ev=_ from w]at m;cases hW:(W0||Wk)with|true=>rw[hW]at m;have m:(W0||(q.al.take (k+1)).any (byE q p.es P (ctC c) pm v))=true:=m;refine ZcP ?_;refine⟨k+1,by omega,by omega,?_⟩;rw[d,m];refine⟨[(50,.blk 50 0),(53,.blk 53 0),(69,.blk 69 0),(75,.blk 75 0),(76,.blk 76 0),(77,.blk 77 0)],rfl,au0,?_,au41⟩;exact Zcw rfl rfl gg (Zcn hnw) (Zcw rfl rfl gg (Zcn rfl) (Zcw rfl rfl gg (ZcC (Zcm (Qab _)) (ZcC (Zcm rfl) (ZcC (Rn.x1 rfl rfl) (ZcC (Rn.x1 rfl rfl) ZcB)))) (Zcw rfl rfl gg (Zcn (Qaa _)) (Zcw rfl rfl gg (Zcn (Qaf _)) (Zcw rfl rfl gg (Zcn (Qaa _)) Zcv)))))|false=>rw[hW,Zcc]at m;have m:(W0||(q.al.take (k+1)).any (byE q p.es P (ctC c) pm v))=decide (0<=stepI p.es y ev):=m;refine ZcQ (Zc5 E I G O u H) ?_;refine cp hpos ?_;refine ZcP ?_;refine⟨k+1,by omega,by omega,?_⟩;rw[d,m];refine⟨[(50,.blk 50 0),(53,.blk 53 0),(69,.blk 69 0),(75,.blk 75 0),(76,.blk 76 0),(77,.blk 77 0)],rfl,au0,?_,au41⟩;exact Zcw rfl rfl gg (Zcn hnw) (Zcw rfl rfl gg (Zcn rfl) (Zcw rfl rfl gg (ZcC (Zcm (Qab _)) (ZcC (Zcm rfl) (ZcC (Rn.x1 rfl rfl) (ZcC (Rn.x1 rfl rfl) ZcB)))) (Zcw rfl rfl gg (Zcn (Qaa _)) (Zcw rfl rfl gg (Zcn (Qaf _)) (Zcw rfl rfl gg (Zcn (Qaa _)) Zcv)))))
     |some to=>
      have N:stepI q.es v ev=(to:Int):=by unfold stepI;rw[hz]
      have hto0:¬(to:Int)<0:=by omega
      rw[N]at hs;apply QuC (m:=0) (E:=[(1,gdsV l),(2,.ptr 50 0 0),(4,.ptr 53 0 0),(7,.ptr 69 0 0),(8,.sl 75 0 0 t.1.length 1),(9,.bool (W0||Wk)),(10,.int .i64 i),(11,.int .i64 k),(12,.int .i64 (ev:Int)),(14,.int .i64 (to:Int)),(15,.int .i64 (0:Nat))]) (L:=[(50,.cells 0 (wCl q A B P F p c)),(53,.cells 0 [.nilsl,.int .i64 0,.nilsl,.nilsl]),(69,.cells 0 [sliN q.al,.int .i64 0,.sl 77 0 0 (mks q (i+1) s.1).length 1,.sl 76 0 0 (t.2).length 3]),(75,.cells 0 (ints (nz (t.1)))),(76,.cells 0 ((t.2).flatMap edC)),(77,.cells 0 (ints (nz (mks q (i+1) s.1))))]) (pm v ev=true)
      rotate_left;·intro key;cases w:(c.ev ev).c with|false=>
       have o:pm v ev=true:=by rw[R];unfold prmQ;rw[show ctC c ev=false from w];rfl
       rw[w]at G;refine ZcQ (Zc7 Q L E I G O u H) ?_;refine cp hs ?_;refine ZcQ hto0 ?_;refine key o _ _ _ ?_;refine⟨[(50,.blk 50 0),(53,.blk 53 0),(69,.blk 69 0),(75,.blk 75 0),(76,.blk 76 0),(77,.blk 77 0)],rfl,au0,?_,au41⟩;exact Zcw rfl rfl gg (Zcn hnw) (Zcw rfl rfl gg (Zcn rfl) (Zcw rfl rfl gg (ZcC (Zcm (Qab _)) (ZcC (Zcm rfl) (ZcC (Rn.x1 rfl rfl) (ZcC (Rn.x1 rfl rfl) ZcB)))) (Zcw rfl rfl gg (Zcn (Qaa _)) (Zcw rfl rfl gg (Zcn (Qaf _)) (Zcw rfl rfl gg (Zcn (Qaa _)) Zcv)))))|true=>
       rw[w]at G;obtain⟨kk,hf1,hf2⟩:=find61 l (ev:Int) hl;refine ZcQ (Zc7 Q L E I G O u H) ?_;refine cp hf1 ?_;rcases hf2 with⟨rfl,hno⟩|⟨f,g,rfl,hf,hge,_⟩
       ·exact bxjTk
       have hlf:=(Zai.1 hf).1;have V:=Zac hf;obtain⟨hb1,hb2⟩:=hbx g V;have hwi:=within40 g.bs (nz (a++bb)) (by omega) (fun y hy=>by rw[Qb6,Zaf,hab];exact hb2 y hy) (by rw[Qb6,Zaf];omega);rw[Qbg]at hwi;have hT:tplQ A B v=nz (a++bb):=by unfold tplQ;rw[Qaz hA,Qaz hB]
       have X:pm v ev=inBs g.bs (nz (a++bb)):=by rw[R];unfold prmQ;rw[show ctC c ev=true from w,hT];exact Qpg hinc V hge
       have hdg:=Qcf hf;have hdk:2<=((l.flatMap gdC).drop (f*2)).length:=by rw[hdg];simp
       have hfi:(f:Int)<(l.length:Int):=by omega
       have hnf:¬(f:Int)<0:=by omega
       refine ZcQ (Zc6 hlf hfi hnf hdg hdk u H) ?_;refine cp htu ?_;refine ZcP ?_;refine cp hwi ?_;rw[<-X];cases o:pm v ev with|false=>
        have M:evF q pm v ev=none:=by unfold evF;rw[if_neg (by rw[o];decide)]
        have C:byE q p.es P (ctC c) pm v ev=false:=by unfold byE;rw[o];rfl
        rw[M]at d;rw[C,Zb6]at m;have d:((q.al.take (k+1)).filterMap (evF q pm v)).foldl (sEd i) s=t:=d;refine ZcP ?_;refine⟨k+1,by omega,by omega,?_⟩;rw[d,m];refine⟨[(50,.blk 50 0),(53,.blk 53 0),(69,.blk 69 0),(75,.blk 75 0),(76,.blk 76 0),(77,.blk 77 0)],rfl,au0,?_,au41⟩;exact Zcw rfl rfl gg (Zcn hnw) (Zcw rfl rfl gg (Zcn rfl) (Zcw rfl rfl gg (ZcC (Zcm (Qab _)) (ZcC (Zcm rfl) (ZcC (Rn.x1 rfl rfl) (ZcC (Rn.x1 rfl rfl) ZcB)))) (Zcw rfl rfl gg (Zcn (Qaa _)) (Zcw rfl rfl gg (Zcn (Qaf _)) (Zcw rfl rfl gg (Zcn (Qaa _)) Zcv)))))|true=>refine ZcQ (Zc2 E u H) ?_;refine cp hs ?_;refine ZcQ hto0 ?_;refine key o _ _ _ ?_;refine⟨[(50,.blk 50 0),(53,.blk 53 0),(69,.blk 69 0),(75,.blk 75 0),(76,.blk 76 0),(77,.blk 77 0)],rfl,au0,?_,au41⟩;exact Zcw rfl rfl gg (Zcn hnw) (Zcw rfl rfl gg (Zcn rfl) (Zcw rfl rfl gg (ZcC (Zcm (Qab _)) (ZcC (Zcm rfl) (ZcC (Rn.x1 rfl rfl) (ZcC (Rn.x1 rfl rfl) ZcB)))) (Zcw rfl rfl gg (Zcn (Qaa _)) (Zcw rfl rfl gg (Zcn (Qaf _)) (Zcw rfl rfl gg (Zcn (Qaa _)) Zcv)))))
      intro o nn TT hh hrec;have M:evF q pm v ev=some (v,ev,to):=by unfold evF;rw[if_pos o,hz];rfl
      have C:byE q p.es P (ctC c) pm v ev=false:=by unfold byE;rw[N,decide_eq_false (by omega),Zbk,ZbN]
      rw[M]at d;rw[C,Zb6]at m;have d:((q.al.take (k+1)).filterMap (evF q pm v)).foldl (sEd i) s=sEd i t (v,ev,to):=d;generalize(W0||Wk)=W at*;refine Qas 500 (fun U:Nat=>[(1,gdsV l),(2,.ptr 50 0 0),(4,.ptr 53 0 0),(7,.ptr 69 0 0),(8,.sl 75 0 0 t.1.length 1),(9,.bool W),(10,.int .i64 i),(11,.int .i64 k),(12,.int .i64 (ev:Int)),(14,.int .i64 (to:Int)),(15,.int .i64 (U:Nat))]) (fun _=>[(50,.cells 0 (wCl q A B P F p c)),(53,.cells 0 [.nilsl,.int .i64 0,.nilsl,.nilsl]),(69,.cells 0 [sliN q.al,.int .i64 0,.sl 77 0 0 (mks q (i+1) s.1).length 1,.sl 76 0 0 (t.2).length 3]),(75,.cells 0 (ints (nz (t.1)))),(76,.cells 0 ((t.2).flatMap edC)),(77,.cells 0 (ints (nz (mks q (i+1) s.1))))]) (fun U=>U<=idx t.1 to) (fun U=>t.1.length-U) 0 4 560 (fun _:Unit=>[(1,gdsV l),(2,.ptr 50 0 0),(4,.ptr 53 0 0),(7,.ptr 69 0 0),(8,.sl 75 0 0 t.1.length 1),(9,.bool W),(10,.int .i64 i),(11,.int .i64 k),(12,.int .i64 (ev:Int)),(14,.int .i64 (to:Int)),(15,.int .i64 (idx t.1 to:Nat))]) (fun _=>[(50,.cells 0 (wCl q A B P F p c)),(53,.cells 0 [.nilsl,.int .i64 0,.nilsl,.nilsl]),(69,.cells 0 [sliN q.al,.int .i64 0,.sl 77 0 0 (mks q (i+1) s.1).length 1,.sl 76 0 0 (t.2).length 3]),(75,.cells 0 (ints (nz (t.1)))),(76,.cells 0 ((t.2).flatMap edC)),(77,.cells 0 (ints (nz (mks q (i+1) s.1))))]) (fun _=>True) hrec (Zah _) ?_ ?_
      ·rintro U hnx;have S:=Qu3 t.1 to;by_cases hln:U<t.1.length
       ·obtain⟨x,hx⟩:=Qam hln;by_cases hxe:x=to
        ·have hix:idx t.1 to=U:=QuA hnd (by rw[hx,hxe]);have hxi:(x:Int)=(to:Int):=by omega
         rw[hix];refine ZcQ (Zc2 hln (Qbh (nz_at hx)) hxi) ?_;exact bKmiI
        have hix:U≠idx t.1 to:=fun e=>hxe (by have :=Quz (l:=t.1) (x:=to) (by omega);rw[<-e,hx]at this;exact Option.some.inj this);have hxi:¬(x:Int)=(to:Int):=by omega
        refine ZcQ (Zc2 hln (Qbh (nz_at hx)) hxi) ?_;refine⟨U+1,by omega,by omega,?_⟩;exact bcCPY
       have hix:idx t.1 to=U:=by omega
       rw[hix];refine ZcQ hln ?_;exact bKmiI
      rintro _ _;by_cases hcm:to∈t.1
      ·have S:=SE.Qfl hcm;have h2:sEd i t (v,ev,to)=(t.1,t.2++[(i,ev,idx t.1 to)]):=if_pos (by simpa using hcm);rw[h2]at d;have hne:¬((idx t.1 to:Nat):Int)=(t.1.length:Int):=by omega
       refine ZcQ (Zc1 hne hel2) ?_;refine⟨k+1,by omega,by omega,?_⟩;rw[d,m,Zan,Zaf];refine⟨[(50,.blk 50 0),(53,.blk 53 0),(69,.blk 69 0),(75,.blk 75 0),(76,.blk 76 1),(77,.blk 77 0)],rfl,au0,?_,au41⟩;exact Zcw rfl rfl gg (Zcn hnw) (Zcw rfl rfl gg (Zcn rfl) (Zcw rfl rfl gg (ZcC (Zcm (Qab _)) (ZcC (Zcm rfl) (ZcC (Rn.x1 rfl rfl) (ZcC (Rn.x1 rfl rfl) ZcB)))) (Zcw rfl rfl gg (Zcn (Qaa _)) (Zcw rfl rfl gg (Zcn (SU.Qat (Qaf _) (Qaf [_]))) (Zcw rfl rfl gg (Zcn (Qaa _)) Zcv)))))
      have S:idx t.1 to=t.1.length:=QoV hcm;have h2:sEd i t (v,ev,to)=(t.1++[to],t.2++[(i,ev,t.1.length)]):=if_neg (by simpa using hcm);rw[h2]at d;refine ZcQ (Zc1 S hel2) ?_;refine⟨k+1,by omega,by omega,?_⟩;rw[d,m,Zan,Zaf];dsimp only;rw[Zaf,QaM,QaB];refine⟨[(50,.blk 50 0),(53,.blk 53 0),(69,.blk 69 0),(75,.blk 75 1),(76,.blk 76 1),(77,.blk 77 0)],rfl,au0,?_,au41⟩;exact Zcw rfl rfl gg (Zcn hnw) (Zcw rfl rfl gg (Zcn rfl) (Zcw rfl rfl gg (ZcC (Zcm (Qab _)) (ZcC (Zcm rfl) (ZcC (Rn.x1 rfl rfl) (ZcC (Rn.x1 rfl rfl) ZcB)))) (Zcw rfl rfl gg (Zcn (SU.Qat (Qaa _) (Qaa _))) (Zcw rfl rfl gg (Zcn (SU.Qat (Qaf _) (Qaf [_]))) (Zcw rfl rfl gg (Zcn (Qaa _)) Zcv)))))
    have e:k=q.al.length:=by omega
    subst e;refine ZcW Q ?_;refine⟨(),?_⟩;rw[hRf];exact bcCPY
   rintro _ _;refine ZcP ?_;refine⟨(i+1,sRow (flt q pm).es tru i v s),by dsimp only;omega,⟨hin',hsi',by dsimp only;omega,hq'⟩,?_⟩;dsimp only;rw[hfull,hbt];exact bcCPY
  have hv:s.1[i]?=none:=Zax (by omega);have hqf:s=sAll (flt q pm) tru:=by rw[<-hq,show q.n+1-i=(q.n-i)+1 by omega];simp only[sQ,hv]
  have S:i=s.1.length:=by omega
  have hmf:mks q i s.1=(restr (flt q pm) tru).ms:=by rw[S,hqf];rfl
  have hef:s.2=(restr (flt q pm) tru).es:=by rw[hqf];rfl
  have htk:s.1.take i=s.1:=by rw[S,Zao]
  refine ZcQ K ?_;refine⟨(),?_⟩;rw[hmf,hef,htk,<-hqf];exact bCMRu
 rintro _ _;have hra:(restr (flt q pm) tru).al=q.al:=rfl;have hrn2:(restr (flt q pm) tru).n=(sAll (flt q pm) tru).1.length:=rfl;refine ZcP ?_;refine⟨.inr trivial,_,rfl,?_⟩;refine Rn.tup (ZcC (Rn.agg (ZcC (Zcm (Qab _)) (ZcC (Zcm rfl) (ZcC (ZcE gg (by simp[ints,nz]) (Zcn (Qaa _))) (ZcC (ZcE gg (Qbx _) (Zcn (Qaf _))) ZcB))))) (ZcC (ZcE gg (by simp[ints,nz]) (Zcn (Qaa _))) (ZcC (Zcm rfl) ZcB)))
end Go.AM.SO
namespace Go.AM.SO
open Go.Proofs Go.AM.SD Go.AM.SE
variable{q x:Aut}{b:Bxn}{c:Cel}{g:Gdn}{v:List (List UInt8×Int)}{d es:List Ed}{l own:List Gdn}{a t:List Nat}{i o:Nat}{left:Nat->Bool}{fd:Nat->Int}{f:Nat->List Ed}{pm:Nat->Nat->Bool}{α:Type}
theorem edges46(x)(h:WfA x)(g:x.es.length<=1000000):Ps 46 [aV x] (emV x):=by
 refine Zco 64 (Ok VK.s46) rfl (by(try simp only[noRefs,Qaa,Qaf,noRef,noRefs,Qay,Qau,QaC,QaT,QaG,Zae,Zad])<;>rfl) (QbC x) ?_;unfold VK.s46;refine ZcP ?_;refine Qas 100 (fun j:Nat=>[(3,.map 77 0),(8,egsN x.es),(9,.int .i64 x.es.length),(10,.int .i64 j)]) (fun j=>[(77,.map 0 (mapG kP (vE x.es) ((x.es.take j).map pE)))]) (fun j=>j<=x.es.length) (fun j=>x.es.length-j) 0 0 200 (fun _:Unit=>[(3,emV x)]) (fun _=>[]) (fun _=>True) ?_ (Zah _) ?_ ?_;·refine⟨[(77,.blk 66 0)],rfl,au0,?_,au41⟩;exact Zcy rfl rfl gg (ZcO fun _ _=>⟨rfl,rfl⟩) Zcv
 ·rintro j i;by_cases a:j<x.es.length
  ·obtain⟨e,he⟩:=Qam a;have d:=QaQ he;have c:3<=((x.es.flatMap edC).drop (j*3)).length:=by rw[d];simp
   have b:=Qnj h.es he;have f:=QrB h.es (Zac he);refine ZcQ (Zc2 a d c) ?_;refine Qck (c:=kP) (f:=vE x.es) (x:=(e.1,e.2.1)) (l:=(x.es.take j).map pE) (g:=0) gg Qfu b (by omega) ?_;rw[f];refine ZcP ?_;refine⟨j+1,by omega,by omega,?_⟩;rw[take_succ' he,ZaI];refine⟨[(77,.blk 77 0)],rfl,au0,?_,au41⟩;exact Zcy rfl rfl gg (ZcO fun _ _=>⟨rfl,rfl⟩) Zcv
  have e:j=x.es.length:=by omega
  subst e;refine ZcW a ?_;exact⟨(),[],rfl,Zcs,Zcv,Zcu (Rn.fzM (b:=77) (g:=0) gg rfl rfl fun _ _=>⟨rfl,rfl⟩) Zct⟩
 rintro _ _;refine ZcP ?_;exact⟨.inr trivial,_,rfl,Zcm (QbC x)⟩
theorem Qjt:∀{es:List Ed}{d:Ed},d∈es->(stepA es d.1 d.2.1).isSome=true
 |x::es,d,h=>by
  rw[QcV];split;·rfl
  rcases Zaz.1 h with rfl|h;·rename_i a;exact absurd ⟨rfl,rfl⟩ a
  exact Qjt h
theorem has50(x)(s e:Nat):Ps 50 [emV x,.int .i64 (s:Int),.int .i64 (e:Int)] (.bool (decide (0<=stepI x.es s e))):=by
 refine Zcp 64 (Ok VK.s50) rfl (by rw[noRefs,QbC];rfl) rfl ?_;have f:decide (0<=stepI x.es s e)=(stepA x.es s e).isSome:=by unfold stepI;cases stepA x.es s e with|none=>rfl|some to=>exact decide_eq_true (Zbf _)
 rw[f];unfold VK.s50;refine ZcP ?_;cases a:stepA x.es s e with|none=>
  have hk:(s,e)∉x.es.map pE:=fun hm=>by obtain⟨d,g,b⟩:=Zap.1 hm;unfold pE at b;simp only[Zal]at b;have c:=Qjt g;rw[b.1,b.2,a]at c;cases c
  refine Qge (c:=kP) (f:=vE x.es) (x:=(s,e)) (l:=x.es.map pE) Qfu hk ?_;refine ZcP ?_;exact⟨.inr trivial,_,rfl,rfl⟩|some to=>refine QeT (c:=kP) (f:=vE x.es) (x:=(s,e)) (l:=x.es.map pE) Qfu (Qdg a) ?_;refine ZcP ?_;exact⟨.inr trivial,_,rfl,rfl⟩
abbrev Qc(c:Cel):Aut:=syncA (allA c)
abbrev Tc(c:Cel):List (List Nat):=(sync0 (allA c)).1
abbrev Pc(c:Cel):Aut:=syncA (auL c.cs)
theorem QuD(c):(vrsL c).map (·.2)=(allA c).map fun a=>(a.n:Int)-1:=by unfold vrsL allA auL;simp[ZaI,List.map_map,Function.comp_def,vrI]
theorem wB_c(h:WfCel c):WfB (Qc c):=QdU (Qcl h) (by rw[Qcd];have:=h.c3;have:=h.r2;omega)
theorem wP_c(h:WfCel c):WfB (Pc c):=QdU (Qbn h) (by have:=h.c3;simp[auL];omega)
theorem q0_c:0<(Qc c).n:=by obtain⟨t,a⟩:=@sync_pre (allA c);show 0<(sync0 (allA c)).1.length;rw[<-a];simp
theorem tup_c(h:WfCel c)(l:t∈Tc c):t.length=(vrsL c).length/\∀(j:Nat)x,(vrsL c)[j]?=some x->0<=(nz t).getD j 0/\(nz t).getD j 0<=x.2:=by
 have f:=(Qeu (fun a b=>(Qcl h a b).pos) (fun a b=>(Qcl h a b).wf.esn)).inT t l;have m:(vrsL c).length=(allA c).length:=by rw[Qio,Qcd]
 refine⟨by rw[f.1,m],fun j x g=>?_⟩;have n:=(Zai.1 g).1;obtain⟨a,b⟩:=Qam (l:=allA c) (i:=j) (by omega);have k:=f.2 j a b;have d:((vrsL c).map (·.2))[j]?=some ((a.n:Int)-1):=by rw[QuD,ZaA,b];rfl
 rw[ZaA,g]at d;have d:x.2=(a.n:Int)-1:=Option.some.inj d;obtain⟨y,i⟩:=Qam (l:=t) (i:=j) (by rw[f.1];omega);rw[Qaz i]at k;rw[Qaz (nz_at i),d];omega
theorem wld_c(h:WfCel c)(v)(d:v<(Qc c).n):∃t y,(Tc c)[v]?=some t/\(spA c (Tc c))[v]?=some (t.take c.cs.length)/\(spB c (Tc c))[v]?=some (t.drop c.cs.length)/\(spP c (sync0 (auL c.cs)).1 (Tc c))[v]?=some y/\t.length=(vrsL c).length/\c.cs.length<=t.length/\tplQ (spA c (Tc c)) (spB c (Tc c)) v=nz t:=by
 obtain⟨t,a⟩:=Qam (l:=Tc c) d;obtain⟨h1,_⟩:=tup_c h (Zac a);have hA:(spA c (Tc c))[v]?=some (t.take c.cs.length):=by unfold spA;rw[ZaA,a];rfl
 have b:(spB c (Tc c))[v]?=some (t.drop c.cs.length):=by unfold spB;rw[ZaA,a];rfl
 refine⟨t,_,a,hA,b,by unfold spP;rw[ZaA,a];rfl,h1,by rw[h1,Qio];omega,?_⟩;unfold tplQ;rw[Qaz hA,Qaz b,Zbg]
structure GOk(ct:Nat->Bool)(v:List (List UInt8×Int))(l:List Gdn):Prop where
 inc:l.Pairwise fun y z=>y.ev<z.ev
 ev:∀g∈l,(0<=g.ev/\g.ev<5)/\ct g.ev.toNat=true
 bl:∀g∈l,g.bs.length<=1000
 bx:∀g∈l,∀b∈g.bs,BxOk v b
theorem Qju{f}:∀{n:Nat},(∀i,i<n->f i=0)->fe f n=0|0,_=>rfl|n+1,h=>by rw[fe,Qju (fun i hi=>h i (by omega)),if_pos rfl,h n (by omega)]
theorem Qth(h:BxOk v b):bxE v b=0:=by unfold bxE;rw[if_pos ⟨h.1,h.2.1⟩];refine Qju fun j c=>?_;obtain⟨x,a⟩:=Qam (l:=v) (i:=j) c;have:=h.2.2 j x a;unfold vrE;rw[Qaz a,if_neg (by omega)]
theorem GOk.err{ct}(h:GOk ct v l):gdsE ct v l=0:=by
 unfold gdsE;refine Qju fun i hi=>?_;obtain⟨x,a⟩:=Qam (l:=l) (i:=i) hi;have hm:=Zac a;obtain⟨h1,q⟩:=h.ev x hm;rw[Qaz a];unfold gdE;rw[if_neg (by omega),if_neg (by rw[q];decide),if_neg];·refine Qju fun k hk=>?_;obtain⟨b,c⟩:=Qam (l:=x.bs) (i:=k) hk;rw[Qaz c];exact Qth (h.bx x hm b (Zac c))
 rintro⟨f,n⟩;have f:¬i=0:=of_decide_eq_false f;obtain⟨y,d⟩:=Qam (l:=l) (i:=i-1) (by omega);rw[Qaz d]at n;obtain⟨o,g⟩:=Zai.1 a;obtain⟨p,m⟩:=Zai.1 d;have:=Zbd.1 h.inc (i-1) i p o (by omega);rw[g,m]at this;omega
theorem Qr1:∀{l:List Gdn}{a:Int},l.Pairwise (fun y z=>y.ev<z.ev)->(∀g∈l,a<=g.ev/\g.ev<5)->a<=5->(l.length:Int)<=5-a|[],a,_,_,h=>by simp;omega|x::l,a,hp,h,f=>by obtain⟨h1,c⟩:=ZaB.1 hp;have d:=h x (by simp);have:=Qr1 (l:=l) (a:=x.ev+1) c (fun g b=>⟨by have:=h1 g b;omega,(h g (by simp[b])).2⟩) (by omega);rw[ZaF];omega
theorem GOk.len{ct}(h:GOk ct v l):l.length<=5:=by have:=Qr1 (a:=0) h.inc (fun g a=>(h.ev g a).1) (by decide);omega
theorem GOk.r{ct}(h:GOk ct v l)(d:v.length<=1000):GdsR l:=⟨by have:=h.len;omega,fun g a=>by have:=h.bl g a;omega,fun g a b c=>by obtain⟨h1,f,_⟩:=h.bx g a b c;omega⟩
abbrev Ac(c:Cel):List (List Nat):=spA c (Tc c)
abbrev Bc(c:Cel):List (List Nat):=spB c (Tc c)
abbrev PPc(c:Cel):List Nat:=spP c (sync0 (auL c.cs)).1 (Tc c)
abbrev Fc(c:Cel):List (Nat×Int×Int×Int):=forb c (Tc c).length
def pmC(c:Cel)(l:List Gdn):Nat->Nat->Bool:=prmQ (ctC c) l (tplQ (Ac c) (Bc c))
def Lc(c:Cel)(l:List Gdn):Aut:=flt (Qc c) (pmC c l)
theorem Qr2(c)(h:WfCel c)(l)(d:GOk (ctC c) (vrsL c) l):Ps 62 [celV c,.agg (spCl (Qc c) (Ac c) (Bc c) (PPc c) (Fc c)),gdsV l] (.tup [aV (restr (Lc c l) tru),sliN (sAll (Lc c l) tru).1]):=by have f:=wB_c h;have q:=QcN h;have p:=h.c0;refine loop62 (q:=Qc c) (A:=Ac c) (B:=Bc c) (P:=PPc c) (F:=Fc c) (c:=c) l (pmC c l) f.toWfA q0_c (by have:=f.el;omega) (fun e he=>f.a5 _ (f.ev e he)) fun x e m he=>?_;obtain⟨t,y,_,hA,i,_,o,hk,_⟩:=wld_c h x m;refine permitted127 (q:=Qc c) (P:=PPc c) (F:=Fc c) l x e he hA i (by rw[Zar];omega) (by rw[Zar];omega) (by rw[Za5];omega) (by have:=d.len;omega) (fun g a=>⟨d.bl g a,fun b n=>?_⟩) d.inc;obtain⟨k,b2,_⟩:=d.bx g a b n;rw[Zbg,o];exact⟨k,b2⟩
theorem Qph(c)(h:WfCel c)(l)(d:GOk (ctC c) (vrsL c) l):Ps 20 [.agg (wCl (Qc c) (Ac c) (Bc c) (PPc c) (Fc c) (Pc c) c),gdsV l] (.tup [aV (restr (Lc c l) tru),sliN (sAll (Lc c l) tru).1,.bool (byO (Qc c) (Pc c).es (PPc c) (ctC c) (pmC c l) (sAll (Lc c l) tru).1)]):=by
 have f:=wB_c h;have hp:=wP_c h;have s:=QcN h;have o:=f.nb;refine loop20 (q:=Qc c) (p:=Pc c) (A:=Ac c) (B:=Bc c) (P:=PPc c) (F:=Fc c) (c:=c) l (vrsL c).length f.toWfA q0_c (by have:=f.el;omega) (by have:=hp.el;omega) (by show(List.map _ (Tc c)).length<=_;rw[Zav];exact Zaw o (by decide)) f.a5 (by have:=d.len;omega) (by omega) (fun v k=>?_) (fun g a=>⟨d.bl g a,fun b m=>?_⟩) d.inc (pmC c l) rfl;·obtain⟨t,y,_,hA,i,q,p,hk,_⟩:=wld_c h v k;exact⟨_,_,y,hA,i,q,by rw[Zbg];exact p⟩
 obtain⟨n,b2,_⟩:=d.bx g a b m;exact⟨n,b2⟩
theorem loop19(c)(h:WfCel c)(l)(b:GOk (ctC c) (vrsL c) l):Ps 19 [celV c,gdsV l] (.tup [aV (restr (Lc c l) tru),sliN (sAll (Lc c l) tru).1,.int .i64 0]):=by have a:=check35 c h l (b.r (by have:=QcN h;omega));rw[b.err]at a;have hO:=specify18 c h;have d:=Qr2 c h l b;have f:=Qbi c;rw[spC,spG]at hO;refine Zco 64 (Ok UK.s19) rfl (by rw[noRefs,SU.QaX,noRefs,Qa0];rfl) (by simp only[noRef,noRefs,Qaa,Qaf];rfl) ?_;generalize restr (Lc c l) tru=R at*;generalize(sAll (Lc c l) tru).1=O at*;unfold UK.s19;refine ZcP ?_;refine cp a ?_;refine ZcP ?_;refine cp hO ?_;refine ZcP ?_;refine cp d ?_;refine ZcP ?_;refine⟨.inr trivial,_,rfl,Zcm ?_⟩;simp only[noRef,noRefs,Qaa,Qaf];rfl
def bdQ(pe a:List Ed)(P:List Nat)(T:Nat->List Int)(x:Nat)(g:Gdn):Bool:=decide (0<=stepI pe (P.getD x 0) g.ev.toNat)&&(!decide (0<=stepI a x g.ev.toNat)&&inBs g.bs (T x))
abbrev bdC(c:Cel):Nat->Gdn->Bool:=bdQ (Pc c).es (Qc c).es (PPc c) (tplQ (Ac c) (Bc c))
def verZ(c:Cel)(l:List Gdn):Int:=if(resC c).sup.n=0 then 21 else if autB (restr (Lc c l) tru) (resC c).sup=true then(if(sAll (Lc c l) tru).1.any (fun x=>l.any (bdC c x))=true then 24 else 0)else 24
theorem Qr3{l:List α}{f:α->Bool}(h:∀(j:Nat)x,l[j]?=some x->f x=false):l.any f=false:=by rw[Zbt];intro x b;obtain⟨j,a,rfl⟩:=ZaU b;rw[h j _ (Zak a)];decide
theorem Qjv(h:WfA x)(he:x.es.length<=1000000):AOk x:=⟨by have:=QaV 32 x.al (by rw[ZaM];exact h.al.imp fun h=>by omega) h.al5;omega,by have:=QaV x.n x.ms h.nd h.msn;have:=h.n5;omega,by omega⟩
theorem verify23(c)(h:WfCel c)(l)(H:GOk (ctC c) (vrsL c) l):Ps 23 [celV c,gdsV l] (.int .i64 (verZ c l)):=by
 have K:=check35 c h l (H.r (by have:=QcN h;omega));rw[H.err]at K;have hC:=cell22 c h;have hP:=plant17 c h;have hL:=Qr2 c h l H;have hnc:=Qbi c;have hl5:=H.len;have u:=wB_c h;have L:=wP_c h;have U:=edges46 (Pc c) L.toWfA (by have:=L.el;omega);have V:=edges46 (Qc c) u.toWfA (by have:=u.el;omega);have o:WfA (Lc c l):=Qef u.toWfA;have J:WfA (restr (Lc c l) tru):=QdI o;have I:WfA (resC c).sup:=QdI u.toWfA;have hEq:=eq43 _ _ (Qjv J (by have:=WfA.el1 J;omega)) (Qjv I (by have:=WfA.el1 I;omega));have X:∀x∈(sAll (Lc c l) tru).1,x<(Qc c).n:=fun x p=>(Qb1 (left:=tru) o).1.fi.lt x p;rw[spC,spG]at hC;refine Zcp 64 (Ok UK.s23) rfl (by rw[noRefs,SU.QaX,noRefs,Qa0];rfl) rfl ?_;unfold verZ;have Q:=fun s e=>has50 (Pc c) s e;have P:=fun s e=>has50 (Qc c) s e;have n:=QbC (Pc c);have m:=QbC (Qc c);generalize emV (Pc c)=M1 at*;generalize emV (Qc c)=M2 at*;generalize hRe:restr (Lc c l) tru=R at*;generalize hOe:(sAll (Lc c l) tru).1=O at*;generalize hSe:resC c=S at*;have hOl:O.length<=1000000:=by have:=(Qb1 (left:=tru) o).1.fi.len;have:=o.n5;rw[hOe]at*;show O.length<=_;have:(Lc c l).n<=4096:=o.n5;omega
 unfold UK.s23;refine ZcP ?_;refine cp K ?_;refine ZcP ?_;refine cp hC ?_;by_cases h0:(S.sup.n:Int)=0;·refine ZcQ h0 ?_;refine⟨.inr trivial,_,rfl,?_⟩;rw[if_pos (by omega)];rfl
 rw[if_neg (by omega)];refine ZcQ h0 ?_;refine cp hP ?_;refine ZcP ?_;refine cp hL ?_;refine ZcP ?_;refine cp hEq ?_;cases hab:autB R S.sup with|false=>refine ZcP ?_;exact⟨.inr trivial,_,rfl,rfl⟩|true=>
  rw[if_pos rfl];refine ZcP ?_;refine cp U ?_;refine ZcP ?_;refine cp V ?_;refine ZcP ?_;refine QaE 200 (fun i:Nat=>[(1,gdsV l),(6,.ptr 51 0 0),(13,M1),(14,M2),(64,sliN O),(65,.int .i64 O.length),(66,.int .i64 i)]) (fun _=>[(51,.cells 0 (spCl (Qc c) (Ac c) (Bc c) (PPc c) (Fc c)))]) (fun i=>i<=O.length/\∀(j:Nat)x,j<i->O[j]?=some x->l.any (bdC c x)=false) (fun i=>O.length-i) 0 ?_ ⟨Zah _,fun j x B=>absurd B (Zay _)⟩ ?_;·exact⟨[(51,.blk 78 0)],rfl,Zcs,Zcw rfl rfl gg (Zcn QbW) Zcv,Zcu (Zcm (Qa0 _)) (Zcu (Rn.x2 rfl rfl) (Zcu (Zcm n) (Zcu (Zcm m) au41)))⟩
  rintro i⟨hi,N⟩;by_cases C:i<O.length
  ·obtain⟨x,p⟩:=Qam C;have Z:=X x (Zac p);obtain⟨t,y,_,hA,hB,A,ht,hk,hT⟩:=wld_c h x Z;have hlP:x<(PPc c).length:=(Zai.1 A).1;have h5:=QcN h;have hc0:=h.c0;have M:=@tuple49 (Qc c) (Ac c) (Bc c) (PPc c) (Fc c) x _ _ hA hB (by rw[Zar];omega) (by rw[Zar];omega) (by rw[Za5];omega);rw[Zbg]at M;refine ZcQ (Zc1 C (QaJ p)) ?_;refine QaE 300 (fun k:Nat=>[(1,gdsV l),(6,.ptr 51 0 0),(13,M1),(14,M2),(64,sliN O),(65,.int .i64 O.length),(66,.int .i64 i),(16,.int .i64 x),(70,gdsV l),(71,.int .i64 l.length),(72,.int .i64 k)]) (fun _=>[(51,.cells 0 (spCl (Qc c) (Ac c) (Bc c) (PPc c) (Fc c)))]) (fun k=>k<=l.length/\∀(j:Nat)g,j<k->l[j]?=some g->bdC c x g=false) (fun k=>l.length-k) 0 ?_ ⟨Zah _,fun j x B=>absurd B (Zay _)⟩ ?_;·exact⟨[(51,.blk 51 0)],rfl,Zcs,Zcw rfl rfl gg (Zcn QbW) Zcv,Zcu (Zcm (Qa0 _)) (Zcu (Rn.x2 rfl rfl) (Zcu (Zcm n) (Zcu (Zcm m) au41)))⟩
   rintro k⟨hk2,q⟩;by_cases G:k<l.length
   ·obtain⟨g,d⟩:=Qam G;have v:=Zac d;have F:=Qcf d;have Y:2<=((l.flatMap gdC).drop (k*2)).length:=by rw[F];simp
    obtain⟨⟨T,he5⟩,_⟩:=H.ev g v;obtain⟨e,he⟩:=Zbw T;have h1:=Q y e;have h2:=P x e;have w:=permits65 g (nz t) (by have:=H.bl g v;omega) (fun b N=>by obtain⟨b1,b2,_⟩:=H.bx g v b N;rw[Qb6,ht];exact⟨b1,b2⟩) (by rw[Qb6];omega);rw[Qbg]at w;have a:bdC c x g=(decide (0<=stepI (Pc c).es y e)&&(!decide (0<=stepI (Qc c).es x e)&&inBs g.bs (nz t))):=by unfold bdC bdQ;rw[Qaz A,hT,he];rfl
    generalize decide (0<=stepI (Pc c).es y e)=c1 at*;generalize decide (0<=stepI (Qc c).es x e)=c2 at*;generalize inBs g.bs (nz t)=c3 at*;have he:g.ev=(e:Int):=he;rw[he]at F;have w:Ps 65 [.agg [.int .i64 (e:Int),bxsV g.bs],sliN t] (.bool c3):=by rw[<-he];exact w
    refine ZcQ (Zc3 G F Y (QaJ A)) ?_;refine cp h1 ?_;cases c1 with
    |false=>
     exact bRWIW
    |true=>refine ZcP ?_;refine cp h2 ?_;cases c2 with|true=>
     have a:bdC c x g=false:=a;refine ZcP ?_;refine⟨k+1,by omega,⟨by omega,fun j z B f=>?_⟩,?_⟩
     ·by_cases E:j=k;·subst E;rw[d]at f;cases f;exact a
      exact q j z (by omega) f
     exact⟨[(51,.blk 51 0)],rfl,Zcs,Zcw rfl rfl gg (Zcn QbW) Zcv,Zcu (Zcm (Qa0 _)) (Zcu (Rn.x2 rfl rfl) (Zcu (Zcm n) (Zcu (Zcm m) (Zcu (Zcm (Qab _)) (Zcu (Zcm rfl) (Zcu (Zcm rfl) (Zcu (Zcm rfl) (Zcu (Zcm (Qa0 _)) (Zcu (Zcm rfl) (Zcu (Zcm rfl) Zct))))))))))⟩|false=>refine ZcP ?_;refine cp M ?_;refine ZcP ?_;refine cp w ?_;cases c3 with|true=>have a:bdC c x g=true:=a;refine ZcP ?_;refine⟨.inr trivial,_,rfl,?_⟩;rw[if_pos (Zba.2 ⟨x,Zac p,Zba.2 ⟨g,v,a⟩⟩)];rfl|false=>
      exact bRWIW
   refine ZcQ G ?_;refine⟨i+1,by omega,⟨by omega,fun j z B f=>?_⟩,?_⟩
   ·by_cases E:j=i;·subst E;rw[p]at f;cases f;exact Qr3 fun j g d=>q j g (by have:=(Zai.1 d).1;omega) d
    exact N j z (by omega) f
   exact⟨[(51,.blk 51 0)],rfl,Zcs,Zcw rfl rfl gg (Zcn QbW) Zcv,Zcu (Zcm (Qa0 _)) (Zcu (Rn.x2 rfl rfl) (Zcu (Zcm n) (Zcu (Zcm m) au41)))⟩
  refine ZcQ C ?_;refine⟨.inr trivial,_,rfl,?_⟩;rw[if_neg (by rw[Qr3 fun j x p=>N j x (by have:=(Zai.1 p).1;omega) p];decide)];rfl
def rsV(o:Option (Nat×Int×Int×Int)):AV:=.tup [.agg (match o with|some r=>rsC r|none=>[.int .i64 0,.int .i64 0,.int .i64 0,.int .i64 0]),.bool o.isSome]
theorem QpZ{b}(c:a.Pairwise (·<·))(d:b.Pairwise (·<·))(h:∀x,x∈a↔x∈b):a=b:=by refine List.Perm.eq_of_pairwise (le:=fun x y=>x<y) (fun x y _ _ h1 f=>by omega) c d ?_;exact(List.perm_ext_iff_of_nodup (c.imp fun h=>by omega) (d.imp fun h=>by omega)).2 h
theorem QvO(h:WfCel c):evA (allA c)=evA (auL c.cs):=by refine QpZ (Qem (Qcl h)) (Qem (Qbn h)) fun e=>⟨Qpc h,fun he=>?_⟩;obtain⟨a,d,b⟩:=(Qfx (Qbn h)).1 he;exact(Qfx (Qcl h)).2 ⟨a,ZaG.2 (.inl d),b⟩
theorem QuE{i}{s}{e}:∃t,(sEd i s e).1=s.1++t:=by
 unfold sEd;split;·exact⟨[],by simp⟩
 exact⟨[e.2.2],rfl⟩
theorem QnC{i}:∀{es:List Ed}{s:OE},∃t,(es.foldl (sEd i) s).1=s.1++t|[],s=>⟨[],by simp⟩|e::es,s=>by obtain⟨t,a⟩:=@QuE i s e;obtain⟨u,hu⟩:=@QnC i es (sEd i s e);exact⟨t++u,by rw[ZaO,hu,a,ZaQ]⟩
theorem QnD{es}{left}:∀{k i:Nat}{s:OE},∃t,(sQ es left k i s).1=s.1++t|0,i,s=>⟨[],by simp[sQ]⟩|k+1,i,s=>by unfold sQ;cases b:s.1[i]? with|none=>exact⟨[],by simp⟩|some v=>obtain⟨t,a⟩:∃t,(sRow es left i v s).1=s.1++t:=QnC;obtain⟨u,hu⟩:=@QnD es left k (i+1) (sRow es left i v s);exact⟨t++u,by dsimp only;rw[hu,a,List.append_assoc]⟩
theorem getPre{l}{v}(h:l[i]?=some v):(l++t)[i]?=some v:=by rw[Za1 (Zai.1 h).1,h]
theorem Qpi{g}{f c}:∀(k i:Nat)(s:OE),(∀(j:Nat)v,i<=j->(sQ g f k i s).1[j]?=some v->(sQ d c k i s).1[j]?=some v->sOut g f v=sOut d c v)->sQ g f k i s=sQ d c k i s|0,i,s,h=>rfl|k+1,i,s,h=>by cases l:s.1[i]? with|none=>unfold sQ;rw[l]|some v=>
 have n:sQ g f (k+1) i s=sQ g f k (i+1) (sRow g f i v s):=by rw[sQ,l]
 have m:sQ d c (k+1) i s=sQ d c k (i+1) (sRow d c i v s):=by rw[sQ,l]
 obtain⟨t1,h1⟩:=@QnD g f (k+1) i s;obtain⟨t2,p⟩:=@QnD d c (k+1) i s;have o:sRow g f i v s=sRow d c i v s:=by unfold sRow;rw[h i v (ZaC _) (by rw[h1];exact getPre l) (by rw[p];exact getPre l)]
 rw[n,m]at h;rw[n,m,o];rw[o]at h;exact Qpi k (i+1) _ fun j v q a b=>h j v (by omega) a b
theorem QnE(hf:∀j,∀e∈f j,e.1=j)(j):∀n:Nat,((List.range n).flatMap f).filter (fun e=>e.1==j)=if j<n then f j else[]
 |0=>by simp|n+1=>by
  rw[ZaL,Zan,Zbj,QnE hf j n];have b:[n].flatMap f=f n:=by simp
  rw[b];by_cases h:j=n;·subst h;rw[if_neg (by omega),if_pos (by omega),ZaP];exact ZbI.2 fun e he=>by rw[hf j e he];simp
  have :(f n).filter (fun e=>e.1==j)=[]:=List.filter_eq_nil_iff.2 fun e he=>by rw[hf n e he];simp;omega
  rw[this,Zas];by_cases a:j<n;·rw[if_pos a,if_pos (by omega)]
  rw[if_neg a,if_neg (by omega)]
theorem Qr4(h:es.Pairwise fun x y=>x.1<y.1\/(x.1=y.1/\x.2.1<y.2.1)){v:Nat}:∀{a b:List Ed},(∀x∈a,x∈es/\x.1=v)->(∀x∈b,x∈es/\x.1=v)->a.map (·.2.1)=b.map (·.2.1)->a=b
 |[],[],_,_,_=>rfl|[],y::b,_,_,h=>by simp at h|x::a,[],_,_,h=>by simp at h|x::a,y::b,f,k,he=>by
  rw[ZaK,ZaK]at he;obtain⟨h1,n⟩:=List.cons.inj he;obtain⟨x1,x2⟩:=f x (by simp);obtain⟨l,d⟩:=k y (by simp);have g:=QeU h x1;have i:=QeU h l;have h1:x.2.1=y.2.1:=h1;rw[x2,h1]at g;rw[d]at i;have m:x.2.2=y.2.2:=Option.some.inj (g.symm.trans i);have:x=y:=by obtain⟨p,q,r⟩:=x;obtain⟨t,o,s⟩:=y;simp only at*;subst x2;subst d;subst h1;subst m;rfl
  rw[this,Qr4 h (fun z c=>f z (by simp[c])) (fun z c=>k z (by simp[c])) n]
theorem QuF(h:WfA q)(t:(sAll (flt q pm) tru).1.length=(sAll q left).1.length)(hp:0<(sAll q left).1.length)(he:(sAll (flt q pm) tru).2=(sAll q left).2):(sAll (flt q pm) tru).1=(sAll q left).1:=by
 have hf:WfA (flt q pm):=Qef h;obtain⟨h1,_⟩:=Qb1 (left:=tru) hf;obtain⟨p,t2,u⟩:=Qb1 (left:=left) h;have f:∀x∈(flt q pm).es,x∈q.es:=fun x d=>(Zbh.1 d).1;have c:∀(j:Nat)v,(sAll (flt q pm) tru).1[j]?=some v->(sAll q left).1[j]?=some v->sOut (flt q pm).es tru v=sOut q.es left v:=by intro j v a b;have n:=(Zai.1 b).1;have g:=congrArg (List.filter fun e:Ed=>e.1==j) h1.ed;have i:=congrArg (List.filter fun e:Ed=>e.1==j) p.ed;rw[QnE (fun j e he=>by obtain⟨x,_,rfl⟩:=Zap.1 he;rfl) j]at g i;rw[if_pos (by omega),Qaz a]at g;rw[if_pos n,Qaz b]at i;rw[he,i]at g;have k:=congrArg (List.map fun e:Ed=>e.2.1) g;rw[List.map_map,List.map_map]at k;refine(Qr4 h.es (v:=v) (fun x d=>⟨(Qa5.1 d).1,(Qa5.1 d).2.1⟩) (fun x d=>⟨f x (Qa5.1 d).1,(Qa5.1 d).2.1⟩) ?_).symm;exact k
 have hi:left 0=true:=by cases o:left 0 with|true=>rfl|false=>
  exfalso;have s:sAll q left=([],[]):=by unfold sAll;rw[o,ZbN];show sQ q.es left (q.n+1) 0 ([],[])=_;unfold sQ;rfl
  rw[s]at hp;exact absurd hp (by decide)
 have hu:sAll (flt q pm) tru=sAll q left:=by
  have l:sAll (flt q pm) tru=sQ (flt q pm).es tru (q.n+1) 0 (if(decide (0<q.n)&&true)=true then[0]else[],[]):=rfl;have m:sAll q left=sQ q.es left (q.n+1) 0 (if(decide (0<q.n)&&true)=true then[0]else[],[]):=by unfold sAll;rw[hi]
  rw[l,m]at c⊢;exact Qpi (q.n+1) 0 _ fun j v _ a b=>c j v a b
 rw[hu]
theorem by_eq(c)(h:WfCel c)(l)(w:GOk (ctC c) (vrsL c) l)(O):byO (Qc c) (Pc c).es (PPc c) (ctC c) (pmC c l) O=O.any fun x=>l.any (bdC c x):=by
 unfold byO;have b:∀x∈O,(Qc c).al.any (byE (Qc c) (Pc c).es (PPc c) (ctC c) (pmC c l) x)=l.any (bdC c x):=by
  intro x _;rw[Zb3,Zba,Zba];constructor
  ·rintro⟨e,he,a⟩;unfold byE at a;simp only[Zab,decide_eq_true_eq]at a;obtain⟨i,b2,m,v⟩:=a;unfold pmC prmQ at i;rw[m,Bool.not_true,Zcc]at i;obtain⟨g,f,a⟩:=Zba.1 i;simp only[Zab,decide_eq_true_eq]at a;refine⟨g,f,?_⟩;show bdQ _ _ _ _ _ _=true;unfold bdQ;have u:g.ev.toNat=e:=by rw[a.1];rfl
   rw[u,decide_eq_true v,decide_eq_false (by omega),a.2];rfl
  rintro⟨g,f,a⟩;have a:bdQ (Pc c).es (Qc c).es (PPc c) (tplQ (Ac c) (Bc c)) x g=true:=a;unfold bdQ at a;simp only[Zab,decide_eq_true_eq,Zbs,decide_eq_false_iff_not]at a;obtain⟨i,b2,m⟩:=a;obtain⟨⟨g0,g5⟩,gc⟩:=w.ev g f;refine⟨g.ev.toNat,?_,?_⟩;·unfold stepI at i;cases k:stepA (Pc c).es ((PPc c).getD x 0) g.ev.toNat with|none=>rw[k]at i;exact absurd i (by decide)|some to=>obtain⟨d,p,o⟩:=Zap.1 (Qdg k);have n:=(wP_c h).ev d p;have q:d.2.1=g.ev.toNat:=congrArg Prod.snd o;rw[q]at n;show _∈evA (allA c);rw[QvO h];exact n
  unfold byE pmC prmQ;rw[decide_eq_true i,decide_eq_true (by omega:stepI (Qc c).es x g.ev.toNat<0),gc];simp only[Zad,Bool.not_true,Zcc];refine Zba.2 ⟨g,f,?_⟩;rw[m,decide_eq_true (by omega)];rfl
 induction O with|nil=>rfl|cons x O s=>rw[List.any_cons,List.any_cons,b x (by simp),s fun y t=>b y (by simp[t])]
theorem Qpj(c)(h:WfCel c)(l)(f:GOk (ctC c) (vrsL c) l)(d:(resC c).sup.n≠0):verZ c l=if byO (Qc c) (Pc c).es (PPc c) (ctC c) (pmC c l) (sAll (Lc c l) tru).1=true\/¬autB (restr (Lc c l) tru) (resC c).sup=true\/¬(sAll (Lc c l) tru).1=(resC c).orig then 24 else 0:=by
 unfold verZ;rw[if_neg d,by_eq c h l f];by_cases a:autB (restr (Lc c l) tru) (resC c).sup=true
 ·rw[if_pos a];have ho:(sAll (Lc c l) tru).1=(resC c).orig:=by unfold autB at a;simp only[Zab,decide_eq_true_eq]at a;exact QuF (wB_c h).toWfA a.1 (Nat.pos_of_ne_zero d) a.2.2.2
  by_cases b:((sAll (Lc c l) tru).1.any fun x=>l.any (bdC c x))=true;·rw[if_pos b,if_pos (.inl b)]
  rw[if_neg b,if_neg];rintro(h1|h1|h1);·exact b h1
  ·exact h1 a
  exact h1 ho
 rw[if_neg a,if_pos (.inr (.inl a))]
theorem Qr5:∀(i:Nat),i<=v.length->∀t∈dom (v.take i),∀(j:Nat)x,j<i->v[j]?=some x->0<=t.getD j 0/\t.getD j 0<=x.2
 |0,_,t,_,j,x,c,_=>absurd c (Zay _)|i+1,hi,t,f,j,x,c,g=>by
  obtain⟨y,a⟩:=Qam (l:=v) (i:=i) (by omega);rw[Qf4 a]at f;obtain⟨u,hu,hm⟩:=Zbv.1 f;obtain⟨n,d,rfl⟩:=Zap.1 hm;have d:=Zat.1 d;have b:=Qg0 i (by omega) u hu;by_cases e:j=i;·subst e;rw[g]at a;cases a;rw[Zaj,List.getElem?_append_right (by omega),b,Nat.sub_self];show 0<=(n:Int)/\(n:Int)<=x.2;omega
  rw[Zaj,Za1 (by omega),<-Zaj];exact Qr5 i (by omega) u hu j x (by omega) g
theorem Qpk:∀a∈dom v,∀(j:Nat)x,v[j]?=some x->0<=a.getD j 0/\a.getD j 0<=x.2:=fun a c j x b=>Qr5 v.length (ZaC _) a (by rw[Zao];exact c) j x (Zai.1 b).1 b
theorem dom_c(h:WfCel c):(dom (vrsL c)).length<=243:=by have h1:=QjZ (Qdh h) (vrsL c).length (ZaC _);have a:=Qo4 h;rw[Zao]at h1;omega
def tcC(c:Cel)(ev:Nat):List Bool×List Bool:=tcQ (vrsL c) (Ac c) (Bc c) (PPc c) (Pc c).es (resC c).sup.es (resC c).orig ev (resC c).orig.length
def bxC'(c:Cel)(ev:Nat):List Bxn:=covV (vrsL c) (tcC c ev).1 (tcC c ev).2
def expC(c:Cel):List Gdn:=expQ (ctC c) (bxC' c) 5
theorem QuG(h:WfCel c)(ho:o∈(resC c).orig):o<(Qc c).n:=(Qb1 (left:=lf (fin (Qc c).n (Qc c).es (Qc c).ms (fbd c) (uncL c.ev 5) true).1) (wB_c h).toWfA).1.fi.lt o ho
theorem Qti(h:WfCel c):(resC c).orig.length<=4096:=by have h1:=(Qb1 (left:=lf (fin (Qc c).n (Qc c).es (Qc c).ms (fbd c) (uncL c.ev 5) true).1) (wB_c h).toWfA).1.fi.len;have a:=(wB_c h).n5;exact Zaw h1 a
theorem Qp0(c)(h:WfCel c):Ps 17 [.agg (wCl (Qc c) (Ac c) (Bc c) (PPc c) (Fc c) (Pc c) c),SE.rsV (resC c)] (gdsV (expC c)):=by have a:WfA (resC c).sup:=QdI (wB_c h).toWfA;have f:=QcN h;have g:=(wB_c h).nb;exact expected17 (q:=Qc c) (p:=Pc c) (A:=Ac c) (B:=Bc c) (P:=PPc c) (F:=Fc c) (vrsL c) (resC c) f (Qdh h) (by have:=dom_c h;omega) (vars12 c h) Qpk (by have:=(wP_c h).el;omega) (by have:=WfA.el1 a;omega) (by show(List.map _ (Tc c)).length<=_;rw[Zav];exact Zaw g (by decide)) (by have:=Qti h;omega) fun o ho=>by obtain⟨t,y,b,hA,d,i,k,hk,_⟩:=wld_c h o (QuG h ho);refine⟨_,_,y,hA,d,i,by rw[Zbg];exact k,?_⟩;rw[Zbg];exact(tup_c h (Zac b)).2
theorem QvP(d:∀x∈v,0<=x.2/\x.2<=2){t c}:∀b∈covV v t c,BxOk v b:=by intro b g;have h1:=Qnc _ (ZaC _) b g;refine Qjj (P:=BxOk v) (fun a f=>?_) _ (ZaC _) b h1;exact(grB_R d (Qg0 v.length (ZaC _) a (by rw[Zao];exact f)) (Qpk a f) v.length (ZaC _)).ok
theorem QuH{v}{t c}:(covV v t c).length<=(dom v).length:=by refine Zaw (Qnb _).2 (Qna _)
theorem Qr6(h:l.Pairwise fun y z=>y.ev<z.ev)(f:∀y∈l,y.ev<g.ev):(l++[g]).Pairwise fun y z=>y.ev<z.ev:=by rw[Zbe];exact⟨h,by simp,fun a d b c=>by rw[Za3.1 c];exact f a d⟩
theorem Qr7{ct}{G}:∀e,(expQ ct G e).Pairwise (fun y z=>y.ev<z.ev)/\∀g∈expQ ct G e,∃k:Nat,k<e/\ct k=true/\g=⟨(k:Int),G k⟩
 |0=>⟨by simp[expQ],fun g a=>by cases a⟩|e+1=>by
  obtain⟨h1,b⟩:=@Qr7 ct G e;rw[expQ];split
  ·rename_i hc;refine⟨Qr6 h1 fun y d=>?_,fun g a=>?_⟩;·obtain⟨k,hk,_,rfl⟩:=b y d;show(k:Int)<(e:Int);omega
   rcases ZaG.1 a with a|a;·obtain⟨k,hk,c⟩:=b g a;exact⟨k,by omega,c⟩
   exact⟨e,by omega,hc,Za3.1 a⟩
  exact⟨h1,fun g a=>by obtain⟨k,hk,c⟩:=b g a;exact⟨k,by omega,c⟩⟩
theorem QvQ(h:WfCel c):GOk (ctC c) (vrsL c) (expC c):=by
 obtain⟨h1,f⟩:=@Qr7 (ctC c) (bxC' c) 5;refine⟨h1,fun g a=>?_,fun g a=>?_,fun g a b d=>?_⟩<;>obtain⟨k,hk,hc,rfl⟩:=f g a;·exact⟨⟨Zbf _,by show(k:Int)<5;omega⟩,hc⟩
 ·have :=@QuH (vrsL c) (tcC c k).1 (tcC c k).2;have:=dom_c h;show(covV (vrsL c) (tcC c k).1 (tcC c k).2).length<=1000;omega
 exact QvP (Qdh h) b d
theorem QvR{ct}:GOk ct v []:=⟨by simp,fun g a=>(by cases a),fun g a=>(by cases a),fun g a=>(by cases a)⟩
theorem QvS(b:∀x∈v,0<=x.2/\x.2<=2){D}{e}:BxOk v (dBx v D e i v.length):=by
 refine⟨by simp[dBx],by simp[dBx],fun j x a=>?_⟩;have c:=(Zai.1 a).1;have d:=(b x (Zac a)).1;have f:(dBx v D e i v.length).lo.getD j 0=dLo v D e i j:=by unfold dBx;rw[Zaj,ZaA,Zbm c];rfl
 have g:(dBx v D e i v.length).hi.getD j 0=dHi v D e i j:=by unfold dBx;rw[Zaj,ZaA,Zbm c];rfl
 rw[f,g];have h1:=@Qjr v D e i j x a d;have h:=@Qny v D e i j x a d;omega
theorem dr_in{v:List (List UInt8×Int)}(d:∀x∈v,0<=x.2/\x.2<=2){D}{ct}{own}{fd:Nat->Int}(ho:GOk ct v own)(h:∀e:Nat,e<5->fd e=-1\/∃(f:Nat)(g:Gdn),fd e=f/\own[f]?=some g/\g.ev=(e:Int)):∀e,e<=5->(drQ v D ct own fd e).Pairwise (fun y z=>y.ev<z.ev)/\∀g∈drQ v D ct own fd e,(0<=g.ev/\g.ev<(e:Int))/\ct g.ev.toNat=true/\g.bs.length<=1000/\∀b∈g.bs,BxOk v b
 |0,_=>⟨by simp[drQ],fun g a=>by cases a⟩|e+1,he=>by
  obtain⟨h1,k⟩:=@dr_in v d D ct own fd ho h e (by omega);rw[drQ];split
  ·rename_i hc;have c:(drG v D own fd e).ev=(e:Int)/\(drG v D own fd e).bs.length<=1000/\∀b∈(drG v D own fd e).bs,BxOk v b:=by
    unfold drG;split
    ·rename_i hk;rcases h e (by omega)with s|⟨f,g,s,m,n⟩;·omega
     have hf:(fd e).toNat=f:=by omega
     rw[hf,Qaz m];have hm:=Zac m;exact⟨n,ho.bl g hm,ho.bx g hm⟩
    refine⟨rfl,?_,fun b w=>?_⟩
    ·show(List.map _ _).length<=_;rw[Zav,ZbH];have:dKd D e<4:=by unfold dKd;omega
     omega
    obtain⟨i,_,rfl⟩:=Zap.1 w;exact QvS d
   generalize drG v D own fd e=G at*;obtain⟨u,q,o⟩:=c;refine⟨Qr6 h1 fun y p=>?_,fun g a=>?_⟩;·have:=(k y p).1;omega
   rcases ZaG.1 a with a|a;·obtain⟨t,l⟩:=k g a;exact⟨by omega,l⟩
   rw[Za3.1 a];refine⟨by omega,?_,q,o⟩;rw[u];exact hc.1
  exact⟨h1,fun g a=>by obtain⟨t,l⟩:=k g a;exact⟨by omega,l⟩⟩
theorem dr_ok(d:∀x∈v,0<=x.2/\x.2<=2){D}{ct}(ho:GOk ct v own)(c:∀e:Nat,e<5->fd e=-1\/∃(f:Nat)(g:Gdn),fd e=f/\own[f]?=some g/\g.ev=(e:Int)):GOk ct v (drQ v D ct own fd 5):=by obtain⟨h1,b⟩:=@dr_in v d D ct own fd ho c 5 (ZaC _);exact⟨h1,fun g a=>⟨(b g a).1,(b g a).2.1⟩,fun g a=>(b g a).2.2.1,fun g a=>(b g a).2.2.2⟩
theorem Qr8(c)(h:WfCel c)(D)(k:D.length=125)(d:∀x∈D,x<256)(own)(ho:GOk (ctC c) (vrsL c) own):∃l,Ps 18 [.agg (u8s D),celV c,gdsV own] (gdsV l)/\GOk (ctC c) (vrsL c) l:=by
 have b:own.length<=1000:=by have:=ho.len;omega
 obtain⟨fd,a⟩:∃fd:Nat->Int,∀e:Nat,Ps 61 [gdsV own,.int .i64 (e:Int)] (.int .i64 (fd e))/\((fd e=-1/\∀g∈own,g.ev≠(e:Int))\/∃(f:Nat)(g:Gdn),fd e=f/\own[f]?=some g/\g.ev=(e:Int)/\∀(j:Nat)y,j<f->own[j]?=some y->y.ev≠(e:Int)):=⟨fun e=>Classical.choose (find61 own e b),fun e=>Classical.choose_spec (find61 own e b)⟩;refine⟨_,list18 D k d c own b fd (fun e _=>(a e).1) (fun e _=>?_) (vrsL c) (QcN h) (Qdh h) (vars12 c h),dr_ok (Qdh h) ho fun e _=>?_⟩
 ·rcases(a e).2 with⟨h1,_⟩|⟨f,g,h1,i,_⟩;·omega
  have:=(Zai.1 i).1;omega
 rcases(a e).2 with⟨h1,_⟩|⟨f,g,h1,i,m,_⟩;·exact .inl h1
 exact .inr ⟨f,g,h1,i,m⟩
end Go.AM.SO
namespace Go.AM.GJ
open Go.Proofs
set_option maxHeartbeats 4000000
noncomputable section
def cf:YA.Cf:={}
noncomputable def ft:FT2:=YA.tre Tryz.prog cf 20 [8,13,14,23,31,35,41,44,45,46,47,48,49,50,51,52,53,62,64,65,66,69,70,71,76,77,78,83,84,86,88,95,98,99,100,101,102,103,104,105,106,107,108,109,110,111,112,113,114,115,116,117,118,119,120,121,122,123,127,128,129,130,131,132,133,139,142,144,146,147,151,152,154,155,156,157,158,159,160,161,162,163,164,165,166,167,168,169,170,171,172,173,174,175,176,177,178,179,182,183,191,192,193,194,195,196,197,198,199,200,201,202,203,204,205,206,207,208,209,210,211,212,213,214,215,216,217,218,219,220,221,222,223,224,225,226,227,228,229,230,231,232,233,234,236,237,245,251,252,253,254,255,256,257,258,259,260,261,262,263,264,265,266,267,268,269,270,271,272,276,277,278,279,280,281,282,283,284,286,287,288,289,290,291]
theorem ft_ok:ft.OK Tryz.prog:=YA.QgJ _ _ (YA.QfQ (by kernel_rfl))
end
end Go.AM.GJ
