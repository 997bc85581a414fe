/- On the way to GuardsSuffice. Conditions: none of ours. -/
import Derived.Test.YtikknocmfjfohaaGreatDoorProg
import Derived.KernelRfl
import Derived.Test.YtikknocmfjfohaaGreatDoorAmT17
import Derived.Test.YtikknocmfjfohaaGreatDoorAmT19
import Derived.Test.YtikknocmfjfohaaGreatDoorAmT20
theorem Go.AM.bSkUV{p:Prop}(h:p:=by
 refine⟨[(50,.blk 50 0),(51,.blk 51 0),(52,.blk 52 0),(53,.blk 53 0),(78,.blk 78 0),(69,.blk 69 0),(74,.blk 74 0),(75,.blk 75 0),(76,.blk 76 0),(77,.blk 77 0)],rfl,au0,?_,au35⟩;refine ZcE rfl rfl gg (Zct o) (ZcE rfl rfl gg (Zct f) (ZcE rfl rfl gg (Zct u) (ZcE rfl rfl gg (Zct rfl) (ZcE rfl rfl gg (Zct (Qaq _ _ _)) ?_))));refine ZcE rfl rfl gg (ZcK (Zcs (Qab _)) (ZcK (Zcs rfl) (ZcK (Rn.x1 rfl rfl) (ZcK (Rn.x1 rfl rfl) ZcJ)))) (ZcG rfl rfl gg (ZcW fun x _=>Zcs rfl) (ZcE rfl rfl gg (Zct (Qaa _)) (ZcE rfl rfl gg (Zct (Qag _)) (ZcE rfl rfl gg (Zct (Qaa _)) ZcD))))):p:=h
theorem Go.AM.br1qm{p:Prop}(h:p:=by
 have a:bdC c x g=false:=a;refine Zc4 ?_;refine⟨k+1,by omega,⟨by omega,fun j z B f=>?_⟩,?_⟩
 ·by_cases E:j=k;·subst E;rw[d]at f;cases f;exact a
  exact q j z (by omega) f
 exact⟨[(51,.blk 51 0)],rfl,ZcA,ZcE rfl rfl gg (Zct Qbd) ZcD,ZcC (Zcs (Qbj _)) (ZcC (Rn.x2 rfl rfl) (ZcC (Zcs n) (ZcC (Zcs m) (ZcC (Zcs (Qab _)) (ZcC (Zcs rfl) (ZcC (Zcs rfl) (ZcC (Zcs rfl) (ZcC (Zcs (Qbj _)) (ZcC (Zcs rfl) (ZcC (Zcs rfl) ZcB))))))))))⟩):p:=h
theorem Go.AM.bXFH3{p:Prop}(h:p:=by
 subst h;by_cases a:i<l.length;·rw[if_pos ⟨rfl,a⟩,Zah,Zbz a];rfl
 rw[if_neg (fun h=>a h.2),List.set_eq_of_length_le (by omega)]):p:=h
theorem Go.AM.bD1UZ{p:Prop}(h:p:=by
 refine⟨[(50,.blk 50 0),(51,.blk 51 0),(52,.blk 52 0),(61,.blk 61 0),(62,.blk 62 0)],rfl,au0,?_,au35⟩;exact ZcE rfl rfl gg (Zct g) (ZcE rfl rfl gg (Zct rfl) (ZcE rfl rfl gg (ZcK (Rn.x1 rfl rfl) (ZcK (Rn.x1 rfl rfl) ZcJ)) (ZcE rfl rfl gg (Zct (Qaa _)) (ZcE rfl rfl gg (Zct (Qaa _)) ZcD))))):p:=h
set_option linter.unusedSectionVars false
set_option maxHeartbeats 32000000
set_option maxRecDepth 100000
set_option linter.unusedVariables false
set_option linter.unusedSimpArgs false
namespace Go.AM.SO
open Go.Proofs Go.AM.SD Go.AM.SE
variable{q:Aut}{f:Ed->Bool}{L:List Ed}{fs:List Fr}{N:NM}{m:Nat}{pm:Nat->Nat->Bool}{G:Prop}{Q:QC}{b:SCode}{E:Tmps}
def flt(q:Aut)(pm:Nat->Nat->Bool):Aut:=⟨q.al,q.n,q.ms,q.es.filter fun e=>pm e.1 e.2.1⟩
abbrev tru:Nat->Bool:=fun _=>true
theorem QjU(h:WfA q):WfA (flt q pm):=⟨h.al,h.al5,h.n5,h.ms,h.msn,h.es.filter _,fun e he=>h.esn e (ZaZ.1 he).1,fun e he=>h.ev e (ZaZ.1 he).1⟩
theorem QvD(v):ZO (flt q pm).es tru v=(ZO q.es tru v).filter fun e=>pm v e.2.1:=by
 unfold ZO flt;rw[List.filter_filter,List.filter_filter];refine ZbA fun e _=>?_;by_cases h:e.1=v;·subst h;simp[Bool.and_comm]
 have a:(e.1==v)=false:=by simpa using h
 simp only[a,ZbQ,Bool.and_false]
theorem Quf{j}{e}(h:L[j]?=some e):(L.take (j+1)).filter f=(L.take j).filter f++if f e=true then[e]else[]:=by rw[Za6,h,Option.toList,Zbj];congr 1;by_cases h1:f e=true<;>simp[h1]
variable{q p:Aut}{A B:List (List Nat)}{P:List Nat}{F:List (Nat×Int×Int×Int)}{c:Cel}
theorem Qug{P}{L}(c)(key:∀n T h,Rec m E L T h->wS P N (.loop b) fs n T h Q)(h1:c=true->(∀n T h,Rec m E L T h->wS P N (.loop b) fs n T h Q)->G)(a:c=false->(∀n T h,Rec m E L T h->wS P N (.loop b) fs n T h Q)->G):G:=by cases c with|true=>exact h1 rfl key|false=>exact a rfl key
abbrev CLO:AV:=.fn 127 [] [.ptr 50 0 0,.ptr 52 0 0,.ptr 51 0 0]
theorem loop62(l)(pm:Nat->Nat->Bool)(hw:WfA q)(hq0:0<q.n)(hel:q.es.length<=1000000)(hev:∀e∈q.es,e.2.1<5)(hpm:∀x e:Nat,x<q.n->e<5->Ps 127 [.int .i64 (x:Int),.int .i64 (e:Int),.fptr (ceCl c),.fptr [gdsV l],.fptr (spCl q A B P F)] (.bool (pm x e))):Ps 62 [celV c,.agg (spCl q A B P F),gdsV l] (.tup [aV (ZR (flt q pm) tru),ZN (sAll (flt q pm) tru).1]):=by
 have o:noRefs (ceCl c)=true:=Qbh c;have f:=@Qbd q A B P F;have u:noRefs [gdsV l]=true:=by simp only[noRefs,noRef,QaP];rfl
 have hal:q.al.length<=32:=Qa1 32 q.al (by rw[ZaN];exact hw.al.imp fun h=>by omega) hw.al5;have hn5:=hw.n5;have hms:q.ms.length<=q.n:=Qa1 q.n q.ms hw.nd hw.msn;refine Zcu 60 (Ok VN.s62) rfl (by rw[noRefs,SU.QaY,noRefs,noRef,f,noRefs,Qbj];rfl) (by simp only[noRef,noRefs,Qaa,Qag];rfl) ?_;have hn24:(24:Int)*(q.n:Int)<=140737488355328/\(q.n:Int)<=140737488355328:=by omega
 unfold VN.s62;refine Zc7 (Zdb hn24 @repN @Qac @Qad @Qae) ?_;have hrn:∀k∈List.range q.n,k<1000000:=fun k hk=>by have:=Zau.1 hk;omega
 refine Qas 100 (fun i:Nat=>[(4,.ptr 51 0 0),(6,.ptr 53 0 0),(8,CLO),(9,.sl 78 0 0 q.n 1),(27,egsN q.es),(28,.int .i64 q.es.length),(29,.int .i64 i)]) (fun i=>[(50,.cells 0 (ceCl c)),(51,.cells 0 (spCl q A B P F)),(52,.cells 0 [gdsV l]),(53,.cells 0 [.nilsl,.int .i64 0,.nilsl,.nilsl]),(78,.cells 0 ((List.range q.n).map (SE.ptrE (q.es.take i) tru)))]++rowsL (SE.rowE (q.es.take i) tru) (List.range q.n)) (fun i=>i<=q.es.length) (fun i=>q.es.length-i) 0 0 160 (fun _:Unit=>[(4,.ptr 51 0 0),(6,.ptr 53 0 0),(8,CLO),(9,.sl 78 0 0 q.n 1)]) (fun _=>[(50,.cells 0 (ceCl c)),(51,.cells 0 (spCl q A B P F)),(52,.cells 0 [gdsV l]),(53,.cells 0 [.nilsl,.int .i64 0,.nilsl,.nilsl]),(78,.cells 0 ((List.range q.n).map (frzE q.es tru)))]) (fun _=>True) ?_ (Zaj _) ?_ ?_;·refine⟨[(50,.blk 60 0),(51,.blk 61 0),(52,.blk 62 0),(53,.blk 63 0),(78,.blk 70 0)]++psL (fun _=>.nil) (List.range q.n),QdS (QcJ Za3 hrn (fun _ _ _ _ _ b g b' g' h=>by cases h)) rfl (by decide) (fun _ _ _ _ _ _ _ b g h=>by cases h),ZcA,?_,au35⟩;refine ZcE rfl rfl rfl (Zct o) (ZcE rfl rfl rfl (Zct f) (ZcE rfl rfl rfl (Zct u) (ZcE rfl rfl rfl (Zct rfl) (ZcE rfl rfl rfl (Qdh fun k hk=>Rn.x4 rfl (Qc0 hk (A:=[(50,.blk 60 0),(51,.blk 61 0),(52,.blk 62 0),(53,.blk 63 0),(78,.blk 70 0)]) (by decide))) ?_))));exact QcT fun k hk=>ZcF rfl (Qc0 hk (A:=[(50,.blk 60 0),(51,.blk 61 0),(52,.blk 62 0),(53,.blk 63 0),(78,.blk 70 0)]) (by decide)) ZcD
 ·rintro i hi;have hr0:∀b,b<300->(hp (rowsL (SE.rowE (q.es.take i) tru) (List.range q.n))).get b=none:=fun b hb=>Qek hrn fun k hk=>by omega
  by_cases n:i<q.es.length
  ·obtain⟨e,he⟩:=Qak n;obtain⟨Q,hto⟩:=hw.esn e (Zaa he);have C:∀k:Nat,k<q.n->(hp (rowsL (SE.rowE (q.es.take i) tru) (List.range q.n))).get (300+k)=some (.cells 0 (SE.rowE (q.es.take i) tru k)):=fun k hk=>Qcc Za3 hrn (Zau.2 hk);have E:=C e.1 Q;have a:=QlH (left:=tru) he;have hpl:=QcM (q.es.take i) tru e.1;rw[Zap]at hpl;have z:=QbH (ZO (q.es.take i) tru e.1);refine Zc5 (Zdc @ZaW @ZaT n (QaR he) hr0 hto) ?_;refine QcU [(40,[300+e.1])] rfl ?_ ?_;·exact Qdq (a:=[103]) (b:=[115,300+e.1,114]) rfl rfl (fun x S=>by simp only[Zav,Za2,or_false]at S⊢;omega) QgS
   have hfr1:e.1+1<=q.n:=by omega
   refine Zc5 (Zde hr0 Q E z (fun f=>QgU (f:=f) Q) (fun f v=>QlC (f:=f) (v:=v) Q) @ZbH hfr1) ?_;refine⟨⟨⟨_,rfl,fun b hb=>hb⟩,trivial⟩,i+1,by omega,by omega,?_⟩;have X:∀k b g,(fun k=>if k=e.1 then Src.blk (300+e.1) 1 else Src.blk (300+k) 0) k=.blk b g->b=300+k:=by
    intro k b g w;dsimp only at w;split at w<;>cases w;·rename_i N;rw[N]
    rfl
   refine⟨[(50,.blk 50 0),(51,.blk 51 0),(52,.blk 52 0),(53,.blk 53 0),(78,.blk 78 0)]++psL (fun k=>if k=e.1 then Src.blk (300+e.1) 1 else Src.blk (300+k) 0) (List.range q.n),QdS (A:=[(50,.blk 50 0),(51,.blk 51 0),(52,.blk 52 0),(53,.blk 53 0),(78,.blk 78 0)]) (L:=[(50,_),(51,_),(52,_),(53,_),(78,_)]) (QcJ Za3 hrn (fun k hk j hj hkj b g b' g' h1 w=>?_)) rfl (by decide) (fun p hp b g hb k hk b' g' h1=>?_),ZcA,?_,au35⟩;·have :=X k b g h1;have:=X j b' g' w;omega
   ·have w:=X k b' g' h1;simp only[Zav,Za2,or_false]at hp;rcases hp with rfl|rfl|rfl|rfl|rfl<;>cases hb<;>omega
   refine ZcE rfl rfl gg (Zct o) (ZcE rfl rfl gg (Zct f) (ZcE rfl rfl gg (Zct u) (ZcE rfl rfl gg (Zct rfl) (ZcE rfl rfl gg (Qdh fun k hk=>?_) (QcT fun k hk=>?_)))))
   ·have I:=Qc0 (s:=fun k=>if k=e.1 then Src.blk (300+e.1) 1 else Src.blk (300+k) 0) hk (A:=[(50,.blk 50 0),(51,.blk 51 0),(52,.blk 52 0),(53,.blk 53 0),(78,.blk 78 0)]) (by decide);unfold updF SE.ptrE;rw[a];by_cases w:k=e.1;·subst w;rw[if_pos rfl,if_pos ⟨rfl,rfl⟩,Zag];exact Rn.x1 rfl (by rw[I];simp)
    rw[if_neg w,if_neg (fun N=>w N.1.symm),Zas];exact Rn.x1 rfl (by rw[I];simp[w])
   have I:=Qc0 (s:=fun k=>if k=e.1 then Src.blk (300+e.1) 1 else Src.blk (300+k) 0) hk (A:=[(50,.blk 50 0),(51,.blk 51 0),(52,.blk 52 0),(53,.blk 53 0),(78,.blk 78 0)]) (by decide);have T:=Zau.1 hk;by_cases w:k=e.1;·subst w;refine ZcE rfl (b:=300+e.1) (g:=1) (by rw[I];simp) gg (RnL.eq ?_ (Qag _)) ZcD;unfold SE.rowE;rw[a,if_pos ⟨rfl,rfl⟩,Zao];rfl
   refine ZcE rfl (b:=300+k) (g:=0) (ds:=SE.rowE (q.es.take i) tru k) (by rw[I];simp[w]) (by first|(simp(disch:=omega)only[QaA,QaH,Qa0,C k T];done)|(simp(disch:=omega)only[QaA,QaH,Qa0,C k T];rfl)) (RnL.eq ?_ (Qag _)) ZcD;unfold SE.rowE;rw[a,if_neg (fun N=>w N.1.symm),Zas]
  have e:i=q.es.length:=by omega
  subst e;refine Zc5 (Zc9 @ZaW @ZaT n) ?_;refine⟨(),[(50,.blk 50 0),(51,.blk 51 0),(52,.blk 52 0),(53,.blk 53 0),(78,.blk 78 0)],rfl,ZcA,?_,au35⟩;refine ZcE rfl rfl gg (Zct o) (ZcE rfl rfl gg (Zct f) (ZcE rfl rfl gg (Zct u) (ZcE rfl rfl gg (Zct rfl) (ZcE rfl rfl gg (Qdh fun k hk=>?_) ZcD))));have T:=Zau.1 hk;have hr:=Qcc (f:=SE.rowE q.es tru) Za3 hrn hk;have b0:∀m:Nat,m<300->Nat.beq (300+k) m=false:=fun m hm=>by rw[ZaI];simp;try omega
  exact ZcL (by first|(simp(disch:=omega)only[QaA,QaH,Qa0,hr];done)|(simp(disch:=omega)only[QaA,QaH,Qa0,hr];rfl)) (by simp[srcNew,b0]) (by simp) rfl (QbH _) (Zct (Qag _))
 rintro _ _;refine Zc4 ?_;have hcl:=clone86 (nz q.al) (by rw[Qfu];omega);rw[QbE]at hcl;refine cp hcl ?_;refine Zc4 ?_;refine Qbe ?_;refine Zc4 ?_;refine Qbz (x:=0) (f:=numF [0]) (l:=[]) (by simp) (by decide) ?_;refine Zc4 ?_;have hms0:mks q 0 [0]=[]:=rfl;have hwf:WfA (flt q pm):=QjU hw;have y:SI q.n (flt q pm).es tru 0 (([0],[]):OE):=by refine⟨⟨by simp,fun x S=>by simp at S;omega⟩,fun x S=>rfl,Zaj _,fun j v hj=>by omega,by simp⟩
 have Y:sQ (flt q pm).es tru (q.n+1) 0 ([0],[])=sAll (flt q pm) tru:=by unfold sAll;rw[if_pos (by show(decide (0<q.n)&&true)=true;rw[decide_eq_true hq0];rfl)];rfl
 refine Qas 180 (fun t:Nat×OE=>[(4,.ptr 51 0 0),(6,.ptr 53 0 0),(8,CLO),(9,.sl 78 0 0 q.n 1),(12,.ptr 69 0 0),(13,.sl 75 0 0 t.2.1.length 1),(14,.map 74 0),(15,.int .i64 t.1)]) (fun t=>[(50,.cells 0 (ceCl c)),(51,.cells 0 (spCl q A B P F)),(52,.cells 0 [gdsV l]),(53,.cells 0 [.nilsl,.int .i64 0,.nilsl,.nilsl]),(78,.cells 0 ((List.range q.n).map (frzE q.es tru))),(69,.cells 0 [ZN q.al,.int .i64 0,.sl 77 0 0 (mks q t.1 t.2.1).length 1,.sl 76 0 0 (t.2.2).length 3]),(74,.map 0 (mapF .i64 (numF (t.2.1)) (t.2.1))),(75,.cells 0 (ZI (nz (t.2.1)))),(76,.cells 0 ((t.2.2).flatMap edC)),(77,.cells 0 (ZI (nz (mks q t.1 t.2.1))))]) (fun t=>t.1<=q.n/\SI q.n (flt q pm).es tru t.1 t.2/\t.2.2.length<=t.1*1000000/\sQ (flt q pm).es tru (q.n+1-t.1) t.1 t.2=sAll (flt q pm) tru) (fun t=>q.n+1-t.1) (0,([0],[])) 2 260 (fun _:Unit=>[(6,.ptr 53 0 0),(12,.ptr 69 0 0),(13,.sl 75 0 0 (sAll (flt q pm) tru).1.length 1)]) (fun _=>[(53,.cells 0 [.nilsl,.int .i64 0,.nilsl,.nilsl]),(69,.cells 0 [ZN q.al,.int .i64 0,.sl 77 0 0 (ZR (flt q pm) tru).ms.length 1,.sl 76 0 0 (ZR (flt q pm) tru).es.length 3]),(75,.cells 0 (ZI (nz (sAll (flt q pm) tru).1))),(76,.cells 0 ((ZR (flt q pm) tru).es.flatMap edC)),(77,.cells 0 (ZI (nz (ZR (flt q pm) tru).ms)))]) (fun _=>True) ?_ ⟨Zaj _,y,Zaj _,Y⟩ ?_ ?_
 ·dsimp only;rw[hms0];refine⟨[(50,.blk 50 0),(51,.blk 51 0),(52,.blk 52 0),(53,.blk 53 0),(78,.blk 78 0),(69,.blk 165 0),(74,.blk 168 0),(75,.blk 167 0),(76,.nil),(77,.nil)],rfl,ZcA,?_,au35⟩;refine ZcE rfl rfl gg (Zct o) (ZcE rfl rfl gg (Zct f) (ZcE rfl rfl gg (Zct u) (ZcE rfl rfl gg (Zct rfl) (ZcE rfl rfl gg (Zct (Qaq _ _ _)) ?_))));repeat'(first|exact ZcD|(refine Zct ?_;first|rfl|(simp only[noRef,noRefs,Qaf,Zae,Zad,Zai,Qaa,Qah,Qab,Qar,Qaj,QaS,Qag,SU.Qa2,SU.QaX,SU.Qbc,Qa8,Qa9,QaD,QaP,Qaz,QaG,QaT,Qaq,Qal];done))|exact ZcR rfl|exact ZcJ|exact(True.intro:RnM _ _ _ [] [])|refine ZcK ?_ ?_|(refine Zcs ?_;first|rfl|(simp only[noRef,noRefs,Qaf,Zae,Zad,Zai,Qaa,Qah,Qab,Qar,Qaj,QaS,Qag,SU.Qa2,SU.QaX,SU.Qbc,Qa8,Qa9,QaD,QaP,Qaz,QaG,QaT,Qaq,Qal];done))|exact Rn.x1 rfl rfl|exact Rn.x2 rfl rfl|exact Rn.x3 rfl rfl|exact Rn.x4 rfl rfl|exact Rn.x5 rfl|exact Rn.x6 rfl|exact Rn.x7 rfl|refine ZcF rfl rfl ?_|refine ZcE rfl rfl rfl ?_ ?_|refine ZcG rfl rfl rfl ?_ ?_|refine ZcH rfl rfl ?_ ?_|refine ZcI rfl rfl ?_ ?_)
  refine ZcW (l:=[0]) fun x S=>?_;have:x=0:=by simpa using S
  subst this;exact Zcs rfl
 ·rintro⟨i,s⟩⟨hi,y,hsl,hq⟩;dsimp only at hi y hsl hq⊢;have hfl:=y.fi.len;have hile:=y.le;by_cases n:i<s.1.length
  ·obtain⟨v,M⟩:=Qak n;have J:=y.fi.lt v (Zaa M);have hin':i<q.n:=by omega
   have hsi':=y.step hwf.esn M;have hq':sQ (flt q pm).es tru (q.n+1-(i+1)) (i+1) (sRow (flt q pm).es tru i v s)=sAll (flt q pm) tru:=by rw[<-hq,show q.n+1-i=(q.n+1-(i+1))+1 by omega];simp only[sQ,M]
   have hol:=QcM q.es tru v;obtain⟨d,hfv⟩:∃d:Ed->Bool,d=fun e:Ed=>pm v e.2.1:=⟨_,rfl⟩;have hfe:∀e:Ed,d e=pm v e.2.1:=fun e=>by rw[hfv]
   have hso:ZO (flt q pm).es tru v=(ZO q.es tru v).filter d:=by rw[hfv];exact QvD v
   have E:=fun j=>Qc5 (n:=q.n) (left:=tru) i (((ZO q.es tru v).take j).filter d) s (fun e he=>⟨(hw.esn e (QaV.1 (ZaX (ZaZ.1 he).1)).1).2,rfl⟩) y.fi y.lft;have hmsl:=@Qfy q (i+1) s.1;have hml0:=@Qfy q i s.1;have L:=QfZ (a:=q) M;have Z:∀j,mks q (i+1) ((((ZO q.es tru v).take j).filter d).foldl (sEd i) s).1=mks q (i+1) s.1:=fun j=>by obtain⟨_,_,⟨t,ht⟩,_⟩:=E j;rw[ht,Qkf n]
   have hRf:((ZO q.es tru v).filter d).foldl (sEd i) s=sRow (flt q pm).es tru i v s:=by rw[<-hso];rfl
   have H:=Z (ZO q.es tru v).length;rw[Zan,hRf]at H;have hsl3:(sRow (flt q pm).es tru i v s).2.length=s.2.length+(ZO (flt q pm).es tru v).length:=Qcx _ _;have hol2:=QcM (flt q pm).es tru v;have hfel:(flt q pm).es.length<=1000000:=ZaC (Za4 _ _) hel;have hc:=contains62 (nz q.ms) v (by simp;omega);rw[QbE,QeU]at hc;have hmx:(ZI (nz (mks q i s.1))).length=(mks q i s.1).length*1:=by simp[ZI]
   refine Zc5 (Zc8 n (QbG (nz_at M))) ?_;refine cp hc ?_;have h75:(ZI (nz s.1))[i]?=some (.int .i64 (v:Int)):=QbG (nz_at M);apply Qug (m:=0) (E:=[(4,.ptr 51 0 0),(6,.ptr 53 0 0),(8,CLO),(9,.sl 78 0 0 q.n 1),(12,.ptr 69 0 0),(13,.sl 75 0 0 ((((ZO q.es tru v).take 0).filter d).foldl (sEd i) s).1.length 1),(14,.map 74 0),(15,.int .i64 i),(80,egsN (ZO q.es tru v)),(81,.int .i64 (ZO q.es tru v).length),(82,.int .i64 (0:Nat))]) (L:=[(50,.cells 0 (ceCl c)),(51,.cells 0 (spCl q A B P F)),(52,.cells 0 [gdsV l]),(53,.cells 0 [.nilsl,.int .i64 0,.nilsl,.nilsl]),(78,.cells 0 ((List.range q.n).map (frzE q.es tru))),(69,.cells 0 [ZN q.al,.int .i64 0,.sl 77 0 0 (mks q (i+1) s.1).length 1,.sl 76 0 0 (((((ZO q.es tru v).take 0).filter d).foldl (sEd i) s).2).length 3]),(74,.map 0 (mapF .i64 (numF (((((ZO q.es tru v).take 0).filter d).foldl (sEd i) s).1)) (((((ZO q.es tru v).take 0).filter d).foldl (sEd i) s).1))),(75,.cells 0 (ZI (nz (((((ZO q.es tru v).take 0).filter d).foldl (sEd i) s).1)))),(76,.cells 0 ((((((ZO q.es tru v).take 0).filter d).foldl (sEd i) s).2).flatMap edC)),(77,.cells 0 (ZI (nz (mks q (i+1) s.1))))]) (q.ms.contains v);rotate_left;·intro G key;rw[if_pos G]at L;rw[G];refine Zc5 (Zdb n h75 hmx J (fun e f=>QiD (es:=e) (left:=f) J)) ?_;refine key _ _ _ ?_;rw[L,Zb5,List.filter_nil,List.foldl_nil];rw[Zag,QaM,QaB];refine⟨[(50,.blk 50 0),(51,.blk 51 0),(52,.blk 52 0),(53,.blk 53 0),(78,.blk 78 0),(69,.blk 69 0),(74,.blk 74 0),(75,.blk 75 0),(76,.blk 76 0),(77,.blk 77 1)],rfl,au0,?_,au35⟩;refine ZcE rfl rfl gg (Zct o) (ZcE rfl rfl gg (Zct f) (ZcE rfl rfl gg (Zct u) (ZcE rfl rfl gg (Zct rfl) (ZcE rfl rfl gg (Zct (Qaq _ _ _)) ?_))));refine ZcE rfl rfl gg (ZcK (Zcs (Qab _)) (ZcK (Zcs rfl) (ZcK (Rn.x1 rfl rfl) (ZcK (Rn.x1 rfl rfl) ZcJ)))) (ZcG rfl rfl gg (ZcW fun x _=>Zcs rfl) (ZcE rfl rfl gg (Zct (Qaa _)) (ZcE rfl rfl gg (Zct (Qag _)) (ZcE rfl rfl gg (Zct (SU.Qav (Qaa _) (Qaa _))) ZcD))))
   ·intro G key;rw[if_neg (by rw[G];decide),Zas]at L;rw[G];refine Zc5 (Zdb n h75 hmx J (fun e f=>QiD (es:=e) (left:=f) J)) ?_;refine key _ _ _ ?_;rw[L,Zb5,List.filter_nil,List.foldl_nil];exact bSkUV
   intro nn TT hh hrec;refine Qas 300 (fun j:Nat=>[(4,.ptr 51 0 0),(6,.ptr 53 0 0),(8,CLO),(9,.sl 78 0 0 q.n 1),(12,.ptr 69 0 0),(13,.sl 75 0 0 ((((ZO q.es tru v).take j).filter d).foldl (sEd i) s).1.length 1),(14,.map 74 0),(15,.int .i64 i),(80,egsN (ZO q.es tru v)),(81,.int .i64 (ZO q.es tru v).length),(82,.int .i64 j)]) (fun j=>[(50,.cells 0 (ceCl c)),(51,.cells 0 (spCl q A B P F)),(52,.cells 0 [gdsV l]),(53,.cells 0 [.nilsl,.int .i64 0,.nilsl,.nilsl]),(78,.cells 0 ((List.range q.n).map (frzE q.es tru))),(69,.cells 0 [ZN q.al,.int .i64 0,.sl 77 0 0 (mks q (i+1) s.1).length 1,.sl 76 0 0 (((((ZO q.es tru v).take j).filter d).foldl (sEd i) s).2).length 3]),(74,.map 0 (mapF .i64 (numF (((((ZO q.es tru v).take j).filter d).foldl (sEd i) s).1)) (((((ZO q.es tru v).take j).filter d).foldl (sEd i) s).1))),(75,.cells 0 (ZI (nz (((((ZO q.es tru v).take j).filter d).foldl (sEd i) s).1)))),(76,.cells 0 ((((((ZO q.es tru v).take j).filter d).foldl (sEd i) s).2).flatMap edC)),(77,.cells 0 (ZI (nz (mks q (i+1) s.1))))]) (fun j=>j<=(ZO q.es tru v).length) (fun j=>(ZO q.es tru v).length-j) 0 4 400 (fun _:Unit=>[(4,.ptr 51 0 0),(6,.ptr 53 0 0),(8,CLO),(9,.sl 78 0 0 q.n 1),(12,.ptr 69 0 0),(13,.sl 75 0 0 (sRow (flt q pm).es tru i v s).1.length 1),(14,.map 74 0),(15,.int .i64 i)]) (fun _=>[(50,.cells 0 (ceCl c)),(51,.cells 0 (spCl q A B P F)),(52,.cells 0 [gdsV l]),(53,.cells 0 [.nilsl,.int .i64 0,.nilsl,.nilsl]),(78,.cells 0 ((List.range q.n).map (frzE q.es tru))),(69,.cells 0 [ZN q.al,.int .i64 0,.sl 77 0 0 (mks q (i+1) s.1).length 1,.sl 76 0 0 ((sRow (flt q pm).es tru i v s).2).length 3]),(74,.map 0 (mapF .i64 (numF ((sRow (flt q pm).es tru i v s).1)) ((sRow (flt q pm).es tru i v s).1))),(75,.cells 0 (ZI (nz ((sRow (flt q pm).es tru i v s).1)))),(76,.cells 0 (((sRow (flt q pm).es tru i v s).2).flatMap edC)),(77,.cells 0 (ZI (nz (mks q (i+1) s.1))))]) (fun _=>True) hrec (Zaj _) ?_ ?_
   ·rintro j hj;by_cases O:j<(ZO q.es tru v).length
    ·obtain⟨e,he⟩:=Qak O;have hem:=QaV.1 (Zaa he);have hto:=(hw.esn e hem.1).2;have he5:=hev e hem.1;have hft:=Quf (f:=d) he;obtain⟨k1,_,⟨tt,htt⟩,_,_⟩:=E j;have hfi:=k1.len;have hnd:=k1.nd;have hsl2:=Qcx (i:=i) (((ZO q.es tru v).take j).filter d) s;have hfll:(((ZO q.es tru v).take j).filter d).length<=(ZO q.es tru v).length:=by have h1:=Za4 d ((ZO q.es tru v).take j);rw[Zap]at h1;omega
     have hp:=hpm v e.2.1 J he5;rw[<-hfe e]at hp;have hvt:((((ZO q.es tru v).take j).filter d).foldl (sEd i) s).1[i]?=some v:=by rw[htt,ZaP n];exact M
     have R:=(Zaf.1 hvt).1;have h76:=QbG (nz_at hvt);have a:(((ZO q.es tru v).take (j+1)).filter d).foldl (sEd i) s=(if d e=true then[e]else[]).foldl (sEd i) ((((ZO q.es tru v).take j).filter d).foldl (sEd i) s):=by rw[hft,Zba]
     generalize(((ZO q.es tru v).take j).filter d).foldl (sEd i) s=t at*;have z:=QbH t.2;cases K:d e with|false=>rw[K]at hp;refine Zc5 (Zda O (QaR he) R h76) ?_;refine Qk8 (ZcQ (ZcT (Zcy _) (ZcT (Zcy _) (ZcT (ZcP gg (Zcz _)) (ZcT (ZcP gg (Zcz _)) (ZcT (ZcP gg (Zcz _)) ZcS))))) hp rfl) ?_;refine Zc4 ?_;rw[K,if_neg (by decide),List.foldl_nil]at a;refine⟨j+1,by omega,by omega,?_⟩;rw[a];refine⟨[(50,.blk 50 0),(51,.blk 51 0),(52,.blk 52 0),(53,.blk 53 0),(78,.blk 78 0),(69,.blk 69 0),(74,.blk 74 0),(75,.blk 75 0),(76,.blk 76 0),(77,.blk 77 0)],rfl,au0,?_,au35⟩;refine ZcE rfl rfl gg (Zct o) (ZcE rfl rfl gg (Zct f) (ZcE rfl rfl gg (Zct u) (ZcE rfl rfl gg (Zct rfl) (ZcE rfl rfl gg (Zct (Qaq _ _ _)) ?_))));refine ZcE rfl rfl gg (ZcK (Zcs (Qab _)) (ZcK (Zcs rfl) (ZcK (Rn.x1 rfl rfl) (ZcK (Rn.x1 rfl rfl) ZcJ)))) (ZcG rfl rfl gg (ZcW fun x _=>Zcs rfl) (ZcE rfl rfl gg (Zct (Qaa _)) (ZcE rfl rfl gg (Zct (Qag _)) (ZcE rfl rfl gg (Zct (Qaa _)) ZcD))))|true=>
      rw[K]at hp;refine Zc5 (Zda O (QaR he) R h76) ?_;refine Qk8 (ZcQ (ZcT (Zcy _) (ZcT (Zcy _) (ZcT (ZcP gg (Zcz _)) (ZcT (ZcP gg (Zcz _)) (ZcT (ZcP gg (Zcz _)) ZcS))))) hp rfl) ?_;refine Zc4 ?_;rw[K,if_pos rfl,ZaS,List.foldl_nil]at a;by_cases hc:e.2.2∈t.1;·have w:sEd i t e=(t.1,t.2++[(i,e.2.1,idx t.1 e.2.2)]):=if_pos (by simpa using hc);rw[w]at a;refine Qci ?_;refine Zc4 ?_;refine wK_in hc ?_;refine Zc5 z ?_;refine⟨j+1,by omega,by omega,?_⟩;rw[a,Zao,Zag];refine⟨[(50,.blk 50 0),(51,.blk 51 0),(52,.blk 52 0),(53,.blk 53 0),(78,.blk 78 0),(69,.blk 69 0),(74,.blk 74 0),(75,.blk 75 0),(76,.blk 76 1),(77,.blk 77 0)],rfl,au0,?_,au35⟩;refine ZcE rfl rfl gg (Zct o) (ZcE rfl rfl gg (Zct f) (ZcE rfl rfl gg (Zct u) (ZcE rfl rfl gg (Zct rfl) (ZcE rfl rfl gg (Zct (Qaq _ _ _)) ?_))));refine ZcE rfl rfl gg (ZcK (Zcs (Qab _)) (ZcK (Zcs rfl) (ZcK (Rn.x1 rfl rfl) (ZcK (Rn.x1 rfl rfl) ZcJ)))) (ZcG rfl rfl gg (ZcW fun x _=>Zcs rfl) (ZcE rfl rfl gg (Zct (Qaa _)) (ZcE rfl rfl gg (Zct (SU.Qav (Qag _) (Qag [_]))) (ZcE rfl rfl gg (Zct (Qaa _)) ZcD))))
      have w:sEd i t e=(t.1++[e.2.2],t.2++[(i,e.2.1,t.1.length)]):=if_neg (by simpa using hc);rw[w]at a;refine Qci ?_;refine Zc4 ?_;refine Qnn hc ?_;refine Zc5 z ?_;refine Qbe ?_;refine Zc4 ?_;refine Qbz hc (by decide) ?_;have hm:mapF .i64 (updF (numF t.1) e.2.2 (.int .i64 (t.1.length:Int))) (t.1++[e.2.2])=mapF .i64 (numF (t.1++[e.2.2])) (t.1++[e.2.2]):=by
       refine Qjv fun x S=>?_;unfold updF numF;split;·rename_i U;subst U;rw[QdM hc]
       rename_i U;have:x∈t.1:=by
        rcases ZaE.1 S with N|N;·exact N
        exact absurd (by simpa using N) U
       rw[Qde this]
      refine Zc5 (Zc8 hm z) ?_;refine⟨j+1,by omega,by omega,?_⟩;rw[a,Zao,Zag];dsimp only;rw[Zag,QaM,QaB];refine⟨[(50,.blk 50 0),(51,.blk 51 0),(52,.blk 52 0),(53,.blk 53 0),(78,.blk 78 0),(69,.blk 69 0),(74,.blk 74 0),(75,.blk 75 1),(76,.blk 76 1),(77,.blk 77 0)],rfl,au0,?_,au35⟩;refine ZcE rfl rfl gg (Zct o) (ZcE rfl rfl gg (Zct f) (ZcE rfl rfl gg (Zct u) (ZcE rfl rfl gg (Zct rfl) (ZcE rfl rfl gg (Zct (Qaq _ _ _)) ?_))));refine ZcE rfl rfl gg (ZcK (Zcs (Qab _)) (ZcK (Zcs rfl) (ZcK (Rn.x1 rfl rfl) (ZcK (Rn.x1 rfl rfl) ZcJ)))) (ZcG rfl rfl gg (ZcW fun x _=>Zcs rfl) (ZcE rfl rfl gg (Zct (SU.Qav (Qaa _) (Qaa _))) (ZcE rfl rfl gg (Zct (SU.Qav (Qag _) (Qag [_]))) (ZcE rfl rfl gg (Zct (Qaa _)) ZcD))))
    have e:j=(ZO q.es tru v).length:=by omega
    subst e;refine Zc5 O ?_;refine⟨(),?_⟩;rw[hRf];exact bSkUV
   rintro _ _;refine Zc4 ?_;refine⟨(i+1,sRow (flt q pm).es tru i v s),by dsimp only;omega,⟨hin',hsi',by dsimp only;omega,hq'⟩,?_⟩;dsimp only;rw[H];exact bSkUV
  have M:s.1[i]?=none:=ZaG (by omega);have V:s=sAll (flt q pm) tru:=by rw[<-hq,show q.n+1-i=(q.n-i)+1 by omega];simp only[sQ,M]
  have hil:i=s.1.length:=by omega
  have hmf:mks q i s.1=(ZR (flt q pm) tru).ms:=by rw[hil,V];rfl
  have hef:s.2=(ZR (flt q pm) tru).es:=by rw[V];rfl
  refine Zc5 n ?_;refine⟨(),?_⟩;rw[hmf,hef,<-V];exact⟨[(53,.blk 53 0),(69,.blk 69 0),(75,.blk 75 0),(76,.blk 76 0),(77,.blk 77 0)],rfl,au0,au36,au35⟩
 rintro _ _;have hra:(ZR (flt q pm) tru).al=q.al:=rfl;have hrn2:(ZR (flt q pm) tru).n=(sAll (flt q pm) tru).1.length:=rfl;refine Zc4 ?_;refine⟨.inr trivial,_,rfl,?_⟩;refine Rn.tup (ZcK (Rn.agg (ZcK (Zcs (Qab _)) (ZcK (Zcs rfl) (ZcK (ZcM gg (by simp[ZI,nz]) (Zct (Qaa _))) (ZcK (ZcM gg (QbH _) (Zct (Qag _))) ZcJ))))) (ZcK (ZcM gg (by simp[ZI,nz]) (Zct (Qaa _))) ZcJ))
end Go.AM.SO
namespace Go.AM.SO
open Go.Proofs Go.AM.SD Go.AM.SE
theorem QvE{l:List Gdn}{T}{ev}(h:l.Pairwise fun y z=>y.ev<z.ev){g}(c:g∈l)(he:g.ev=ev):(!true||l.any fun g=>decide (g.ev=ev)&&inBs g.bs T)=inBs g.bs T:=by rw[Bool.not_true,Bool.false_or];cases a:inBs g.bs T with|true=>exact Za8.2 ⟨g,c,by rw[decide_eq_true he,a];rfl⟩|false=>
 rw[ZbB];intro y d;by_cases b:y.ev=ev;·have :y=g:=Qp1 h d c (by rw[b,he]);subst this;rw[a,Bool.and_false];decide
 rw[decide_eq_false b,ZbQ];decide
variable{q p:Aut}{A B:List (List Nat)}{P:List Nat}{F:List (Nat×Int×Int×Int)}{c:Cel}
end Go.AM.SO
namespace Go.AM.SO
open Go.Proofs Go.AM.SD Go.AM.SE
variable{q:Aut}{b:Bxn}{c:Cel}{g:Gdn}{h:Int}{A:List (List Int)}{v:List (List UInt8×Int)}{d es:List Ed}{l:List Gdn}{a x:List Int}{G:List Int->Bxn}{t:List Nat}{i k o:Nat}{left:Nat->Bool}{f:Nat->List Ed}{pm:Nat->Nat->Bool}{α:Type}
theorem edges46(x)(h:WfA x)(g:x.es.length<=1000000):Ps 46 [aV x] (emV x):=by
 refine Zcu 64 (Ok VK.s46) rfl (by(try simp only[noRefs,Qaa,Qag,noRef,noRefs,QaP,QaD,Qaz,QaG,QaT,Zae,Zad])<;>rfl) (Qbv x) ?_;unfold VK.s46;refine Zc4 ?_;refine Qas 100 (fun j:Nat=>[(3,.map 77 0),(8,egsN x.es),(9,.int .i64 x.es.length),(10,.int .i64 j)]) (fun j=>[(77,.map 0 (mapG kP (vE x.es) ((x.es.take j).map pE)))]) (fun j=>j<=x.es.length) (fun j=>x.es.length-j) 0 0 200 (fun _:Unit=>[(3,emV x)]) (fun _=>[]) (fun _=>True) ?_ (Zaj _) ?_ ?_;·refine⟨[(77,.blk 66 0)],rfl,au0,?_,au35⟩;exact ZcG rfl rfl gg (ZcX fun _ _=>⟨rfl,rfl⟩) ZcD
 ·rintro j i;by_cases a:j<x.es.length
  ·obtain⟨e,he⟩:=Qak a;have d:=QaR he;have c:3<=((x.es.flatMap edC).drop (j*3)).length:=by rw[d];simp
   have b:=QnT h.es he;have f:=Qsy h.es (Zaa he);refine Zc5 (Zc9 a d c) ?_;refine Qcn (c:=kP) (f:=vE x.es) (x:=(e.1,e.2.1)) (l:=(x.es.take j).map pE) (g:=0) gg QfC b (by omega) ?_;rw[f];refine Zc4 ?_;refine⟨j+1,by omega,by omega,?_⟩;rw[take_succ' he,ZaJ];refine⟨[(77,.blk 77 0)],rfl,au0,?_,au35⟩;exact ZcG rfl rfl gg (ZcX fun _ _=>⟨rfl,rfl⟩) ZcD
  have e:j=x.es.length:=by omega
  subst e;refine Zc1 a ?_;exact⟨(),[],rfl,ZcA,ZcD,ZcC (Rn.fzM (b:=77) (g:=0) gg rfl rfl fun _ _=>⟨rfl,rfl⟩) ZcB⟩
 rintro _ _;refine Zc4 ?_;exact⟨.inr trivial,_,rfl,Zcs (Qbv x)⟩
theorem QjV:∀{es:List Ed}{d:Ed},d∈es->(ZA es d.1 d.2.1).isSome=true
 |x::es,d,h=>by
  rw[Qgc];split;·rfl
  rcases Zav.1 h with rfl|h;·rename_i a;exact absurd ⟨rfl,rfl⟩ a
  exact QjV h
theorem has50(x)(s e:Nat):Ps 50 [emV x,.int .i64 (s:Int),.int .i64 (e:Int)] (.bool (decide (0<=stepI x.es s e))):=by
 refine Zcv 64 (Ok VK.s50) rfl (by rw[noRefs,Qbv];rfl) rfl ?_;have f:decide (0<=stepI x.es s e)=(ZA x.es s e).isSome:=by unfold stepI;cases ZA x.es s e with|none=>rfl|some to=>exact decide_eq_true (ZaV _)
 rw[f];unfold VK.s50;refine Zc4 ?_;cases a:ZA x.es s e with|none=>
  have hk:(s,e)∉x.es.map pE:=fun hm=>by obtain⟨d,g,b⟩:=Zaq.1 hm;unfold pE at b;simp only[Zal]at b;have c:=QjV g;rw[b.1,b.2,a]at c;cases c
  refine Qgj (c:=kP) (f:=vE x.es) (x:=(s,e)) (l:=x.es.map pE) QfC hk ?_;refine Zc4 ?_;exact⟨.inr trivial,_,rfl,rfl⟩|some to=>refine QeZ (c:=kP) (f:=vE x.es) (x:=(s,e)) (l:=x.es.map pE) QfC (QcN a) ?_;refine Zc4 ?_;exact⟨.inr trivial,_,rfl,rfl⟩
abbrev Qc(c:Cel):Aut:=syncA (allA c)
abbrev Tc(c:Cel):List (List Nat):=(Z0 (allA c)).1
abbrev Pc(c:Cel):Aut:=syncA (auL c.cs)
theorem QvF(c):(ZV c).map (·.2)=(allA c).map fun a=>(a.n:Int)-1:=by unfold ZV allA auL;simp[ZaJ,Zci,Function.comp_def,vrI]
theorem wB_c(h:WfCel c):WfB (Qc c):=QdZ (Qb9 h) (by rw[Qck];have:=h.c3;have:=h.r2;omega)
theorem wP_c(h:WfCel c):WfB (Pc c):=QdZ (Qbt h) (by have:=h.c3;simp[auL];omega)
theorem q0_c:0<(Qc c).n:=by obtain⟨t,a⟩:=@sync_pre (allA c);show 0<(Z0 (allA c)).1.length;rw[<-a];simp
theorem tup_c(h:WfCel c)(l:t∈Tc c):t.length=(ZV c).length/\∀(j:Nat)x,(ZV c)[j]?=some x->0<=(nz t).getD j 0/\(nz t).getD j 0<=x.2:=by
 have f:=(QdY (fun a b=>(Qb9 h a b).pos) (fun a b=>(Qb9 h a b).wf.esn)).inT t l;have m:(ZV c).length=(allA c).length:=by rw[QiK,Qck]
 refine⟨by rw[f.1,m],fun j x g=>?_⟩;have n:=(Zaf.1 g).1;obtain⟨a,b⟩:=Qak (l:=allA c) (i:=j) (by omega);have k:=f.2 j a b;have d:((ZV c).map (·.2))[j]?=some ((a.n:Int)-1):=by rw[QvF,ZaA,b];rfl
 rw[ZaA,g]at d;have d:x.2=(a.n:Int)-1:=ZbZ d;obtain⟨y,i⟩:=Qak (l:=t) (i:=j) (by rw[f.1];omega);rw[Qaw i]at k;rw[Qaw (nz_at i),d];omega
theorem wld_c(h:WfCel c)(v)(d:v<(Qc c).n):∃t y,(Tc c)[v]?=some t/\(spA c (Tc c))[v]?=some (t.take c.cs.length)/\(spB c (Tc c))[v]?=some (t.drop c.cs.length)/\(spP c (Z0 (auL c.cs)).1 (Tc c))[v]?=some y/\t.length=(ZV c).length/\c.cs.length<=t.length/\tplQ (spA c (Tc c)) (spB c (Tc c)) v=nz t:=by
 obtain⟨t,a⟩:=Qak (l:=Tc c) d;obtain⟨h1,_⟩:=tup_c h (Zaa a);have hA:(spA c (Tc c))[v]?=some (t.take c.cs.length):=by unfold spA;rw[ZaA,a];rfl
 have b:(spB c (Tc c))[v]?=some (t.drop c.cs.length):=by unfold spB;rw[ZaA,a];rfl
 refine⟨t,_,a,hA,b,by unfold spP;rw[ZaA,a];rfl,h1,by rw[h1,QiK];omega,?_⟩;unfold tplQ;rw[Qaw hA,Qaw b,Za9]
structure GOk(ct:Nat->Bool)(v:List (List UInt8×Int))(l:List Gdn):Prop where
 inc:l.Pairwise fun y z=>y.ev<z.ev
 ev:∀g∈l,(0<=g.ev/\g.ev<5)/\ct g.ev.toNat=true
 bl:∀g∈l,g.bs.length<=1000
 bx:∀g∈l,∀b∈g.bs,BxOk v b
theorem QjW{f}:∀{n:Nat},(∀i,i<n->f i=0)->fe f n=0|0,_=>rfl|n+1,h=>by rw[fe,QjW (fun i hi=>h i (by omega)),if_pos rfl,h n (by omega)]
theorem Quh(h:BxOk v b):bxE v b=0:=by unfold bxE;rw[if_pos ⟨h.1,h.2.1⟩];refine QjW fun j c=>?_;obtain⟨x,a⟩:=Qak (l:=v) (i:=j) c;have:=h.2.2 j x a;unfold vrE;rw[Qaw a,if_neg (by omega)]
theorem GOk.err{ct}(h:GOk ct v l):gdsE ct v l=0:=by
 unfold gdsE;refine QjW fun i hi=>?_;obtain⟨x,a⟩:=Qak (l:=l) (i:=i) hi;have hm:=Zaa a;obtain⟨h1,q⟩:=h.ev x hm;rw[Qaw a];unfold gdE;rw[if_neg (by omega),if_neg (by rw[q];decide),if_neg];·refine QjW fun k hk=>?_;obtain⟨b,c⟩:=Qak (l:=x.bs) (i:=k) hk;rw[Qaw c];exact Quh (h.bx x hm b (Zaa c))
 rintro⟨f,n⟩;have f:¬i=0:=of_decide_eq_false f;obtain⟨y,d⟩:=Qak (l:=l) (i:=i-1) (by omega);rw[Qaw d]at n;obtain⟨o,g⟩:=Zaf.1 a;obtain⟨p,m⟩:=Zaf.1 d;have:=Za0.1 h.inc (i-1) i p o (by omega);rw[g,m]at this;omega
theorem Qs0:∀{l:List Gdn}{a:Int},l.Pairwise (fun y z=>y.ev<z.ev)->(∀g∈l,a<=g.ev/\g.ev<5)->a<=5->(l.length:Int)<=5-a|[],a,_,_,h=>by simp;omega|x::l,a,hp,h,f=>by obtain⟨h1,c⟩:=ZaB.1 hp;have d:=h x (by simp);have:=Qs0 (l:=l) (a:=x.ev+1) c (fun g b=>⟨by have:=h1 g b;omega,(h g (by simp[b])).2⟩) (by omega);rw[ZaD];omega
theorem GOk.len{ct}(h:GOk ct v l):l.length<=5:=by have:=Qs0 (a:=0) h.inc (fun g a=>(h.ev g a).1) (by decide);omega
theorem GOk.r{ct}(h:GOk ct v l)(d:v.length<=1000):GdsR l:=⟨by have:=h.len;omega,fun g a=>by have:=h.bl g a;omega,fun g a b c=>by obtain⟨h1,f,_⟩:=h.bx g a b c;omega⟩
abbrev Ac(c:Cel):List (List Nat):=spA c (Tc c)
abbrev Bc(c:Cel):List (List Nat):=spB c (Tc c)
abbrev PPc(c:Cel):List Nat:=spP c (Z0 (auL c.cs)).1 (Tc c)
abbrev Fc(c:Cel):List (Nat×Int×Int×Int):=forb c (Tc c).length
def pmC(c:Cel)(l:List Gdn):Nat->Nat->Bool:=prmQ (ctC c) l (tplQ (Ac c) (Bc c))
def Lc(c:Cel)(l:List Gdn):Aut:=flt (Qc c) (pmC c l)
theorem Qs1(c)(h:WfCel c)(l)(d:GOk (ctC c) (ZV c) l):Ps 62 [celV c,.agg (spCl (Qc c) (Ac c) (Bc c) (PPc c) (Fc c)),gdsV l] (.tup [aV (ZR (Lc c l) tru),ZN (sAll (Lc c l) tru).1]):=by have f:=wB_c h;have q:=Qdv h;have p:=h.c0;refine loop62 (q:=Qc c) (A:=Ac c) (B:=Bc c) (P:=PPc c) (F:=Fc c) (c:=c) l (pmC c l) f.toWfA q0_c (by have:=f.el;omega) (fun e he=>f.a5 _ (f.ev e he)) fun x e m he=>?_;obtain⟨t,y,_,hA,i,_,o,hk,_⟩:=wld_c h x m;refine permitted127 (q:=Qc c) (P:=PPc c) (F:=Fc c) l x e he hA i (by rw[Zap];omega) (by rw[Zap];omega) (by rw[ZaR];omega) (by have:=d.len;omega) (fun g a=>⟨d.bl g a,fun b n=>?_⟩) d.inc;obtain⟨k,b2,_⟩:=d.bx g a b n;rw[Za9,o];exact⟨k,b2⟩
theorem loop19(c)(h:WfCel c)(l)(b:GOk (ctC c) (ZV c) l):Ps 19 [celV c,gdsV l] (.tup [aV (ZR (Lc c l) tru),ZN (sAll (Lc c l) tru).1,.int .i64 0]):=by have a:=check35 c h l (b.r (by have:=Qdv h;omega));rw[b.err]at a;have hO:=specify18 c h;have d:=Qs1 c h l b;have f:=Qbh c;rw[spC,spG]at hO;refine Zcu 64 (Ok UK.s19) rfl (by rw[noRefs,SU.QaY,noRefs,Qbj];rfl) (by simp only[noRef,noRefs,Qaa,Qag];rfl) ?_;generalize ZR (Lc c l) tru=R at*;generalize(sAll (Lc c l) tru).1=O at*;unfold UK.s19;refine Zc4 ?_;refine cp a ?_;refine Zc4 ?_;refine cp hO ?_;refine Zc4 ?_;refine cp d ?_;refine Zc4 ?_;refine⟨.inr trivial,_,rfl,Zcs ?_⟩;simp only[noRef,noRefs,Qaa,Qag];rfl
def bdQ(pe a:List Ed)(P:List Nat)(T:Nat->List Int)(x:Nat)(g:Gdn):Bool:=decide (0<=stepI pe (P.getD x 0) g.ev.toNat)&&(!decide (0<=stepI a x g.ev.toNat)&&inBs g.bs (T x))
abbrev bdC(c:Cel):Nat->Gdn->Bool:=bdQ (Pc c).es (Qc c).es (PPc c) (tplQ (Ac c) (Bc c))
def verZ(c:Cel)(l:List Gdn):Int:=if(resC c).sup.n=0 then 21 else if autB (ZR (Lc c l) tru) (resC c).sup=true then(if(sAll (Lc c l) tru).1.any (fun x=>l.any (bdC c x))=true then 24 else 0)else 24
theorem Qs2{l:List α}{f:α->Bool}(h:∀(j:Nat)x,l[j]?=some x->f x=false):l.any f=false:=by rw[ZbB];intro x b;obtain⟨j,a,rfl⟩:=ZaO b;rw[h j _ (Zak a)];decide
theorem Qs3{x}(h:WfA x)(he:x.es.length<=1000000):AOk x:=⟨by have:=Qa1 32 x.al (by rw[ZaN];exact h.al.imp fun h=>by omega) h.al5;omega,by have:=Qa1 x.n x.ms h.nd h.msn;have:=h.n5;omega,by omega⟩
theorem verify23(c)(h:WfCel c)(l)(H:GOk (ctC c) (ZV c) l):Ps 23 [celV c,gdsV l] (.int .i64 (verZ c l)):=by
 have K:=check35 c h l (H.r (by have:=Qdv h;omega));rw[H.err]at K;have hC:=cell22 c h;have hP:=plant17 c h;have hL:=Qs1 c h l H;have hnc:=Qbh c;have hl5:=H.len;have u:=wB_c h;have L:=wP_c h;have U:=edges46 (Pc c) L.toWfA (by have:=L.el;omega);have V:=edges46 (Qc c) u.toWfA (by have:=u.el;omega);have o:WfA (Lc c l):=QjU u.toWfA;have J:WfA (ZR (Lc c l) tru):=QeT o;have I:WfA (resC c).sup:=QeT u.toWfA;have hEq:=eq43 _ _ (Qs3 J (by have:=WfA.el1 J;omega)) (Qs3 I (by have:=WfA.el1 I;omega));have X:∀x∈(sAll (Lc c l) tru).1,x<(Qc c).n:=fun x p=>(QbM (left:=tru) o).1.fi.lt x p;rw[spC,spG]at hC;refine Zcv 64 (Ok UK.s23) rfl (by rw[noRefs,SU.QaY,noRefs,Qbj];rfl) rfl ?_;unfold verZ;have Q:=fun s e=>has50 (Pc c) s e;have P:=fun s e=>has50 (Qc c) s e;have n:=Qbv (Pc c);have m:=Qbv (Qc c);generalize emV (Pc c)=M1 at*;generalize emV (Qc c)=M2 at*;generalize hRe:ZR (Lc c l) tru=R at*;generalize hOe:(sAll (Lc c l) tru).1=O at*;generalize hSe:resC c=S at*;have hOl:O.length<=1000000:=by have:=(QbM (left:=tru) o).1.fi.len;have:=o.n5;rw[hOe]at*;show O.length<=_;have:(Lc c l).n<=4096:=o.n5;omega
 unfold UK.s23;refine Zc4 ?_;refine cp K ?_;refine Zc4 ?_;refine cp hC ?_;by_cases h0:(S.sup.n:Int)=0;·refine Zc5 h0 ?_;refine⟨.inr trivial,_,rfl,?_⟩;rw[if_pos (by omega)];rfl
 rw[if_neg (by omega)];refine Zc5 h0 ?_;refine cp hP ?_;refine Zc4 ?_;refine cp hL ?_;refine Zc4 ?_;refine cp hEq ?_;cases hab:autB R S.sup with|false=>refine Zc4 ?_;exact⟨.inr trivial,_,rfl,rfl⟩|true=>
  rw[if_pos rfl];refine Zc4 ?_;refine cp U ?_;refine Zc4 ?_;refine cp V ?_;refine Zc4 ?_;refine QaC 200 (fun i:Nat=>[(1,gdsV l),(6,.ptr 51 0 0),(13,M1),(14,M2),(64,ZN O),(65,.int .i64 O.length),(66,.int .i64 i)]) (fun _=>[(51,.cells 0 (spCl (Qc c) (Ac c) (Bc c) (PPc c) (Fc c)))]) (fun i=>i<=O.length/\∀(j:Nat)x,j<i->O[j]?=some x->l.any (bdC c x)=false) (fun i=>O.length-i) 0 ?_ ⟨Zaj _,fun j x B=>absurd B (Zay _)⟩ ?_;·exact⟨[(51,.blk 78 0)],rfl,ZcA,ZcE rfl rfl gg (Zct Qbd) ZcD,ZcC (Zcs (Qbj _)) (ZcC (Rn.x2 rfl rfl) (ZcC (Zcs n) (ZcC (Zcs m) au35)))⟩
  rintro i⟨hi,N⟩;by_cases C:i<O.length
  ·obtain⟨x,p⟩:=Qak C;have Z:=X x (Zaa p);obtain⟨t,y,_,hA,hB,A,ht,hk,hT⟩:=wld_c h x Z;have hlP:x<(PPc c).length:=(Zaf.1 A).1;have h5:=Qdv h;have hc0:=h.c0;have M:=@tuple49 (Qc c) (Ac c) (Bc c) (PPc c) (Fc c) x _ _ hA hB (by rw[Zap];omega) (by rw[Zap];omega) (by rw[ZaR];omega);rw[Za9]at M;refine Zc5 (Zc8 C (QaI p)) ?_;refine QaC 300 (fun k:Nat=>[(1,gdsV l),(6,.ptr 51 0 0),(13,M1),(14,M2),(64,ZN O),(65,.int .i64 O.length),(66,.int .i64 i),(16,.int .i64 x),(70,gdsV l),(71,.int .i64 l.length),(72,.int .i64 k)]) (fun _=>[(51,.cells 0 (spCl (Qc c) (Ac c) (Bc c) (PPc c) (Fc c)))]) (fun k=>k<=l.length/\∀(j:Nat)g,j<k->l[j]?=some g->bdC c x g=false) (fun k=>l.length-k) 0 ?_ ⟨Zaj _,fun j x B=>absurd B (Zay _)⟩ ?_;·exact⟨[(51,.blk 51 0)],rfl,ZcA,ZcE rfl rfl gg (Zct Qbd) ZcD,ZcC (Zcs (Qbj _)) (ZcC (Rn.x2 rfl rfl) (ZcC (Zcs n) (ZcC (Zcs m) au35)))⟩
   rintro k⟨hk2,q⟩;by_cases G:k<l.length
   ·obtain⟨g,d⟩:=Qak G;have v:=Zaa d;have F:=QdR d;have Y:2<=((l.flatMap gdC).drop (k*2)).length:=by rw[F];simp
    obtain⟨⟨T,he5⟩,_⟩:=H.ev g v;obtain⟨e,he⟩:=Zbq T;have h1:=Q y e;have h2:=P x e;have w:=permits65 g (nz t) (by have:=H.bl g v;omega) (fun b N=>by obtain⟨b1,b2,_⟩:=H.bx g v b N;rw[Qfu,ht];exact⟨b1,b2⟩) (by rw[Qfu];omega);rw[QbE]at w;have a:bdC c x g=(decide (0<=stepI (Pc c).es y e)&&(!decide (0<=stepI (Qc c).es x e)&&inBs g.bs (nz t))):=by unfold bdC bdQ;rw[Qaw A,hT,he];rfl
    generalize decide (0<=stepI (Pc c).es y e)=c1 at*;generalize decide (0<=stepI (Qc c).es x e)=c2 at*;generalize inBs g.bs (nz t)=c3 at*;have he:g.ev=(e:Int):=he;rw[he]at F;have w:Ps 65 [.agg [.int .i64 (e:Int),bxsV g.bs],ZN t] (.bool c3):=by rw[<-he];exact w
    refine Zc5 (Zda G F Y (QaI A)) ?_;refine cp h1 ?_;cases c1 with
    |false=>
     exact br1qm
    |true=>refine Zc4 ?_;refine cp h2 ?_;cases c2 with|true=>
     have a:bdC c x g=false:=a;refine Zc4 ?_;refine⟨k+1,by omega,⟨by omega,fun j z B f=>?_⟩,?_⟩
     ·by_cases E:j=k;·subst E;rw[d]at f;cases f;exact a
      exact q j z (by omega) f
     exact⟨[(51,.blk 51 0)],rfl,ZcA,ZcE rfl rfl gg (Zct Qbd) ZcD,ZcC (Zcs (Qbj _)) (ZcC (Rn.x2 rfl rfl) (ZcC (Zcs n) (ZcC (Zcs m) (ZcC (Zcs (Qab _)) (ZcC (Zcs rfl) (ZcC (Zcs rfl) (ZcC (Zcs rfl) (ZcC (Zcs (Qbj _)) (ZcC (Zcs rfl) (ZcC (Zcs rfl) ZcB))))))))))⟩|false=>refine Zc4 ?_;refine cp M ?_;refine Zc4 ?_;refine cp w ?_;cases c3 with|true=>have a:bdC c x g=true:=a;refine Zc4 ?_;refine⟨.inr trivial,_,rfl,?_⟩;rw[if_pos (Za8.2 ⟨x,Zaa p,Za8.2 ⟨g,v,a⟩⟩)];rfl|false=>
      exact br1qm
   refine Zc5 G ?_;refine⟨i+1,by omega,⟨by omega,fun j z B f=>?_⟩,?_⟩
   ·by_cases E:j=i;·subst E;rw[p]at f;cases f;exact Qs2 fun j g d=>q j g (by have:=(Zaf.1 d).1;omega) d
    exact N j z (by omega) f
   exact⟨[(51,.blk 51 0)],rfl,ZcA,ZcE rfl rfl gg (Zct Qbd) ZcD,ZcC (Zcs (Qbj _)) (ZcC (Rn.x2 rfl rfl) (ZcC (Zcs n) (ZcC (Zcs m) au35)))⟩
  refine Zc5 C ?_;refine⟨.inr trivial,_,rfl,?_⟩;rw[if_neg (by rw[Qs2 fun j x p=>N j x (by have:=(Zaf.1 p).1;omega) p];decide)];rfl
theorem QvG{i}{s}{e}:∃t,(sEd i s e).1=s.1++t:=by
 unfold sEd;split;·exact⟨[],by simp⟩
 exact⟨[e.2.2],rfl⟩
theorem Qn8{i}:∀{es:List Ed}{s:OE},∃t,(es.foldl (sEd i) s).1=s.1++t|[],s=>⟨[],by simp⟩|e::es,s=>by obtain⟨t,a⟩:=@QvG i s e;obtain⟨u,hu⟩:=@Qn8 i es (sEd i s e);exact⟨t++u,by rw[ZaS,hu,a,ZaQ]⟩
theorem Qn9{es}{left}:∀{k i:Nat}{s:OE},∃t,(sQ es left k i s).1=s.1++t|0,i,s=>⟨[],by simp[sQ]⟩|k+1,i,s=>by unfold sQ;cases b:s.1[i]? with|none=>exact⟨[],by simp⟩|some v=>obtain⟨t,a⟩:∃t,(sRow es left i v s).1=s.1++t:=Qn8;obtain⟨u,hu⟩:=@Qn9 es left k (i+1) (sRow es left i v s);exact⟨t++u,by dsimp only;rw[hu,a,List.append_assoc]⟩
theorem getPre{l}{v}(h:l[i]?=some v):(l++t)[i]?=some v:=by rw[ZaP (Zaf.1 h).1,h]
theorem QkB{g}{f c}:∀(k i:Nat)(s:OE),(∀(j:Nat)v,i<=j->(sQ g f k i s).1[j]?=some v->(sQ d c k i s).1[j]?=some v->ZO g f v=ZO d c v)->sQ g f k i s=sQ d c k i s|0,i,s,h=>rfl|k+1,i,s,h=>by cases l:s.1[i]? with|none=>unfold sQ;rw[l]|some v=>
 have n:sQ g f (k+1) i s=sQ g f k (i+1) (sRow g f i v s):=by rw[sQ,l]
 have m:sQ d c (k+1) i s=sQ d c k (i+1) (sRow d c i v s):=by rw[sQ,l]
 obtain⟨t1,h1⟩:=@Qn9 g f (k+1) i s;obtain⟨t2,p⟩:=@Qn9 d c (k+1) i s;have o:sRow g f i v s=sRow d c i v s:=by unfold sRow;rw[h i v (Zar _) (by rw[h1];exact getPre l) (by rw[p];exact getPre l)]
 rw[n,m]at h;rw[n,m,o];rw[o]at h;exact QkB k (i+1) _ fun j v q a b=>h j v (by omega) a b
theorem QiS(hf:∀j,∀e∈f j,e.1=j)(j):∀n:Nat,((List.range n).flatMap f).filter (fun e=>e.1==j)=if j<n then f j else[]
 |0=>by simp|n+1=>by
  rw[ZaK,Zao,Zbj,QiS hf j n];have b:[n].flatMap f=f n:=by simp
  rw[b];by_cases h:j=n;·subst h;rw[if_neg (by omega),if_pos (by omega),ZaT];exact ZbI.2 fun e he=>by rw[hf j e he];simp
  have :(f n).filter (fun e=>e.1==j)=[]:=List.filter_eq_nil_iff.2 fun e he=>by rw[hf n e he];simp;omega
  rw[this,Zas];by_cases a:j<n;·rw[if_pos a,if_pos (by omega)]
  rw[if_neg a,if_neg (by omega)]
theorem Qoa(h:es.Pairwise fun x y=>x.1<y.1\/(x.1=y.1/\x.2.1<y.2.1)){v:Nat}:∀{a b:List Ed},(∀x∈a,x∈es/\x.1=v)->(∀x∈b,x∈es/\x.1=v)->a.map (·.2.1)=b.map (·.2.1)->a=b
 |[],[],_,_,_=>rfl|[],y::b,_,_,h=>by simp at h|x::a,[],_,_,h=>by simp at h|x::a,y::b,f,k,he=>by
  rw[ZaL,ZaL]at he;obtain⟨h1,n⟩:=List.cons.inj he;obtain⟨x1,x2⟩:=f x (by simp);obtain⟨l,d⟩:=k y (by simp);have g:=Qc8 h x1;have i:=Qc8 h l;have h1:x.2.1=y.2.1:=h1;rw[x2,h1]at g;rw[d]at i;have m:x.2.2=y.2.2:=ZbZ (g.symm.trans i);have:x=y:=by obtain⟨p,q,r⟩:=x;obtain⟨t,o,s⟩:=y;simp only at*;subst x2;subst d;subst h1;subst m;rfl
  rw[this,Qoa h (fun z c=>f z (by simp[c])) (fun z c=>k z (by simp[c])) n]
theorem QvH(h:WfA q)(t:(sAll (flt q pm) tru).1.length=(sAll q left).1.length)(hp:0<(sAll q left).1.length)(he:(sAll (flt q pm) tru).2=(sAll q left).2):(sAll (flt q pm) tru).1=(sAll q left).1:=by
 have hf:WfA (flt q pm):=QjU h;obtain⟨h1,_⟩:=QbM (left:=tru) hf;obtain⟨p,t2,u⟩:=QbM (left:=left) h;have f:∀x∈(flt q pm).es,x∈q.es:=fun x d=>(ZaZ.1 d).1;have c:∀(j:Nat)v,(sAll (flt q pm) tru).1[j]?=some v->(sAll q left).1[j]?=some v->ZO (flt q pm).es tru v=ZO q.es left v:=by intro j v a b;have n:=(Zaf.1 b).1;have g:=congrArg (List.filter fun e:Ed=>e.1==j) h1.ed;have i:=congrArg (List.filter fun e:Ed=>e.1==j) p.ed;rw[QiS (fun j e he=>by obtain⟨x,_,rfl⟩:=Zaq.1 he;rfl) j]at g i;rw[if_pos (by omega),Qaw a]at g;rw[if_pos n,Qaw b]at i;rw[he,i]at g;have k:=congrArg (List.map fun e:Ed=>e.2.1) g;rw[Zci,Zci]at k;refine(Qoa h.es (v:=v) (fun x d=>⟨(QaV.1 d).1,(QaV.1 d).2.1⟩) (fun x d=>⟨f x (QaV.1 d).1,(QaV.1 d).2.1⟩) ?_).symm;exact k
 have hi:left 0=true:=by cases o:left 0 with|true=>rfl|false=>
  exfalso;have s:sAll q left=([],[]):=by unfold sAll;rw[o,Bool.and_false];show sQ q.es left (q.n+1) 0 ([],[])=_;unfold sQ;rfl
  rw[s]at hp;exact absurd hp (by decide)
 have hu:sAll (flt q pm) tru=sAll q left:=by
  have l:sAll (flt q pm) tru=sQ (flt q pm).es tru (q.n+1) 0 (if(decide (0<q.n)&&true)=true then[0]else[],[]):=rfl;have m:sAll q left=sQ q.es left (q.n+1) 0 (if(decide (0<q.n)&&true)=true then[0]else[],[]):=by unfold sAll;rw[hi]
  rw[l,m]at c⊢;exact QkB (q.n+1) 0 _ fun j v _ a b=>c j v a b
 rw[hu]
theorem Qs4:∀(i:Nat),i<=v.length->∀t∈dom (v.take i),∀(j:Nat)x,j<i->v[j]?=some x->0<=t.getD j 0/\t.getD j 0<=x.2
 |0,_,t,_,j,x,c,_=>absurd c (Zay _)|i+1,hi,t,f,j,x,c,g=>by
  obtain⟨y,a⟩:=Qak (l:=v) (i:=i) (by omega);rw[QeY a]at f;obtain⟨u,hu,hm⟩:=Zby.1 f;obtain⟨n,d,rfl⟩:=Zaq.1 hm;have d:=Zau.1 d;have b:=Qdw i (by omega) u hu;by_cases e:j=i;·subst e;rw[g]at a;cases a;rw[Zah,Zbk (by omega),b,ZbO];show 0<=(n:Int)/\(n:Int)<=x.2;omega
  rw[Zah,ZaP (by omega),<-Zah];exact Qs4 i (by omega) u hu j x (by omega) g
theorem QkC:∀a∈dom v,∀(j:Nat)x,v[j]?=some x->0<=a.getD j 0/\a.getD j 0<=x.2:=fun a c j x b=>Qs4 v.length (Zar _) a (by rw[Zan];exact c) j x (Zaf.1 b).1 b
theorem dom_c(h:WfCel c):(dom (ZV c)).length<=243:=by have h1:=QfB (QbW h) (ZV c).length (Zar _);have a:=QpM h;rw[Zan]at h1;omega
def tcC(c:Cel)(ev:Nat):List Bool×List Bool:=tcQ (ZV c) (Ac c) (Bc c) (PPc c) (Pc c).es (resC c).sup.es (resC c).orig ev (resC c).orig.length
def bxC'(c:Cel)(ev:Nat):List Bxn:=covV (ZV c) (tcC c ev).1 (tcC c ev).2
def expC(c:Cel):List Gdn:=expQ (ctC c) (bxC' c) 5
theorem Qd0(h:WfCel c)(ho:o∈(resC c).orig):o<(Qc c).n:=(QbM (left:=lf (fin (Qc c).n (Qc c).es (Qc c).ms (fbd c) (uncL c.ev 5) true).1) (wB_c h).toWfA).1.fi.lt o ho
theorem Qui(h:WfCel c):(resC c).orig.length<=4096:=by have h1:=(QbM (left:=lf (fin (Qc c).n (Qc c).es (Qc c).ms (fbd c) (uncL c.ev 5) true).1) (wB_c h).toWfA).1.fi.len;have a:=(wB_c h).n5;exact ZaC h1 a
theorem Qw0(hin:∀x∈v,0<=x.2/\x.2<=2){t c}:∀b∈covV v t c,BxOk v b:=by intro b f;have h1:=QnN _ (Zar _) b f;refine QnM (P:=BxOk v) (fun a d=>?_) _ (Zar _) b h1;exact(grB_R hin (Qdw v.length (Zar _) a (by rw[Zan];exact d)) (QkC a d) v.length (Zar _)).ok
theorem QvI{v}{t c}:(covV v t c).length<=(dom v).length:=by refine ZaC (Qss _).2 (Qsr _)
theorem Qw1(h:l.Pairwise fun y z=>y.ev<z.ev)(f:∀y∈l,y.ev<g.ev):(l++[g]).Pairwise fun y z=>y.ev<z.ev:=by rw[Zbg];exact⟨h,by simp,fun a d b c=>by rw[ZaU.1 c];exact f a d⟩
theorem QjX{ct}{G}:∀e,(expQ ct G e).Pairwise (fun y z=>y.ev<z.ev)/\∀g∈expQ ct G e,∃k:Nat,k<e/\ct k=true/\g=⟨(k:Int),G k⟩
 |0=>⟨by simp[expQ],fun g a=>by cases a⟩|e+1=>by
  obtain⟨h1,b⟩:=@QjX ct G e;rw[expQ];split
  ·rename_i hc;refine⟨Qw1 h1 fun y d=>?_,fun g a=>?_⟩;·obtain⟨k,hk,_,rfl⟩:=b y d;show(k:Int)<(e:Int);omega
   rcases ZaE.1 a with a|a;·obtain⟨k,hk,c⟩:=b g a;exact⟨k,by omega,c⟩
   exact⟨e,by omega,hc,ZaU.1 a⟩
  exact⟨h1,fun g a=>by obtain⟨k,hk,c⟩:=b g a;exact⟨k,by omega,c⟩⟩
theorem QjY(h:WfCel c):GOk (ctC c) (ZV c) (expC c):=by
 obtain⟨h1,f⟩:=@QjX (ctC c) (bxC' c) 5;refine⟨h1,fun g a=>?_,fun g a=>?_,fun g a b d=>?_⟩<;>obtain⟨k,hk,hc,rfl⟩:=f g a;·exact⟨⟨ZaV _,by show(k:Int)<5;omega⟩,hc⟩
 ·have :=@QvI (ZV c) (tcC c k).1 (tcC c k).2;have:=dom_c h;show(covV (ZV c) (tcC c k).1 (tcC c k).2).length<=1000;omega
 exact Qw0 (QbW h) b d
theorem Qie{α:Type}{p k}:∀{l:List α},l.Pairwise (fun x y=>¬(p x=true/\p y=true))->(l.filter k).find? p=(l.find? p).filter k
 |[],_=>rfl|a::l,h=>by
  obtain⟨h1,c⟩:=ZaB.1 h;have b:=Qie (k:=k) c;cases hp:p a
  ·rw[List.find?_cons_of_neg (by simp[hp]),ZbT];split;·rw[List.find?_cons_of_neg (by simp[hp]),b]
   exact b
  have d:l.find? p=none:=ZbX.2 fun x g f=>h1 x g ⟨hp,f⟩;rw[List.find?_cons_of_pos hp,ZbT];split;·rename_i hk;rw[List.find?_cons_of_pos hp];simp[Option.filter,hk]
  rename_i hk;rw[b,d];simp[Option.filter,hk]
theorem Qs5(es)(left)(v):ZO es left v=(ZO es (fun _=>true) v).filter fun e=>left e.2.2:=by unfold ZO;rw[List.filter_filter];refine ZbA fun x _=>?_;cases left x.2.2<;>simp
theorem Qw2{a}(h:WfA a)(v ev):(ZO a.es (fun _=>true) v).Pairwise fun x y=>¬(decide (x.2.1=ev)=true/\decide (y.2.1=ev)=true):=by unfold ZO;refine(h.es.filter _).imp_of_mem fun{x y}d c f=>?_;have h1:=(ZaZ.1 d).2;have b:=(ZaZ.1 c).2;simp at h1 b⊢;omega
theorem Qif{a}(h:WfA a){v}(c:(sAll a left).1[i]?=some v)(ev):ZA (ZR a left).es i ev=(ZA a.es v ev).bind fun t=>if left t then some (SD.idx (sAll a left).1 t)else none:=by rw[Qfd,Qfd,Qjl h c,Qs5,List.find?_map];have:=Qie (k:=fun e:Ed=>left e.2.2) (Qw2 h v ev);have e:(fun x:Ed=>decide (x.2.1=ev))∘num (sAll a left).1 i=fun x:Ed=>decide (x.2.1=ev):=rfl;rw[e,this];cases(ZO a.es (fun _=>true) v).find? fun x=>decide (x.2.1=ev)with|none=>rfl|some x=>
 show((if left x.2.2=true then some x else none).map _).map _=_;cases b:left x.2.2;·simp[b]
 simp[b,num]
def runA(es:List Ed):Nat->List Nat->Option Nat|s,[]=>some s|s,x::w=>match ZA es s x with|some n=>runA es n w|none=>none
def gen(a:Aut)(w:List Nat):Bool:=(runA a.es 0 w).isSome
theorem Qob{l}{T}{j}{t}{e}:∀{ev:List Nat},e∈ev->((rowE l ev T j t).find? fun x=>decide (x.2.1=e)).map (·.2.2)=(stepT l t e).map (ixT T)
 |[],h=>by cases h|y::ev,h=>by
  unfold rowE;rw[ZbJ];by_cases b:y=e;·subst b;cases d:stepT l t y with|some n=>simp|none=>show(((rowE l ev T j t).find? fun x=>decide (x.2.1=y)).map (·.2.2))=none;rw[Option.map_eq_none_iff,ZbX];intro x g he;obtain⟨_,_,n,c,_⟩:=Qez g;rw[of_decide_eq_true he,d]at c;cases c
  have a:=Qob (l:=l) (T:=T) (j:=j) (t:=t) ((Zav.1 h).resolve_left fun f=>b f.symm);unfold rowE at a;cases d:stepT l t y with|some n=>simpa[b]using a|none=>simpa using a
theorem QjZ{l}(h:∀a∈l,WfI a){j}(b:(Z0 l).1[j]?=some t){e}(he:e∈evA l):ZA (syncA l).es j e=(stepT l t e).map (ixT (Z0 l).1):=by rw[Qfd,QsP h b,Qob he]
theorem QkD(hin:∀x∈v,0<=x.2/\x.2<=2){b:List Int}(h:∀(j:Nat)x,v[j]?=some x->0<=a.getD j 0/\a.getD j 0<=x.2)(g:∀(j:Nat)x,v[j]?=some x->0<=b.getD j 0/\b.getD j 0<=x.2):∀i,i<=v.length->ixQ v a i=ixQ v b i->∀j,j<i->a.getD j 0=b.getD j 0
 |0,_,_,j,k=>absurd k (Zay _)|i+1,hi,he,j,k=>by
  obtain⟨x,d⟩:=Qak (l:=v) (i:=i) (by omega);have h1:=h i x d;have o:=g i x d;have p:=hin x (Zaa d);have n:ixQ v a (i+1)=ixQ v a i*(x.2+1)+a.getD i 0:=by rw[ixQ,Qaw d]
  have m:ixQ v b (i+1)=ixQ v b i*(x.2+1)+b.getD i 0:=by rw[ixQ,Qaw d]
  rw[n,m]at he;generalize hA:ixQ v a i=A at*;generalize l:ixQ v b i=B at*;have c:A=B/\a.getD i 0=b.getD i 0:=by
   have:x.2=0\/x.2=1\/x.2=2:=by omega
   rcases this with e|e|e<;>rw[e]at h1 o he<;>omega
  by_cases f:j=i;·subst f;exact c.2
  exact QkD hin h g i (by omega) (by rw[hA,l];exact c.1) j (by omega)
theorem QkE{b:List Int}(c:a.length=b.length)(h:∀j,j<a.length->a.getD j 0=b.getD j 0):a=b:=by refine List.ext_getElem c fun j h1 d=>?_;have:=h j h1;rw[Zah,Zah,Zak h1,Zak d]at this;exact this
theorem nzInj{a b}(h:nz a=nz b):a=b:=by have h1:decide (nz a=nz b)=true:=decide_eq_true h;rw[Qr0]at h1;exact of_decide_eq_true h1
abbrev tC(c:Cel):Nat->List Int:=tplQ (Ac c) (Bc c)
theorem tpl_c(h:WfCel c)(ho:o<(Qc c).n):(tC c o).length=(ZV c).length/\(∀(j:Nat)x,(ZV c)[j]?=some x->0<=(tC c o).getD j 0/\(tC c o).getD j 0<=x.2)/\∃t,(Tc c)[o]?=some t/\tC c o=nz t:=by obtain⟨t,y,a,_,_,_,d,_,e⟩:=wld_c h o ho;have e:tC c o=nz t:=e;have b:=tup_c h (Zaa a);refine⟨by rw[e,Qfu];exact d,?_,t,a,e⟩;rw[e];exact b.2
theorem Qp2(h:WfCel c){o'}(ho:o<(Qc c).n)(f:o'<(Qc c).n)(he:ixQ (ZV c) (tC c o) (ZV c).length=ixQ (ZV c) (tC c o') (ZV c).length):o=o':=by obtain⟨l,u,t,q,v⟩:=tpl_c h ho;obtain⟨n,m,x,i,p⟩:=tpl_c h f;have s:=QkD (QbW h) u m _ (Zar _) he;have d:tC c o=tC c o':=QkE (by rw[l,n]) fun j k=>s j (by rw[l]at k;exact k);rw[v,p]at d;have d:=nzInj d;subst d;have b:=(QdY (fun a g=>(Qb9 h a g).pos) (fun a g=>(Qb9 h a g).wf.esn)).nd;have w:=QjQ b q;have a2:=QjQ b i;rw[<-w,a2]
theorem Qge(h:WfCel c){e}(ho:o<(Qc c).n)(f:0<=stepI (Qc c).es o e):0<=stepI (Pc c).es ((PPc c).getD o 0) e:=by
 obtain⟨t,y,g,_,_,k,_⟩:=wld_c h o ho;have v:y=ixT (Z0 (auL c.cs)).1 (t.take c.cs.length):=by
  have:(PPc c)[o]?=some (ixT (Z0 (auL c.cs)).1 (t.take c.cs.length)):=by show(List.map _ (Tc c))[o]?=_;rw[ZaA,g];rfl
  rw[k]at this;exact ZbZ this
 rw[Qaw k,v];unfold stepI at f;cases a:ZA (Qc c).es o e with|none=>rw[a]at f;exact absurd f (by decide)|some to=>
  obtain⟨d,p,w⟩:=Zaq.1 (QcN a);have b:e∈evA (allA c):=by have m:=(wB_c h).ev d p;have s:d.2.1=e:=congrArg Prod.snd w;rw[s]at m;exact m
  have h1:=QjZ (Qb9 h) g b;rw[a]at h1;cases l:stepT (allA c) t e with|none=>rw[l]at h1;cases h1|some n=>obtain⟨u,hp⟩:=QpU h t (Zaa g);have i:=QjR (A:=auL c.cs) (B:=auL c.rs) (Nat.le_of_eq u.1.symm) l;rw[Qbl]at i;have q:=QjZ (Qbt h) (Qkt hp) (QpT h b);unfold stepI;rw[q,i];exact ZaV _
theorem Qoc{l:List α}{b d}(h:l.getD k d=b)(hk:k<l.length):l.set k b=l:=by rw[Zah,Zak hk]at h;have h:l[k]=b:=h;rw[<-h];exact List.set_getElem_self hk
theorem Qgf{l:List Bool}{j}{x}(h:i≠j):(l.set i x).getD j false=l.getD j false:=by rw[Zah,List.getElem?_set_ne h,<-Zah]
section
variable{v:List (List UInt8×Int)}{A B:List (List Nat)}{P:List Nat}{pe se:List (Nat×Nat×Nat)}{O:List Nat}{ev:Nat}
theorem Qod(b:∀j k,j<k->k<O.length->ixQ v (tplQ A B (O.getD j 0)) v.length≠ixQ v (tplQ A B (O.getD k 0)) v.length)(a:∀j,j<O.length->0<=ixQ v (tplQ A B (O.getD j 0)) v.length):∀i k,i<=k->k<O.length->(tcQ v A B P pe se O ev i).1.getD (ixQ v (tplQ A B (O.getD k 0)) v.length).toNat false=false/\(tcQ v A B P pe se O ev i).2.getD (ixQ v (tplQ A B (O.getD k 0)) v.length).toNat false=false
 |0,k,_,_=>by
  have:∀(n j:Nat),(List.replicate n false).getD j false=false:=fun n j=>by rw[Zah,List.getElem?_replicate];split<;>rfl
  exact⟨this _ _,this _ _⟩|i+1,k,d,hk=>by
  obtain⟨h1,c⟩:=Qod b a i k (by omega) hk;have f:=b i k (by omega) hk;have g:=a i (by omega);have a2:=a k hk;rw[tcQ];split;·exact⟨by rw[Qgf (by omega)];exact h1,by rw[Qgf (by omega)];exact c⟩
  exact⟨h1,c⟩
end
theorem Qoe(h:WfCel c)(ev i:Nat)(hi:i<(resC c).orig.length):let S:=tcQ (ZV c) (Ac c) (Bc c) (PPc c) (Pc c).es (resC c).sup.es (resC c).orig ev i
 let K:=(ixQ (ZV c) (tC c ((resC c).orig.getD i 0)) (ZV c).length).toNat
 tcQ (ZV c) (Ac c) (Bc c) (PPc c) (Pc c).es (resC c).sup.es (resC c).orig ev (i+1)=(S.1.set K (decide (0<=stepI (resC c).sup.es i ev)),S.2.set K (decide (0<=stepI (Pc c).es ((PPc c).getD ((resC c).orig.getD i 0) 0) ev))):=by
 dsimp only;have a:∀j,j<(resC c).orig.length->(resC c).orig.getD j 0<(Qc c).n:=fun j g=>by obtain⟨x,d⟩:=Qak g;rw[Qaw d];exact Qd0 h (Zaa d)
 have n:(resC c).orig.Nodup:=(QbM (left:=lf (fin (Qc c).n (Qc c).es (Qc c).ms (fbd c) (uncL c.ev 5) true).1) (wB_c h).toWfA).1.fi.nd;have l:∀j,j<(resC c).orig.length->0<=ixQ (ZV c) (tC c ((resC c).orig.getD j 0)) (ZV c).length/\ixQ (ZV c) (tC c ((resC c).orig.getD j 0)) (ZV c).length<((dom (ZV c)).length:Int):=fun j g=>by have h1:=Qeg (QbW h) (tpl_c h (a j g)).2.1 (ZV c).length (Zar _);have p:=QfB (QbW h) (ZV c).length (Zar _);rw[Zan]at h1 p;rw[p];exact h1
 have v:∀j k,j<k->k<(resC c).orig.length->ixQ (ZV c) (tC c ((resC c).orig.getD j 0)) (ZV c).length≠ixQ (ZV c) (tC c ((resC c).orig.getD k 0)) (ZV c).length:=fun j k u hk he=>by have h1:=Qp2 h (a j (by omega)) (a k hk) he;obtain⟨x,d⟩:=Qak (l:=(resC c).orig) (i:=j) (by omega);obtain⟨y,o⟩:=Qak hk;rw[Qaw d,Qaw o]at h1;subst h1;have:=(List.getElem?_inj (by omega) n).1 (d.trans o.symm);omega
 obtain⟨f1,f2⟩:=Qod (P:=PPc c) (pe:=(Pc c).es) (se:=(resC c).sup.es) (ev:=ev) v (fun j g=>(l j g).1) i i (Zar _) hi;obtain⟨w,s⟩:=@QfG (ZV c) (Ac c) (Bc c) (PPc c) (Pc c).es (resC c).sup.es (resC c).orig ev i;have q:(ixQ (ZV c) (tplQ (Ac c) (Bc c) ((resC c).orig.getD i 0)) (ZV c).length).toNat<(dom (ZV c)).length:=by have b:0<=ixQ (ZV c) (tplQ (Ac c) (Bc c) ((resC c).orig.getD i 0)) (ZV c).length/\ixQ (ZV c) (tplQ (Ac c) (Bc c) ((resC c).orig.getD i 0)) (ZV c).length<((dom (ZV c)).length:Int):=l i hi;omega
 rw[tcQ];by_cases hp:0<=stepI (Pc c).es ((PPc c).getD ((resC c).orig.getD i 0) 0) ev;·rw[if_pos hp,decide_eq_true hp]
 have f:¬0<=stepI (resC c).sup.es i ev:=fun f=>by refine hp (Qge h (a i hi) ?_);obtain⟨x,d⟩:=Qak hi;have m:=Qif (left:=lf (fin (Qc c).n (Qc c).es (Qc c).ms (fbd c) (uncL c.ev 5) true).1) (wB_c h).toWfA d ev;unfold stepI at f⊢;rw[Qaw d];cases t:ZA (Qc c).es x ev with|none=>rw[t]at m;have m:ZA (resC c).sup.es i ev=none:=m;rw[m]at f;exact absurd f (by decide)|some to=>exact ZaV _
 rw[if_neg hp,decide_eq_false hp,decide_eq_false f,Qoc f1 (by rw[w];exact q),Qoc f2 (by rw[s];exact q)]
theorem Qof{r}(a:r<(h+1).toNat):∀{L:List (List Int)}{i:Nat}{u:List Int},L[i]?=some u->(domS L h)[i*(h+1).toNat+r]?=some (u++[((r:Nat):Int)])
 |[],i,u,hu=>by simp at hu|t::L,0,u,hu=>by simp only[Zbi,Zab]at hu;subst hu;show((domE h t)++domS L h)[0*(h+1).toNat+r]?=_;rw[Zcf,ZbS,ZaP (by simp[domE];omega)];unfold domE;rw[ZaA,Zbu a];rfl|t::L,i+1,u,hu=>by
  rw[Zbx]at hu;have c:=Qof a hu;have b:(domE h t).length=(h+1).toNat:=by simp[domE]
  show((domE h t)++domS L h)[(i+1)*(h+1).toNat+r]?=_;rw[Zbk (by rw[b,ZbP];omega),b,show(i+1)*(h+1).toNat+r-(h+1).toNat=i*(h+1).toNat+r by rw[ZbP];omega];exact c
theorem Qp3{r}:∀i,i<=a.length->ixQ v (a++[r]) i=ixQ v a i|0,_=>rfl|i+1,hi=>by rw[ixQ,ixQ,Qp3 i (by omega)];congr 1;rw[Zah,ZaP (by omega),<-Zah]
theorem Qj0(hin:∀x∈v,0<=x.2/\x.2<=2):∀k,k<=v.length->∀(i:Nat)t,(dom (v.take k))[i]?=some t->ixQ v t k=(i:Int)
 |0,_,i,t,a=>by
  have a:([[]]:List (List Int))[i]?=some t:=a;have hi:=(Zaf.1 a).1;have:i=0:=by simpa using hi
  subst this;rfl|k+1,hk,i,t,a=>by
  obtain⟨x,h⟩:=Qak (l:=v) (i:=k) (by omega);have x2:=hin x (Zaa h);rw[QeY h]at a;have n:=(Zaf.1 a).1;have s:=QiL (L:=dom (v.take k)) x2.1;obtain⟨m,hm⟩:∃m,m=(x.2+1).toNat:=⟨_,rfl⟩;have d:(m:Int)=x.2+1:=by omega
  have b:0<m:=by omega
  have c:i<(dom (v.take k)).length*m:=by
   have:((domS (dom (v.take k)) x.2).length:Int)=(((dom (v.take k)).length*m:Nat):Int):=by rw[s,Int.natCast_mul,d]
   omega
  have l:i/m<(dom (v.take k)).length:=(Nat.div_lt_iff_lt_mul b).2 c;have o:i%m<m:=Zce _ b;obtain⟨u,hu⟩:=Qak l;have f:=Qof (h:=x.2) (r:=i%m) (by rw[<-hm];exact o) hu;rw[<-hm,Nat.mul_comm,Nat.div_add_mod]at f;rw[a]at f;have f:=ZbZ f;have g:=Qdw k (by omega) u (Zaa hu);have p:=Qj0 hin k (by omega) (i/m) u hu;rw[f,ixQ,Qaw h,Qp3 k (by omega),p,<-d];have q:(u++[((i%m:Nat):Int)]).getD k 0=((i%m:Nat):Int):=by rw[Zah,Zbk (by omega),g,ZbO];rfl
  rw[q,<-Int.natCast_mul,<-ZaF,Nat.mul_comm,Nat.div_add_mod]
theorem Qw3(hin:∀x∈v,0<=x.2/\x.2<=2){t:List Int}(h:t.length=v.length)(a:∀(j:Nat)x,v[j]?=some x->0<=t.getD j 0/\t.getD j 0<=x.2):(dom v)[(ixQ v t v.length).toNat]?=some t:=by have d:=Qeg hin a v.length (Zar _);have f:=QfB hin v.length (Zar _);rw[Zan]at d f;obtain⟨u,hu⟩:=Qak (l:=dom v) (i:=(ixQ v t v.length).toNat) (by omega);have h1:=Qj0 hin v.length (Zar _) _ u (by rw[Zan];exact hu);have b:=Zaa hu;have c:=Qdw v.length (Zar _) u (by rw[Zan];exact b);have g:=QkD hin (QkC u b) a v.length (Zar _) (by rw[h1];omega);rw[hu,QkE (by rw[c,h]) fun j i=>g j (by omega)]
theorem Qw4(hin:∀x∈v,0<=x.2/\x.2<=2){t}{j}(hi:(dom v)[i]?=some t)(a:(dom v)[j]?=some t):i=j:=by have h1:=Qj0 hin v.length (Zar _) i t (by rw[Zan];exact hi);have b:=Qj0 hin v.length (Zar _) j t (by rw[Zan];exact a);omega
theorem Qhw{A}{t c}{x}:∀n,x∈ndP A t c n↔∃i,i<n/\c.getD i false=true/\t.getD i false=true/\A.getD i []=x
 |0=>by
  constructor;·intro h;cases h
  rintro⟨i,h,_⟩;omega|n+1=>by
  have d:=@Qhw A t c x n;have b:(∃i,i<n/\c.getD i false=true/\t.getD i false=true/\A.getD i []=x)->∃i,i<n+1/\c.getD i false=true/\t.getD i false=true/\A.getD i []=x:=fun⟨i,h1,a⟩=>⟨i,by omega,a⟩;have hf:(∃i,i<n+1/\c.getD i false=true/\t.getD i false=true/\A.getD i []=x)->(c.getD n false=true/\t.getD n false=true/\A.getD n []=x)\/∃i,i<n/\c.getD i false=true/\t.getD i false=true/\A.getD i []=x:=fun⟨i,h1,a⟩=>by
   by_cases e:i=n;·subst e;exact .inl a
   exact .inr ⟨i,by omega,a⟩
  rw[ndP];split
  ·rename_i hc;rw[Zac]at hc;rw[ZaE,ZaU,d];constructor
   ·rintro(h|h);·exact b h
    exact⟨n,by omega,hc.1,hc.2,h.symm⟩
   intro h;rcases hf h with h|h;·exact .inr h.2.2.symm
   exact .inl h
  rename_i hc;rw[Zac]at hc;rw[d];constructor;·exact b
  intro h;rcases hf h with h|h;·exact absurd ⟨h.1,h.2.1⟩ hc
  exact h
theorem QkF{t c}:∀n,x∈rfP A t c n->∃i,i<n/\c.getD i false=true/\t.getD i false=false/\A.getD i []=x
 |0,h=>by cases h|n+1,h=>by
  rw[rfP]at h;split at h
  ·rename_i hc;simp only[Zac,Zbh]at hc;rcases ZaE.1 h with h|h;·obtain⟨i,h1,a⟩:=QkF n h;exact⟨i,by omega,a⟩
   exact⟨n,by omega,hc.1,hc.2,(ZaU.1 h).symm⟩
  obtain⟨i,h1,a⟩:=QkF n h;exact⟨i,by omega,a⟩
theorem Qp4{A}{t c}{i}:∀n,i<n->c.getD i false=true->t.getD i false=false->A.getD i []∈rfP A t c n
 |0,h,_,_=>absurd h (Zay _)|n+1,h,hc,a=>by
  rw[rfP];by_cases e:i=n;·subst e;rw[if_pos (by rw[hc,a];rfl)];simp
  have :=Qp4 (A:=A) n (by omega) hc a;split;·exact List.mem_append_left _ this
  exact this
section
variable{ok:Bxn->Bool}{Pr:Bxn->Prop}
theorem Qp5(a:∀b i,Pr b->ok (dnB b i)=true->Pr (dnB b i)):∀f b,Pr b->Pr (dnF ok i f b)
 |0,b,h=>h|f+1,b,h=>by
  rw[dnF];split;·rename_i hk;exact Qp5 a f _ (a b i h hk)
  exact h
theorem Qp6(hu:∀b i,Pr b->ok (upB b i)=true->Pr (upB b i)):∀f b,Pr b->Pr (upF ok i f b)
 |0,b,h=>h|f+1,b,h=>by
  rw[upF];split;·rename_i hk;exact Qp6 hu f _ (hu b i h hk)
  exact h
theorem Qp7(d:Pr ⟨a,a⟩)(c:∀b i,Pr b->ok (dnB b i)=true->Pr (dnB b i))(hu:∀b i,Pr b->ok (upB b i)=true->Pr (upB b i)):∀n,Pr (grB ok v a n)|0=>d|n+1=>by rw[QiM];unfold grI upA dnA;exact Qp6 hu _ _ (Qp5 c _ _ (Qp7 d c hu n))
end
theorem Ql8{l:List Int}{j}{x}:(l.set i x).getD j 0=if i=j/\j<l.length then x else l.getD j 0:=by
 by_cases h:i=j
 ·exact bXFH3
 rw[if_neg (fun e=>h e.1),getDsetNe h]
theorem Qog{rf}(f:okR rf ⟨a,a⟩=true)(n):inB (grB (okR rf) v a n) a=true/\okR rf (grB (okR rf) v a n)=true:=by
 have h:=Qp7 (ok:=okR rf) (v:=v) (a:=a) (Pr:=fun b=>(∀j,b.lo.getD j 0<=a.getD j 0/\a.getD j 0<=b.hi.getD j 0)/\okR rf b=true) ⟨fun j=>⟨Int.le_refl _,Int.le_refl _⟩,f⟩ (fun b i c hk=>⟨fun j=>⟨by
  have:=(c.1 j).1;unfold dnB;show(b.lo.set i (b.lo.getD i 0-1)).getD j 0<=_;rw[Ql8];split;·rename_i e;rw[e.1];omega
  exact this,(c.1 j).2⟩,hk⟩) (fun b i c hk=>⟨fun j=>⟨(c.1 j).1,by
  have:=(c.1 j).2;unfold upB;show _<=(b.hi.set i (b.hi.getD i 0+1)).getD j 0;rw[Ql8];split;·rename_i e;rw[e.1];omega
  exact this⟩,hk⟩) n;refine⟨QiB fun j x d=>?_,h.2⟩;have:=h.1 j;rw[Qaw d]at this;exact this
theorem Qp8{nd}(d:∀a∈nd,inB (G a) a=true):∀i,i<=nd.length->∀(j:Nat)x,j<i->nd[j]?=some x->inBs (bgA G nd i) x=true
 |0,_,j,x,f,_=>absurd f (Zay _)|i+1,hi,j,x,f,b=>by
  obtain⟨a,c⟩:=Qak (l:=nd) (i:=i) (by omega);have g:=Qp8 d i (by omega);rw[bgA,Qaw c];by_cases e:j=i
  ·subst e;rw[b]at c;cases c;split;·rename_i h;exact h
   unfold inBs;exact Za8.2 ⟨G x,by simp,d x (Zaa b)⟩
  have :=g j x (by omega) b;split;·exact this
  unfold inBs at this⊢;rw[Zck,this];rfl
theorem Qoh{l:List Bxn}:b∈l.eraseIdx i↔∃j,j≠i/\l[j]?=some b:=List.mem_eraseIdx_iff_getElem?
theorem Qhx{nd}{l}:spr nd l i=true↔∀x∈nd,inB (l.getD i bx0) x=true->inBs (l.eraseIdx i) x=true:=by
 unfold spr;rw[Zbh,ZbB];constructor;·intro h x a hi;have:=h x a;rw[hi]at this;simpa using this
 intro h x a;cases hi:inB (l.getD i bx0) x with|false=>simp|true=>rw[h x a hi];decide
theorem QkG{nd}:∀f l i,(∀x∈nd,inBs l x=true)->∀x∈nd,inBs (bgB nd f l i) x=true
 |0,l,i,h=>h|f+1,l,i,h=>by
  rw[bgB];split
  ·rename_i hi;split
   ·rename_i n;refine QkG f _ i fun x m=>?_;have h1:=h x m;by_cases d:inB (l.getD i bx0) x=true;·exact Qhx.1 n x m d
    unfold inBs at h1;obtain⟨b,c,a⟩:=Za8.1 h1;obtain⟨j,k,rfl⟩:=ZaO c;have g:j≠i:=by rintro rfl;rw[Qaw (Zak k)]at d;exact d a
    unfold inBs;exact Za8.2 ⟨l[j],Qoh.2 ⟨j,g,Zak k⟩,a⟩
   exact QkG f _ _ h
  exact h
theorem QkH{nd}:∀f l i,∀b∈bgB nd f l i,b∈l
 |0,l,i,b,h=>h|f+1,l,i,b,h=>by
  rw[bgB]at h;split at h
  ·split at h;·exact List.mem_of_mem_eraseIdx (QkH f _ _ b h)
   exact QkH f _ _ b h
  exact h
theorem Qw5{nd}{l}{j}(c:j<i)(hi:i<l.length)(h:spr nd l j=false):spr nd (l.eraseIdx i) j=false:=by cases g:spr nd (l.eraseIdx i) j with|false=>rfl|true=>
 exfalso;have g:=Qhx.1 g;have:spr nd l j=true:=Qhx.2 fun x m n=>by
  have e:(l.eraseIdx i).getD j bx0=l.getD j bx0:=by rw[Zah,List.getElem?_eraseIdx,if_pos c,<-Zah]
  have h1:=g x m (by rw[e];exact n);unfold inBs at h1⊢;obtain⟨b,f,d⟩:=Za8.1 h1;obtain⟨q,k,a⟩:=Qoh.1 f;rw[List.getElem?_eraseIdx]at a;refine Za8.2 ⟨b,Qoh.2 ?_,d⟩;split at a;·exact⟨q,k,a⟩
  exact⟨q+1,by omega,a⟩
 rw[this]at h;cases h
theorem QkI{nd}:∀f l i,l.length-i<=f->i<=l.length->(∀j,j<i->spr nd l j=false)->∀j,j<(bgB nd f l i).length->spr nd (bgB nd f l i) j=false
 |0,l,i,hf,hi,h,j,b=>by have:bgB nd 0 l i=l:=rfl;rw[this]at b⊢;exact h j (by omega)|f+1,l,i,hf,hi,h,j,b=>by
  rw[bgB]at b⊢;split at b
  ·rename_i a;rw[if_pos a];have g:(l.eraseIdx i).length=l.length-1:=by rw[List.length_eraseIdx,if_pos a]
   split at b;·rename_i c;rw[if_pos c];exact QkI f _ i (by omega) (by omega) (fun q d=>Qw5 d a (h q d)) j b
   rename_i c;rw[if_neg c];refine QkI f _ (i+1) (by omega) (by omega) (fun q d=>?_) j b;by_cases e:q=i;·subst e;simpa using c
   exact h q (by omega)
  rename_i a;rw[if_neg a];exact h j (by omega)
section
variable{v:List (List UInt8×Int)}(hin:∀x∈v,0<=x.2/\x.2<=2){t c:List Bool}
include hin
theorem Qp9(p:a∈ndP (dom v) t c (dom v).length):okR (rfP (dom v) t c (dom v).length) ⟨a,a⟩=true:=by
 obtain⟨i,hi,hc,s,he⟩:=(Qhw _).1 p;obtain⟨n,b⟩:=Qak hi;rw[Qaw b]at he;subst he;unfold okR;rw[ZbB.2 fun x w=>?_];rfl;obtain⟨j,u,o,f,g⟩:=QkF _ w;obtain⟨l,d⟩:=Qak u;rw[Qaw d]at g;subst g;intro m;have k:=Qdw v.length (Zar _) n (by rw[Zan];exact Zaa b);have h:=Qdw v.length (Zar _) l (by rw[Zan];exact Zaa d);have e:n=l:=QkE (by rw[k,h]) fun q y=>by unfold inB at m;have:=ZaH.1 m q (Zau.2 (by omega));simp only[Zac,decide_eq_true_eq]at this;omega
 subst e;have:=Qw4 hin b d;subst this;rw[s]at f;cases f
theorem Quj(b:(dom v)[i]?=some a)(hc:c.getD i false=true)(f:t.getD i false=true):inBs (covV v t c) a=true:=by rw[<-Qhv];have hm:a∈ndP (dom v) t c (dom v).length:=(Qhw _).2 ⟨i,(Zaf.1 b).1,hc,f,Qaw b⟩;unfold covR;refine QkG _ _ _ (fun x g=>?_) a hm;obtain⟨j,d,rfl⟩:=ZaO g;exact Qp8 (fun a b=>(Qog (Qp9 hin b) _).1) _ (Zar _) j _ d (Zak d)
theorem QvJ(d:(dom v)[i]?=some a)(hc:c.getD i false=true)(h:t.getD i false=false):inBs (covV v t c) a=false:=by rw[<-Qhv];have hm:=Qp4 (A:=dom v) (dom v).length (Zaf.1 d).1 hc h;rw[Qaw d]at hm;refine Qjt fun j b g=>?_;have h1:=QkH _ _ _ b (Zaa g);have f:=Qhu (G:=fun a=>grB (okR (rfP (dom v) t c (dom v).length)) v a v.length) (P:=fun b=>okR (rfP (dom v) t c (dom v).length) b=true) (fun a d=>(Qog (Qp9 hin d) _).2) _ (Zar _) b h1;unfold okR at f;rw[Zbh,ZbB]at f;simpa using f a hm
end
theorem QvK{t c}(d:(covV v t c)[k]?=some b):∃(i:Nat)(a:List Int),(dom v)[i]?=some a/\c.getD i false=true/\t.getD i false=true/\inB b a=true/\inBs ((covV v t c).eraseIdx k) a=false:=by
 rw[<-Qhv]at d⊢;have hk:=(Zaf.1 d).1;unfold covR at d hk⊢;have h:=QkI (nd:=ndP (dom v) t c (dom v).length) _ (bgA (fun a=>grB (okR (rfP (dom v) t c (dom v).length)) v a v.length) (ndP (dom v) t c (dom v).length) (ndP (dom v) t c (dom v).length).length) 0 (Zar _) (Zaj _) (fun j n=>absurd n (Zay _)) k hk;generalize bgB (ndP (dom v) t c (dom v).length) _ _ 0=X at*;have h1:¬∀x∈ndP (dom v) t c (dom v).length,inB (X.getD k bx0) x=true->inBs (X.eraseIdx k) x=true:=fun f=>by rw[Qhx.2 f]at h;cases h
 obtain⟨x,f⟩:=Classical.not_forall.1 h1;obtain⟨m,q⟩:=Classical.not_imp.1 f;obtain⟨l,p⟩:=Classical.not_imp.1 q;obtain⟨i,hi,hc,o,he⟩:=(Qhw _).1 m;obtain⟨a,g⟩:=Qak hi;rw[Qaw g]at he;subst he;rw[Qaw d]at l;exact⟨i,a,g,hc,o,l,by simpa using p⟩
theorem cloneJ86(l)(d:l.length<=1000000):HSpec Tryz.prog 86 [sli l] .e (.sl 84 0 0 l.length 1) (hp [(84,.cells 0 (ZI l))]):=by
 cases l with|nil=>
  have h1:HSpec Tryz.prog 86 [.nilsl] .e (.sl 84 0 0 0 1) (hp [(84,.cells 0 [])]):=by refine ZcV 100 (Ok s86) rfl ?_;unfold s86;refine Zc7 @Qjy ?_;exact⟨.inr trivial,_,rfl,⟨[(84,.nil)],rfl,au0,au36,au35⟩⟩
  have b:HSpec Tryz.prog 86 [.nsl] .e (.sl 84 0 0 0 1) (hp [(84,.cells 0 [])]):=by refine ZcV 100 (Ok s86) rfl ?_;unfold s86;refine Zc7 (Zc8 @Qjz @Qh8) ?_;exact⟨.inr trivial,_,rfl,⟨[(84,.blk 103 1)],rfl,au0,au36,au35⟩⟩
  exact HSpec.empty h1 b|cons x l=>
  refine ZcV 100 (Ok s86) rfl ?_;have c:aEq (.nil 2) false (sli (x::l)) .nilsl=some (.bool false):=rfl;have a:(ZI (x::l)).all AV.one=true:=by simp[ZI,AV.one]
  generalize x::l=q at*;unfold s86;refine Zc7 (Zc8 c a) ?_;exact⟨.inr trivial,_,rfl,⟨[(84,.blk 103 1)],rfl,au0,au36,au35⟩⟩
abbrev gSo(v:List (List UInt8×Int))(A nd rf:List (List Int))(b:Bxn)(n:Nat):List (Nat×Blk):=(50,.cells 0 [vrsV v,liV A,liV nd,liV rf])::gSt b n
abbrev gSi(x:List UInt8×Int)(v:List (List UInt8×Int))(A nd rf:List (List Int))(b:Bxn)(n:Nat):List (Nat×Blk):=[(50,.cells 0 [vrsV v,liV A,liV nd,liV rf]),(51,.cells 0 [.nilsl,.nilsl]),(52,.cells 0 [.sl 61 0 0 n 1,.sl 62 0 0 n 1]),(53,.cells 0 [.str x.1,.int .i64 0,.int .i64 x.2,.int .i64 0]),(61,.cells 0 (ZI b.lo)),(62,.cells 0 (ZI b.hi))]
theorem grow210(v:List (List UInt8×Int))(a:List Int)(A nd rf:List (List Int))(h5:v.length<=5)(hin:∀x∈v,0<=x.2/\x.2<=2)(ha:a.length=v.length)(R:∀(j:Nat)x,v[j]?=some x->0<=a.getD j 0/\a.getD j 0<=x.2)(V:rf.length<=1000000)(M:∀y∈rf,y.length=v.length):Ps 210 [cvV v A nd rf,sli a] (bxV (grB (okR rf) v a v.length)):=by
 have hR:=@grB_R (okR rf) v a hin ha R;have u:=fun(b:Bxn)(h:BxR v b)=>free257 v A nd rf b V (fun t ht=>⟨by rw[h.1,M t ht],by rw[h.2.1,M t ht]⟩) (by rw[h.1];omega);have X:=cloneI86 a (by omega);have Y:=cloneJ86 a (by omega);have g:noRefs [vrsV v,liV A,liV nd,liV rf]=true:=by simp only[noRefs,noRef,Qaz,QaG];rfl
 refine Zcu 64 (Ok WA.s210) rfl (by simp only[noRefs,noRef,Qaa,Qaz,QaG];rfl) (by simp only[noRef,noRefs,Qaa];rfl) ?_;have L:(ZI a).all AV.one=true:=by simp[ZI,AV.one]
 have P:(ZI a).length=a.length:=by simp[ZI]
 unfold WA.s210;refine Zc6 ?_;refine ch (ZcU (b:=83) (by(try simp only[noRefs,Qaa,noRef,noRefs,QaD,Qaz,QaG,QaT,Zae,Zad])<;>rfl) X (by repeat(first|exact Fresh.e|exact Zcw (by assumption) (by omega)|refine Zcx ?_ (by omega) (by omega))) rfl) ?_;refine Zc6 ?_;refine ch (ZcU (b:=84) (by(try simp only[noRefs,Qaa,noRef,noRefs,QaD,Qaz,QaG,QaT,Zae,Zad])<;>rfl) Y (by repeat(first|exact Fresh.e|exact Zcw (by assumption) (by omega)|refine Zcx ?_ (by omega) (by omega))) rfl) ?_;refine Zc7 (Zc9 L P ha) ?_;refine QaC 100 (fun i:Nat=>[(2,.ptr 50 0 0),(4,.ptr 51 0 0),(5,.ptr 52 0 0),(14,vrsV v),(15,.int .i64 v.length),(16,.int .i64 i)]) (fun i=>gSo v A nd rf (grB (okR rf) v a i) v.length) (fun i=>i<=v.length) (fun i=>v.length-i) 0 ?_ (Zaj _) ?_;·refine⟨[(50,.blk 64 0),(51,.blk 65 0),(52,.blk 71 0),(61,.blk 83 0),(62,.blk 84 0)],rfl,au0,?_,au35⟩;exact ZcE rfl rfl gg (Zct g) (ZcE rfl rfl gg (Zct rfl) (ZcE rfl rfl gg (ZcK (Rn.x1 rfl rfl) (ZcK (Rn.x1 rfl rfl) ZcJ)) (ZcE rfl rfl gg (Zct (Qaa _)) (ZcE rfl rfl gg (Zct (Qaa _)) ZcD))))
 rintro i hi;have N:=hR i hi;have hg:=@QiM (okR rf) v a i;generalize Q:grB (okR rf) v a i=B at*;by_cases d:i<v.length
 ·obtain⟨x,J⟩:=Qak d;have l:=QcB J;have q:4<=((v.flatMap vrC).drop (i*4)).length:=by rw[l];simp
  have O:=hin x (Zaa J);refine Zc7 (Zc9 d l q) ?_;refine Qas 140 (fun _:Bxn=>[(2,.ptr 50 0 0),(4,.ptr 51 0 0),(5,.ptr 52 0 0),(14,vrsV v),(15,.int .i64 v.length),(16,.int .i64 i),(6,.int .i64 i),(7,.ptr 53 0 0)]) (fun b=>gSi x v A nd rf b v.length) (fun b=>BxR v b/\dnA (okR rf) i b=dnA (okR rf) i B) (fun b=>(b.lo.getD i 0).toNat) B 2 200 (fun _:Unit=>[(2,.ptr 50 0 0),(4,.ptr 51 0 0),(5,.ptr 52 0 0),(14,vrsV v),(15,.int .i64 v.length),(16,.int .i64 i),(6,.int .i64 i),(7,.ptr 53 0 0)]) (fun _=>gSi x v A nd rf (dnA (okR rf) i B) v.length) (fun _=>True) ?_ ⟨N,rfl⟩ ?_ ?_;·refine⟨[(50,.blk 50 0),(51,.blk 51 0),(52,.blk 52 0),(53,.blk 104 0),(61,.blk 61 0),(62,.blk 62 0)],rfl,au0,?_,au35⟩;exact ZcE rfl rfl gg (Zct g) (ZcE rfl rfl gg (Zct rfl) (ZcE rfl rfl gg (ZcK (Rn.x1 rfl rfl) (ZcK (Rn.x1 rfl rfl) ZcJ)) (ZcE rfl rfl gg (Zct rfl) (ZcE rfl rfl gg (Zct (Qaa _)) (ZcE rfl rfl gg (Zct (Qaa _)) ZcD)))))
  ·rintro b⟨h,G⟩;obtain⟨y,C⟩:=Qak (l:=b.lo) (i:=i) (by have:=h.1;omega);have c:b.lo.getD i 0=y:=Qaw C;have k:i<b.lo.length:=by have:=h.1;omega
   have S:=h.1;have p:(ZI b.lo).length=v.length:=by simp[ZI,h.1]
   have T:=h.2.2 i x J;rw[c]at T;have o:(ZI b.lo)[i]?=some (.int .i64 y):=by simp[ZI,C]
   by_cases s:(0:Int)<y
   ·have m:i+1<=v.length:=by omega
    have n:0<b.lo.getD i 0:=by rw[c];exact s
    have H:(ZI b.lo).set i (.int .i64 (y-1))=ZI (dnB b i).lo:=by rw[QbN,dnB,c]
    have f:=h.dn d n;have w:=u _ f;have E:(dnB b i).lo[i]?=some (y-1):=by show(b.lo.set i (b.lo.getD i 0-1))[i]?=_;rw[Zbz k,c]
    have z:(ZI (dnB b i).lo)[i]?=some (.int .i64 (y-1)):=by simp[ZI,E]
    have F:(ZI (dnB b i).lo).length=v.length:=by simp[ZI,f.1]
    have I:(ZI (dnB b i).lo).set i (.int .i64 (y-1+1))=ZI b.lo:=by rw[QbN];show ZI ((b.lo.set i _).set i _)=_;rw[Int.sub_add_cancel,QnL C]
    refine Zc7 (Zde d p o l q s m H) ?_;refine ch (ZcQ (ZcT (Zcy _) (ZcT (FrzTo.agg (ZcT (Qf7 gg f.1) (ZcT (Qf7 gg f.2.1) ZcS))) ZcS)) w rfl) ?_;cases K:okR rf (dnB b i)with|true=>refine Zc6 ?_;refine⟨dnB b i,by rw[QjI k,c];omega,⟨f,by rw[<-G];exact(Qva k n K).symm⟩,?_⟩;refine⟨[(50,.blk 50 0),(51,.blk 51 0),(52,.blk 52 0),(53,.blk 53 0),(61,.blk 61 0),(62,.blk 62 0)],rfl,au0,?_,au35⟩;exact ZcE rfl rfl gg (Zct g) (ZcE rfl rfl gg (Zct rfl) (ZcE rfl rfl gg (ZcK (Rn.x1 rfl rfl) (ZcK (Rn.x1 rfl rfl) ZcJ)) (ZcE rfl rfl gg (Zct rfl) (ZcE rfl rfl gg (Zct (Qaa _)) (ZcE rfl rfl gg (Zct (Qaa _)) ZcD)))))|false=>refine Zc7 (Zdb d z F m I) ?_;refine⟨(),?_⟩;rw[<-G,QwO K];refine⟨[(50,.blk 50 0),(51,.blk 51 0),(52,.blk 52 0),(53,.blk 53 0),(61,.blk 61 0),(62,.blk 62 0)],rfl,au0,?_,au35⟩;exact ZcE rfl rfl gg (Zct g) (ZcE rfl rfl gg (Zct rfl) (ZcE rfl rfl gg (ZcK (Rn.x1 rfl rfl) (ZcK (Rn.x1 rfl rfl) ZcJ)) (ZcE rfl rfl gg (Zct rfl) (ZcE rfl rfl gg (Zct (Qaa _)) (ZcE rfl rfl gg (Zct (Qaa _)) ZcD)))))
   refine Zc7 (Zdc d p o l q s) ?_;refine⟨(),?_⟩;rw[<-G,dnA_0 (by rw[c];exact s)];refine⟨[(50,.blk 50 0),(51,.blk 51 0),(52,.blk 52 0),(53,.blk 53 0),(61,.blk 61 0),(62,.blk 62 0)],rfl,au0,?_,au35⟩;exact ZcE rfl rfl gg (Zct g) (ZcE rfl rfl gg (Zct rfl) (ZcE rfl rfl gg (ZcK (Rn.x1 rfl rfl) (ZcK (Rn.x1 rfl rfl) ZcJ)) (ZcE rfl rfl gg (Zct rfl) (ZcE rfl rfl gg (Zct (Qaa _)) (ZcE rfl rfl gg (Zct (Qaa _)) ZcD)))))
  rintro _ _;have hD:BxR v (dnA (okR rf) i B):=dnF_R d _ _ N (Zar _);have U:grI (okR rf) v B i=upA (okR rf) i x.2 (dnA (okR rf) i B):=by unfold grI;rw[Qaw J]
  generalize dnA (okR rf) i B=D at*;refine Zc6 ?_;refine Qas 300 (fun _:Bxn=>[(2,.ptr 50 0 0),(4,.ptr 51 0 0),(5,.ptr 52 0 0),(14,vrsV v),(15,.int .i64 v.length),(16,.int .i64 i),(6,.int .i64 i),(7,.ptr 53 0 0)]) (fun b=>gSi x v A nd rf b v.length) (fun b=>BxR v b/\upA (okR rf) i x.2 b=upA (okR rf) i x.2 D) (fun b=>(x.2-b.hi.getD i 0).toNat) D 4 360 (fun _:Unit=>[(2,.ptr 50 0 0),(4,.ptr 51 0 0),(5,.ptr 52 0 0),(14,vrsV v),(15,.int .i64 v.length),(16,.int .i64 i)]) (fun _=>gSo v A nd rf (upA (okR rf) i x.2 D) v.length) (fun _=>True) ?_ ⟨hD,rfl⟩ ?_ ?_;·refine⟨[(50,.blk 50 0),(51,.blk 51 0),(52,.blk 52 0),(53,.blk 53 0),(61,.blk 61 0),(62,.blk 62 0)],rfl,au0,?_,au35⟩;exact ZcE rfl rfl gg (Zct g) (ZcE rfl rfl gg (Zct rfl) (ZcE rfl rfl gg (ZcK (Rn.x1 rfl rfl) (ZcK (Rn.x1 rfl rfl) ZcJ)) (ZcE rfl rfl gg (Zct rfl) (ZcE rfl rfl gg (Zct (Qaa _)) (ZcE rfl rfl gg (Zct (Qaa _)) ZcD)))))
  ·rintro b⟨h,G⟩;obtain⟨y,C⟩:=Qak (l:=b.hi) (i:=i) (by have:=h.2.1;omega);have c:b.hi.getD i 0=y:=Qaw C;have k:i<b.hi.length:=by have:=h.2.1;omega
   have S:=h.2.1;have p:(ZI b.hi).length=v.length:=by simp[ZI,h.2.1]
   have T:=h.2.2 i x J;rw[c]at T;have o:(ZI b.hi)[i]?=some (.int .i64 y):=by simp[ZI,C]
   by_cases s:y<x.2
   ·have m:i+1<=v.length:=by omega
    have n:b.hi.getD i 0<x.2:=by rw[c];exact s
    have H:(ZI b.hi).set i (.int .i64 (y+1))=ZI (upB b i).hi:=by rw[QbN,upB,c]
    have f:=h.up J O.2 n;have w:=u _ f;have E:(upB b i).hi[i]?=some (y+1):=by show(b.hi.set i (b.hi.getD i 0+1))[i]?=_;rw[Zbz k,c]
    have z:(ZI (upB b i).hi)[i]?=some (.int .i64 (y+1)):=by simp[ZI,E]
    have F:(ZI (upB b i).hi).length=v.length:=by simp[ZI,f.2.1]
    have I:(ZI (upB b i).hi).set i (.int .i64 (y+1-1))=ZI b.hi:=by rw[QbN];show ZI ((b.hi.set i _).set i _)=_;rw[Int.add_sub_cancel,QnL C]
    refine Zc7 (Zde d p o l q s m H) ?_;refine ch (ZcQ (ZcT (Zcy _) (ZcT (FrzTo.agg (ZcT (Qf7 gg f.1) (ZcT (Qf7 gg f.2.1) ZcS))) ZcS)) w rfl) ?_;cases K:okR rf (upB b i)with|true=>refine Zc6 ?_;refine⟨upB b i,by rw[QjJ k,c];omega,⟨f,by rw[<-G];exact(Qvb k n K).symm⟩,?_⟩;refine⟨[(50,.blk 50 0),(51,.blk 51 0),(52,.blk 52 0),(53,.blk 53 0),(61,.blk 61 0),(62,.blk 62 0)],rfl,au0,?_,au35⟩;exact ZcE rfl rfl gg (Zct g) (ZcE rfl rfl gg (Zct rfl) (ZcE rfl rfl gg (ZcK (Rn.x1 rfl rfl) (ZcK (Rn.x1 rfl rfl) ZcJ)) (ZcE rfl rfl gg (Zct rfl) (ZcE rfl rfl gg (Zct (Qaa _)) (ZcE rfl rfl gg (Zct (Qaa _)) ZcD)))))|false=>refine Zc7 (Zdb d z F m I) ?_;refine⟨(),?_⟩;rw[<-G,QwP K];refine⟨[(50,.blk 50 0),(51,.blk 51 0),(52,.blk 52 0),(61,.blk 61 0),(62,.blk 62 0)],rfl,au0,?_,au35⟩;exact ZcE rfl rfl gg (Zct g) (ZcE rfl rfl gg (Zct rfl) (ZcE rfl rfl gg (ZcK (Rn.x1 rfl rfl) (ZcK (Rn.x1 rfl rfl) ZcJ)) (ZcE rfl rfl gg (Zct (Qaa _)) (ZcE rfl rfl gg (Zct (Qaa _)) ZcD))))
   refine Zc7 (Zdc d p o l q s) ?_;refine⟨(),?_⟩;rw[<-G,upA_0 (by rw[c];exact s)];exact bD1UZ
  rintro _ _;refine Zc6 ?_;refine⟨i+1,by omega,by omega,?_⟩;rw[hg,U];exact bD1UZ
 have ei:i=v.length:=by omega
 subst ei;refine Zc7 d ?_;rw[Q];refine⟨.inr trivial,_,rfl,?_⟩;have Z:=N.1;have l2:=N.2.1;have e1:sli B.lo=.fsl (ZI B.lo) v.length 1:=by rw[<-Z]
 have e2:sli B.hi=.fsl (ZI B.hi) v.length 1:=by rw[<-l2]
 show Rn 0 π0 _ (.agg [sli B.lo,sli B.hi]) (.agg [.sl 61 0 0 v.length 1,.sl 62 0 0 v.length 1]);rw[e1,e2];exact Rn.agg (ZcK (ZcM (g:=0) (ds:=ZI B.lo) gg (by simp[ZI,Z]) (Zct (Qaa _))) (ZcK (ZcM (g:=0) (ds:=ZI B.hi) gg (by simp[ZI,l2]) (Zct (Qaa _))) ZcJ))
end Go.AM.SO
namespace Go.AM.WR
open Go.Proofs
set_option maxHeartbeats 4000000
noncomputable section
def cf:YA.Cf:={roomy:=true}
def s211:SFn:=by
 refine(?f:YA.Yt Tryz.prog cf 211 [[6],[8,9,10,11,12,13],[14,15],[0,1,2,16,17],[6,16,18,19],[1,2,20,21,22,23,24,25,26],[7,27,28,29,30,31],[0,32]]) ?s ?h;case h=>exact YA.rr
 exact fun s _=>s
end
end Go.AM.WR
namespace Go.AM
variable{P:Program}{N:NM}{r:List SOper}{dead:List Nat}{d:Option Nat}{fs:List Fr}{n:Nat}{T:Tmps}{h:Heap}{Q:QC}
theorem tLen{t k b g off len sz}:aLenC 1 (.typed t k (.sl b g off len sz))=.ret (.int .i64 len):=rfl
end Go.AM
namespace Go.AM
variable{P:Program}{N:NM}{r:List SOper}{dead:List Nat}{fs:List Fr}{n:Nat}{T:Tmps}{h:Heap}{Q:QC}{d:Option Nat}
variable{c:Int}{k:IntKind}{cs:List AV}{af:List Nat}{b g m off t:Nat}{π:Nat->Option Src}{x:Opd}{a l:Option Opd}
theorem Ql9{sz}:wR P N (⟨d,.sliceK sz x l a,af,none⟩::r) dead fs n T h Q=wO P N (aSliceK sz (ev T x) (evo T l) (evo T a)) d r dead fs n T h Q:=Qbr rfl
theorem Qs6{len sz:Nat}(h1:0<=c/\c<=len/\0<len):aSliceK sz (.sl b g off len sz) none (some (.int k c))=some (.typed 0 (len+1) (.sl b g off c.toNat sz)):=by have e:aSliceK sz (.sl b g off len sz) none (some (.int k c))=if sz=sz/\(0:Int)<=0/\0<=c/\c<=len/\(0:Int)<len then some (.typed 0 (len-(0:Int).toNat+1) (.sl b g (off+(0:Int).toNat*sz) (c.toNat-(0:Int).toNat) sz))else none:=rfl;rw[e,if_pos ⟨rfl,Int.le_refl _,h1.1,h1.2.1,by omega⟩];simp
theorem Qs7{len sz}{d}{a}(h1:0<=a/\a<=c/\c<=m/\a<m):aSliceK sz (.typed t (m+1) (.sl b g off len sz)) (some (.int k a)) (some (.int d c))=some (.typed 0 (m-a.toNat+1) (.sl b g (off+a.toNat*sz) (c.toNat-a.toNat) sz)):=by have e:aSliceK sz (.typed t (m+1) (.sl b g off len sz)) (some (.int k a)) (some (.int d c))=if sz=sz/\0<=a/\a<=c/\c<=m/\a<m then some (.typed 0 (m-a.toNat+1) (.sl b g (off+a.toNat*sz) (c.toNat-a.toNat) sz))else none:=rfl;rw[e,if_pos ⟨rfl,h1⟩]
theorem QqM{len sz:Nat}{f d}{a x}(h1:0<=a/\a<=c/\c<=x/\x<=len/\0<x):aSliceC (some sz) (.sl b g off len sz) (some (.int k a)) (some (.int f c)) (some (.int d x))=some (.sl b g (off+a.toNat*sz) (c.toNat-a.toNat) sz):=by have e:aSliceC (some sz) (.sl b g off len sz) (some (.int k a)) (some (.int f c)) (some (.int d x))=if sz=sz then(if a=0/\c=0/\x=0 then some .esl else if 0<=a/\a<=c/\c<=x/\x<=len then some (.sl b g (off+a.toNat*sz) (c.toNat-a.toNat) sz)else none)else none:=rfl;rw[e,if_pos rfl,if_neg (by omega),if_pos ⟨h1.1,h1.2.1,h1.2.2.1,h1.2.2.2.1⟩]
theorem QqN{sz bytes len b2 g2 c a}{ys}(i:b<lim)(f:srcB (h.get b2) g2 c a sz=some ys)(h1:(len+a)*bytes<=140737488355328/\len+a<=140737488355328)(ho:ys.all AV.one=true)(hm:0<m/\len+a<=m)(k:h.get b=some (.cells g cs))(o:off+(len+a)*sz<=cs.length)(hk:wR P N r dead fs (n+1) (putD T d (.typed t (m+1) (.sl b g off (len+a) sz))) (h.set b (.cells g (putR cs (off+len*sz) ys))) Q):wM P N (aAppend .dyn n sz bytes (.typed t (m+1) (.sl b g off len sz)) (.sl b2 g2 c a sz)) d r dead fs n T h Q:=by
 simp only[aAppend,aSrc,if_true,slLen,QcH,QcZ];unfold srcB at f;split at f
 ·rename_i q l p;split at f
  ·rename_i hc;obtain⟨rfl,hc⟩:=hc;cases f;refine⟨l,p,hc,⟨?_,?_,ho⟩,?_⟩;·have :(0+a)*bytes<=(len+a)*bytes:=Zbe _ (by omega);omega
   ·omega
   refine⟨⟨trivial,hm⟩,cs,k,o,?_⟩;rw[QeK,Qfq i];exact hk
  cases f
 cases f
theorem Qs8{sz len}{zero}(a:b<lim)(c:h.get b=some (.cells g cs))(l:0<len/\0<m)(f:off+len*sz<=cs.length)(i:zero.length=sz/\zero.all AV.one=true)(hk:wR P N r dead fs (n+1) (putD T d .any) (h.set b (.cells g (putR cs off (List.replicate len zero).flatten))) Q):wM P N (aClear sz zero (.typed t m (.sl b g off len sz))) d r dead fs n T h Q:=by obtain⟨len,rfl⟩:∃k,len=k+1:=⟨len-1,by omega⟩;obtain⟨m,rfl⟩:∃k,m=k+1:=⟨m-1,by omega⟩;simp only[aClear,if_true,QcH,QcZ];refine⟨cs,c,⟨f,i⟩,?_⟩;rw[QeK,Qfq a];exact hk
theorem Rn.unty{k}{x y}(b:Rn m π h x y):Rn m π h x (.typed t k y):=fun _ c w v H M a=>b _ c w v H M a.2
end Go.AM
namespace Go.AM
variable{P:Program}
def tightL(L:List Nat)(f:FP):Prop:=f.all=false/\∀b,b∈f.R\/b∈f.W->b∈L
def FrmAt(P:Program)(N:NM)(x:Opd)(ag:List Opd)(d:Option Nat)(L:List Nat)(r:List SOper)(n:Nat)(T:Tmps)(h:Heap)(Q:QC):Prop:=∃f a c v h1 fp,ev T x=.fn f a c/\FStep P f (a++evs T ag++c) h v h1 fp/\tightL L fp/\wR P N r [] [] (n+1) (putD T d v) h1 Q
end Go.AM
namespace Go.AM
variable{P:Program}
variable{C:Claims}{h:Heap}{F:List (Nat×List Nat)}{R:List (Nat×Nat)}{fs:List Fr}{G dead z:List Nat}{ops:List SOper}{N:NM}{n:Nat}{p:Nat×Nat}{Q:QC}{T T0:Tmps}{K:Tmps->Heap->Nat->Prop}
def fndM:List (Nat×List Nat)->Nat->Option (List Nat)|[],_=>none|(z,L)::F,i=>bif Nat.beq i z then some L else fndM F i
def wpRM(P:Program)(F:List (Nat×List Nat)):Nat->List SOper->Tmps->Heap->(Tmps->Heap->Nat->Prop)->Prop|n,[],T,h,K=>K T h n|n,s::r,T,h,K=>∃v h1 f,StepV P n s T h v h1 f/\(∀L,fndM F n=some L->tightL L f)/\wpRM P F (n+1) r (putD T s.dst v) h1 K
theorem Qe2:∀{r:List SOper}{n:Nat}{T:Tmps}{h:Heap}{K K':Tmps->Heap->Nat->Prop},(∀T h n,K T h n->K' T h n)->wpR P n r T h K->wpR P n r T h K'|[],n,T,h,K,K',hi,hw=>hi _ _ _ hw|s::r,n,T,h,K,K',hi,⟨v,h1,f,a,b⟩=>⟨v,h1,f,a,Qe2 hi b⟩
theorem QiT:∀(k:Nat)(r:List SOper)(n:Nat)(T:Tmps)(h:Heap),(∀i,n<=i->i<n+k->fndM F i=none)->wpR P n (r.take k) T h (fun T1 h1 a=>a=n+(r.take k).length->wpRM P F a (r.drop k) T1 h1 K)->wpRM P F n r T h K:=by intro k;induction k with|zero=>intro r n T h _ hw;rw[Zb5,Za5]at hw;exact hw rfl|succ k l=>intro r n T h b hw;cases r with|nil=>exact hw rfl|cons t r=>
 rw[Zbc]at hw;simp only[wpR]at hw;obtain⟨v,h1,f,d,g⟩:=hw;refine⟨v,h1,f,d,fun L c=>?_,l r (n+1) _ _ (fun i h1 m=>b i (by omega) (by omega)) ?_⟩;·rw[b n (Zar _) (by omega)]at c;cases c
 have e:∀a,a=n+1+(r.take k).length->a=n+(t::r.take k).length:=fun a h=>by rw[h,ZaD];omega
 exact Qe2 (fun T h n hk he=>hk (e _ he)) g
theorem Qoi:∀{r:List SOper}{n:Nat}{T:Tmps}{h:Heap}{K:Tmps->Heap->Nat->Prop},wpRM P F n r T h K->∃T' h' n',K T' h' n'/\∀d,(∀s∈r,s.dst≠some d)->lk T' d=lk T d|[],n,T,h,K,hk=>⟨T,h,n,hk,fun _ _=>rfl⟩|s::r,n,T,h,K,⟨v,h1,f,c,_,a⟩=>by obtain⟨T',h',n',hk,he⟩:=Qoi a;refine⟨T',h',n',hk,fun d b=>?_⟩;simp_all[QbJ]
def touchM(F:List (Nat×List Nat))(i:Nat)(ax:Opd->Option (List Nat))(s:SOp):Option (List Nat):=match fndM F i with|some L=>some L|none=>touch2 i ax s
def touchesM(F:List (Nat×List Nat))(C:Claims)(n:Nat)(T:Tmps):List SOper->Abs->List (Option (List Nat))|[],_=>[]|s::r,A=>touchM F n (absO T A) s.op::touchesM F C (n+1) T r (match s.dst with|some d=>(d,absH C d (s.op.absV n (absO T A)))::A|none=>A)
theorem Qoj:∀{r:List SOper}{n:Nat}{A:Abs}{T:Tmps}{h:Heap}{K:Tmps->Heap->Nat->Prop}(hA:AbsOK T0 A T)(K':List FP->Tmps->Heap->Nat->Prop)(l:∀T h n,K T h n->∀d bs,clm C d=some bs->Pts (lk T d) bs)(a:ssa C r=true),(∀fs T h n',fs.length=r.length->(∀(j:Nat)i,(touchesM F C n T0 r A).getD j none=some i->(fs.getD j ⟨false,[],[]⟩).all=false/\∀b,b∈(fs.getD j ⟨false,[],[]⟩).R\/b∈(fs.getD j ⟨false,[],[]⟩).W->b∈i)->K T h n'->K' fs T h n')->wpRM P F n r T h K->wpRF P n r T h K'
 |[],n,A,T,h,K,hA,K',l,a,p,hw=>p [] T h n rfl (fun j i c=>by simp_all) hw|s::r,n,A,T,h,K,hA,K',l,a,p,hw=>by
  obtain⟨v,h1,f,t,z,u⟩:=hw;simp only[ssa,Zac]at a;obtain⟨g,m⟩:=a;refine⟨v,h1,f,t,?_⟩;have q:AbsOK T0 (match s.dst with|some d=>(d,absH C d (s.op.absV n (absO T0 A)))::A|none=>A) (putD T s.dst v):=by cases e:s.dst with|none=>exact hA|some d=>
   refine AbsOK.up hA fun bs k=>?_;unfold absH at k;split at k
   ·rename_i x hc;cases k;obtain⟨T',B,n',hk,he⟩:=Qoi u;have w:=l T' B n' hk d _ hc;rw[he d ?_,QbJ,if_pos e]at w;·exact w
    intro E o;rw[e]at g;simp only[hc,Option.isNone_some,Bool.false_or,ZaH]at g;have:=g E o;intro G;simp_all
   exact Qej hA.opd k t
  refine Qoj q (fun fs T h n=>K' (f::fs) T h n) l m (fun fs T h n' y hf hk=>?_) u;refine p (f::fs) T h n' (by simp[y]) (fun j i c=>?_) hk;cases j with
  |zero=>simp only[touchesM,List.getD_cons_zero]at c⊢;unfold touchM at c;cases e:fndM F n with|some L=>rw[e]at c;simp only[Zab]at c;subst c;exact z L e|none=>rw[e]at c;exact QeV hA.opd c t
  |succ j=>simp only[touchesM,List.getD_cons_succ]at c⊢;exact hf j i c
theorem QqO(C)(L1 L2)(g l){x1 x2}{ag1 ag2}{d1 d2}(E:ops[g]?=some ⟨d1,.call .heap x1 ag1,z,none⟩)(t:(ops.drop (g+1))[l]?=some ⟨d2,.call .heap x2 ag2,G,none⟩)(A:ssa C ops=true)(hp:pairsOK (touchesM [(n+g,L1),(n+g+1+l,L2)] C n T ops []) (p::R)=true)(hw:wR P N (ops.take g) [] [] n T h fun e T h n=>FrmAt P N x1 ag1 d1 L1 ((ops.drop (g+1)).take l) n T h fun e T h n=>FrmAt P N x2 ag2 d2 L2 ((ops.drop (g+1)).drop (l+1)) n T h fun e T h n=>Clms T C/\wX P N .normal fs n (rm T dead) h Q):wS P N (.region ops (p::R) dead) fs n T h Q:=by
 have rm0:∀T:Tmps,rm T []=T:=by intro T;induction T with|nil=>rfl|cons p T ih=>obtain⟨j,v⟩:=p;simp[rm,ih]
 refine Qoj (C:=C) (F:=[(n+g,L1),(n+g+1+l,L2)]) (K:=fun T h n=>Clms T C/\wX P N .normal fs n (rm T dead) h Q) AbsOK.nil _ (fun T h n hk d bs hc=>hk.1.get d bs hc) A (fun fs' T h n' hl hf hk=>⟨?_,hk.2⟩) ?_
 ·rw[ZaH];intro q hq;have:=ZaH.1 hp q hq;split at this
  ·rename_i a b ha hb;obtain⟨f1,f2⟩:=hf _ _ ha;obtain⟨g1,g2⟩:=hf _ _ hb;have hd:∀x y,x∈a->y∈b->x≠y:=by grind
   have dj:∀xs K:List Nat,(∀x∈xs,∀y∈K,x≠y)->disj xs K=true:=by intro xs K I;unfold disj;grind
   grind[FP.apart]
  cases this
 have k:∀{a b:Nat},a≠b->Nat.beq a b=false:=fun{a b}h=>by cases e:Nat.beq a b with|false=>rfl|true=>exact absurd (Nat.eq_of_beq_eq_true e) h
 have o:∀a:Nat,Nat.beq a a=true:=fun a=>Nat.beq_refl a;have l1:g<ops.length:=(Zaf.1 E).1;have Y:l<(ops.drop (g+1)).length:=(Zaf.1 t).1;have t1:(ops.take g).length=g:=by rw[Zap];omega
 have t2:((ops.drop (g+1)).take l).length=l:=by rw[Zap];omega
 have O:ops.drop g=⟨d1,.call .heap x1 ag1,z,none⟩::ops.drop (g+1):=by rw[Zbm l1];congr 1;exact(Zaf.1 E).2
 have M:(ops.drop (g+1)).drop l=⟨d2,.call .heap x2 ag2,G,none⟩::(ops.drop (g+1)).drop (l+1):=by rw[Zbm Y];congr 1;exact(Zaf.1 t).2
 refine QiT g ops n T h (fun i h1 B=>?_) ?_;·unfold fndM;rw[k (by omega)];unfold fndM;rw[cond_false,k (by omega)];rfl
 have H:wpR P n (ops.take g) T h fun T h n=>FrmAt P N x1 ag1 d1 L1 ((ops.drop (g+1)).take l) n (rm T []) h fun e T h n=>FrmAt P N x2 ag2 d2 L2 ((ops.drop (g+1)).drop (l+1)) n T h fun e T h n=>Clms T C/\wX P N .normal fs n (rm T dead) h Q:=hw;simp only[rm0]at H;refine Qe2 (fun T1 h1 X I s=>?_) H;rw[t1]at s;obtain⟨f,a,c,v,B,fp,e1,e2,e3,e6⟩:=I;rw[O];refine⟨v,B,fp,?_,fun L m=>?_,?_⟩;·refine⟨.call .heap f (a++evs T1 ag1++c),h1,?_,.inr (.inr (.inr e2))⟩;simp_all[aop,aCall,HM.run]
 ·unfold fndM at m;rw[s,o]at m;simp only[cond_true,Zab]at m;rw[<-m];exact e3
 refine QiT l _ (X+1) _ _ (fun i h1 B=>?_) ?_;·unfold fndM;rw[k (by omega)];unfold fndM;rw[cond_false,k (by omega)];rfl
 have u:wpR P (X+1) ((ops.drop (g+1)).take l) (putD T1 d1 v) B fun T h n=>FrmAt P N x2 ag2 d2 L2 ((ops.drop (g+1)).drop (l+1)) n (rm T []) h fun e T h n=>Clms T C/\wX P N .normal fs n (rm T dead) h Q:=e6;simp only[rm0]at u;refine Qe2 (fun T2 h3 V I F=>?_) u;rw[t2]at F;obtain⟨f',Z,c',U,S,J,g1,g2,g3,g6⟩:=I;rw[M];refine⟨U,S,J,?_,fun L m=>?_,?_⟩;·refine⟨.call .heap f' (Z++evs T2 ag2++c'),h3,?_,.inr (.inr (.inr g2))⟩;simp_all[aop,aCall,HM.run]
 ·unfold fndM at m;rw[k (by omega),cond_false]at m;unfold fndM at m;rw[F,s,o]at m;simp only[cond_true,Zab]at m;rw[<-m];exact g3
 have w:wpR P (V+1) ((ops.drop (g+1)).drop (l+1)) (putD T2 d2 U) S fun T h n=>Clms (rm T []) C/\wX P N .normal fs n (rm (rm T []) dead) h Q:=g6;simp only[rm0]at w;refine QiT ((ops.drop (g+1)).drop (l+1)).length _ (V+1) _ _ (fun i h1 B=>?_) ?_;·unfold fndM;rw[k (by omega)];unfold fndM;rw[cond_false,k (by omega)];rfl
 rw[Zan,List.drop_length];exact Qe2 (fun T h n hk _=>hk) w
end Go.AM
namespace Go.AM
variable{P:Program}
variable{v:AV}{h:Heap}{args cs:List AV}{B:List Nat}{b f g:Nat}
theorem FStep.new1{a}{d i}(x:HSpec P f args (hp [(a,d)]) v (hp [(a,d),(b,i)]))(hin:inBs [a] args=true)(t:blkIn [a] (some d)=true)(s:h.get a=some d)(y:h.get b=none)(u:a≠b)(p:Nat.blt a 1099511627775=true)(w:Nat.blt b 1099511627775=true):FStep P f args h v ((h.set b i).set a d) ⟨false,[b,a],[b]⟩:=by
 have l:a<1099511627775:=by simp_all
 have n:b<1099511627775:=by simp_all
 have k:(hp [(a,d),(b,i)]).get a=some d:=by show((Tr.e.set b i).set a d).get a=_;rw[Zcl _ l];simp
 have m:(hp [(a,d),(b,i)]).get b=some i:=by show((Tr.e.set b i).set a d).get b=_;rw[Zcl _ l,if_neg (Ne.symm u),Zcl _ n];simp
 have q:∀j,j≠a->j≠b->(hp [(a,d),(b,i)]).get j=none:=fun j h1 o=>by show((Tr.e.set b i).set a d).get j=_;rw[Zcl _ l,if_neg h1,Zcl _ n,if_neg o];rfl
 refine⟨[a],[b,a],[b],hp [(a,d),(b,i)],?_,?_,hin,?_,?_,?_,?_,fun j c=>?_,?_,?_,?_,?_,rfl⟩;·simp[allLim,lim];omega
 ·simp[allLim,lim];omega
 ·intro j c;simp only[Zav,Za2,or_false]at c;subst c;rw[s];exact t
 ·have e:pick h [a]=hp [(a,d)]:=by simp only[pick,over,s];rfl
  rw[e];exact x
 ·intro j c;simp only[Zav,Za2,or_false]at c;rcases c with rfl|rfl;·rw[m];simp
  rw[k];simp
 ·intro j c;by_cases h1:j=a;·simp[h1]
  by_cases o:j=b;·simp[o]
  exact absurd (q j h1 o) c
 ·simp only[Zav,Za2,or_false]at c⊢;exact .inr c
 ·intro j c g;simp only[Zav,Za2,or_false]at c g;rcases c with rfl|rfl;·exact y
  exact absurd rfl g
 ·intro j c g;simp only[Zav,Za2,or_false]at c g;rcases c with rfl|rfl;·exact absurd rfl g
  rw[k,s]
 ·intro j c;simp only[Zav,Za2,or_false]at c⊢;exact .inl c
 simp only[over,m,k]
theorem FStep.one{k a}(q:HSpec P f args (hp [(b,k)]) v (hp [(b,a)]))(hin:inBs [b] args=true)(m:blkIn [b] (some k)=true)(p:h.get b=some k)(o:Nat.blt b 1099511627775=true):FStep P f args h v (h.set b a) ⟨false,[b],[b]⟩:=by
 have g:b<1099511627775:=by simp_all
 have i:(hp [(b,a)]).get b=some a:=by show(Tr.e.set b a).get b=_;rw[Zcl _ g];simp
 have n:∀j,j≠b->(hp [(b,a)]).get j=none:=fun j l=>by show(Tr.e.set b a).get j=_;rw[Zcl _ g,if_neg l];rfl
 refine⟨[b],[b],[b],hp [(b,a)],?_,?_,hin,?_,?_,?_,?_,fun _ h=>h,?_,?_,fun _ h=>h,?_,rfl⟩;·simp[allLim,lim];omega
 ·simp[allLim,lim];omega
 ·intro j c;simp only[Zav,Za2,or_false]at c;subst c;rw[p];exact m
 ·have e:pick h [b]=hp [(b,k)]:=by simp only[pick,over,p];rfl
  rw[e];exact q
 ·intro j c;simp only[Zav,Za2,or_false]at c;subst c;rw[i];simp
 ·intro j c;by_cases l:j=b;·simp[l]
  exact absurd (n j l) c
 ·intro j c d;exact absurd c d
 ·intro j c d;exact absurd c d
 simp only[over,i]
mutual theorem Qma{B:List Nat}:∀x:AV,noRef x=true->inB B x=true|.ptr ..,h=>by simp[noRef]at h|.sl ..,h=>by simp[noRef]at h|.map ..,h=>by simp[noRef]at h|.yld ..,h=>by simp[noRef]at h|.typed ..,h=>by simp[noRef]at h|.agg cs,h=>by rw[noRef]at h;rw[inB];exact QbB cs h|.tup cs,h=>by rw[noRef]at h;rw[inB];exact QbB cs h|.fptr cs,h=>by rw[noRef]at h;rw[inB];exact QbB cs h|.fsl cs _ _,h=>by rw[noRef]at h;rw[inB];exact QbB cs h|.fmap ks vs,h=>by rw[noRef,Zac]at h;rw[inB,QbB ks h.1,QbB vs h.2];rfl|.fn _ x y,h=>by rw[noRef,Zac]at h;rw[inB,QbB x h.1,QbB y h.2];rfl|.ifc _ v,h=>by rw[noRef]at h;rw[inB];exact Qma v h|.any,_=>rfl|.bool _,_=>rfl|.int _ _,_=>rfl|.str _,_=>rfl|.nilptr,_=>rfl|.nilsl,_=>rfl|.esl,_=>rfl|.nsl,_=>rfl|.nilmap,_=>rfl|.nilfn,_=>rfl|.nilif,_=>rfl termination_by structural x=>x theorem QbB{B:List Nat}:∀x:List AV,noRefs x=true->inBs B x=true|[],_=>rfl|x::xs,h=>by rw[noRefs,Zac]at h;rw[inBs,Qma x h.1,QbB xs h.2];rfl termination_by structural x=>x end
theorem Qok(h:noRefs cs=true):blkIn B (some (.cells g cs))=true:=by show inBs B cs=true;exact QbB cs h
end Go.AM
namespace Go.AM.SO
open Go.Proofs Go.AM.SD Go.AM.SE
variable{c:Cel}{h:Heap}{cs:List AV}{l:List Bxn}{L:List Nat}{b:Nat}
theorem Qhy(l:List Bxn):(l.flatMap bxC).all AV.one=true:=by induction l with|nil=>rfl|cons x l a=>rw[Zaz,ZbR,a];rfl
theorem cloneB212(l:List Bxn)(cs)(g:l.length<=1000000)(f:0<l.length)(hc:cs.take (l.length*2)=l.flatMap bxC)(b:l.length*2<=cs.length)(d:noRefs cs=true):HSpec Tryz.prog 212 [.sl 71 0 0 l.length 2] (hp [(71,.cells 0 cs)]) (.sl 92 0 0 l.length 2) (hp [(71,.cells 0 cs),(92,.cells 0 (l.flatMap bxC))]):=by
 refine HSpec.Qhi (m:=90) 100 (Ok WA.s212) rfl rfl ?_;have c:aEqN false (.sl 71 0 0 l.length 2)=.ret (.bool false):=by obtain⟨k,hk⟩:∃k,l.length=k+1:=⟨l.length-1,by omega⟩;rw[hk];rfl
 have ho:=Qhy l;have a:srcB (some (.cells 0 cs)) 0 0 l.length 2=some (l.flatMap bxC):=by rw[Qb2,if_pos ⟨rfl,by omega⟩,Za5,hc]
 unfold WA.s212;refine Zc7 (Zc9 c ho a) ?_;refine⟨.inr trivial,_,rfl,?_⟩;refine⟨[(71,.nil),(92,.blk 103 1)],rfl,au0,?_,au35⟩;exact ZcH rfl gg (Zct d) (ZcE rfl rfl gg (Zct (QaD _)) ZcD)
theorem Qol(l:List Bxn)(i):l.eraseIdx i=l.take i++l.drop (i+1):=List.eraseIdx_eq_take_drop_succ ..
theorem QvL(l:List Bxn)(i)(hi:i<l.length):putR (putR (l.flatMap bxC) (i*2) ((l.drop (i+1)).flatMap bxC)) ((l.length-1)*2) [.nilsl,.nilsl]=(l.eraseIdx i).flatMap bxC++[.nilsl,.nilsl]:=by
 have f:=QbF l;have h:=QbF (l.drop (i+1));have m:(l.drop (i+1)).length=l.length-(i+1):=ZaR;have b:=QbF (l.take i);have a:(l.take i).length=i:=by rw[Zap];omega
 have k:(l.flatMap bxC).take (i*2)=(l.take i).flatMap bxC:=by
  have g:l.flatMap bxC=(l.take i).flatMap bxC++(l.drop i).flatMap bxC:=by rw[<-Zao,Za9]
  rw[g,List.take_left' (by rw[b,a])]
 rw[QdD (l.flatMap bxC) (i*2) ((l.drop (i+1)).flatMap bxC) (by omega),k];have d:((l.take i).flatMap bxC++(l.drop (i+1)).flatMap bxC)=(l.eraseIdx i).flatMap bxC:=by rw[Qol,Zao]
 have c:((l.eraseIdx i).flatMap bxC).length=(l.length-1)*2:=by rw[QbF,List.length_eraseIdx,if_pos hi]
 have n:((l.flatMap bxC).drop (i*2+((l.drop (i+1)).flatMap bxC).length)).length=2:=by rw[ZaR];omega
 generalize(l.flatMap bxC).drop (i*2+((l.drop (i+1)).flatMap bxC).length)=R at*;rw[d,QdD _ _ _ (by rw[Zag];simp only[ZaD,Zbd];omega)];rw[List.take_left' c,List.drop_of_length_le (by rw[Zag];simp only[ZaD,Zbd];omega),Zas]
theorem delete211(l:List Bxn)(i)(hi:i<l.length)(t:l.length<=1000000):HSpec Tryz.prog 211 [.sl 92 0 0 l.length 2,.int .i64 (i:Int),.int .i64 ((i:Int)+1)] (hp [(92,.cells 0 (l.flatMap bxC))]) (.sl 92 0 0 (l.length-1) 2) (hp [(92,.cells 0 ((l.eraseIdx i).flatMap bxC++[.nilsl,.nilsl]))]):=by
 refine HSpec.Qhi (m:=93) 100 (Ok WR.s211) rfl rfl ?_;have m:=QbF l;have q:(0:Int)<=i/\(i:Int)<=(i:Int)+1/\(i:Int)+1<=(l.length:Int)/\(l.length:Int)<=(l.length:Int)/\(0:Int)<(l.length:Int):=by omega
 have c:¬(i:Int)=(i:Int)+1:=by omega
 have o:(0:Int)<=(i:Int)/\(i:Int)<=(l.length:Int)/\0<l.length:=by omega
 have b:((i:Int)+1).toNat=i+1:=by omega
 have hlen:i+(l.length-(i+1))=l.length-1:=by omega
 have f:(0:Int)<=((l.length-1:Nat):Int)/\((l.length-1:Nat):Int)<=(l.length:Int)/\(l.length:Int)<=(l.length:Int)/\((l.length-1:Nat):Int)<(l.length:Int):=by omega
 have d:l.length-(l.length-1)=1:=by omega
 have h:((l.flatMap bxC).drop ((i+1)*2)).take ((l.length-(i+1))*2)=(l.drop (i+1)).flatMap bxC:=by
  have s:l.flatMap bxC=(l.take (i+1)).flatMap bxC++(l.drop (i+1)).flatMap bxC:=by rw[<-Zao,Za9]
  have p:(l.take (i+1)).length=i+1:=by rw[Zap];omega
  have n:((l.drop (i+1)).flatMap bxC).length=(l.length-(i+1))*2:=by rw[QbF,ZaR]
  rw[s,List.drop_left' (by rw[QbF,p]),<-n,Zan]
 have a:srcB (some (.cells 0 (l.flatMap bxC))) 0 ((i+1)*2) (l.length-(i+1)) 2=some ((l.drop (i+1)).flatMap bxC):=by rw[Qb2,if_pos ⟨rfl,by omega⟩,h]
 have g:=QvL l i hi;unfold WR.s211;refine Zc7 (Zdc @Ql9 @tLen (fun b' g' u s k' f' d'=>QqM (b:=b') (g:=g') (off:=u) (sz:=s) (k:=k') (f:=f') (d:=d') q) c (fun b' g' u s k'=>Qs6 (b:=b') (g:=g') (off:=u) (sz:=s) (k:=k') o) b) ?_;refine QqN (ys:=(l.drop (i+1)).flatMap bxC) (cs:=l.flatMap bxC) (by decide) (by rw[QaA (by decide)];exact a) (by omega) (Qhy _) (by omega) (QaA (by decide)) (by omega) ?_;rw[hlen];refine Zc7 (Zda @Ql9 @tLen (fun t' b' g' u n' s k' e'=>Qs7 (t:=t') (b:=b') (g:=g') (off:=u) (len:=n') (sz:=s) (k:=k') (d:=e') f) d) ?_;refine Qs8 (cs:=putR (l.flatMap bxC) (i*2) ((l.drop (i+1)).flatMap bxC)) (by decide) (QaA (by decide)) (by decide) (by rw[QhA _ _ _ (by rw[QbF,ZaR];omega)];omega) ⟨rfl,rfl⟩ ?_;have k:(List.replicate 1 [AV.nilsl,AV.nilsl]).flatten=[AV.nilsl,AV.nilsl]:=rfl;rw[k,g];refine Zc6 ?_;refine⟨.inr trivial,_,rfl,?_⟩;refine⟨[(92,.nil)],rfl,au0,ZcH rfl gg (Zct (SU.Qav (QaD _) rfl)) ZcD,ZcC (Rn.unty (Rn.x5 rfl)) ZcB⟩
structure VOk(v:List (List UInt8×Int)):Prop where
 l5:v.length<=5
 hin:∀x∈v,0<=x.2/\x.2<=2
 nm:∀x∈v,Ps 165 [.str x.1] (.bool true)ne:v.Pairwise fun x y=>x.1≠y.1
theorem vok_c(h:WfCel c):VOk (ZV c):=by
 have l:∀{i j:Nat},i<10->j<10->UInt8.ofNat (48+i)=UInt8.ofNat (48+j)->i=j:=by intro i j hi m he;have:=congrArg UInt8.toNat he;simp only[UInt8.toNat_ofNat']at this;omega
 have g:∀x∈c.cs,x.1<3:=fun x d=>by have h1:x.1∈c.cs.map (·.1):=List.mem_map_of_mem d;rw[h.cn]at h1;have:=Zau.1 h1;have:=h.c3;omega
 have hrn:∀x∈c.rs,x.1<2:=fun x d=>by have h1:x.1∈c.rs.map (·.1):=List.mem_map_of_mem d;rw[h.rn]at h1;have:=Zau.1 h1;have:=h.r2;omega
 refine⟨Qdv h,QbW h,fun x d=>?_,?_⟩
 ·unfold ZV at d;rcases ZaE.1 d with d|d;·obtain⟨y,f,rfl⟩:=Zaq.1 d;exact QjE (g y f)
  obtain⟨y,f,rfl⟩:=Zaq.1 d;exact Qsm (hrn y f)
 unfold ZV;rw[Zbg,Zbr,Zbr];refine⟨?_,?_,fun x d y f=>?_⟩
 ·have h1:(c.cs.map (·.1)).Pairwise (·<·):=by rw[h.cn];exact ZbF
  rw[Zbr]at h1;refine h1.imp_of_mem fun{x y}d f k he=>?_;have e:UInt8.ofNat (48+x.1)=UInt8.ofNat (48+y.1):=by have:([99,UInt8.ofNat (48+x.1)]:List UInt8)=[99,UInt8.ofNat (48+y.1)]:=he;simpa using this
  have:=l (by have:=g x d;omega) (by have:=g y f;omega) e;omega
 ·have h1:(c.rs.map (·.1)).Pairwise (·<·):=by rw[h.rn];exact ZbF
  rw[Zbr]at h1;refine h1.imp_of_mem fun{x y}d f k he=>?_;have e:UInt8.ofNat (48+x.1)=UInt8.ofNat (48+y.1):=by have:([114,UInt8.ofNat (48+x.1)]:List UInt8)=[114,UInt8.ofNat (48+y.1)]:=he;simpa using this
  have:=l (by have:=hrn x d;omega) (by have:=hrn y f;omega) e;omega
 obtain⟨a,_,rfl⟩:=Zaq.1 d;obtain⟨b,_,rfl⟩:=Zaq.1 f;intro he;have he:([99,UInt8.ofNat (48+a.1)]:List UInt8)=[114,UInt8.ofNat (48+b.1)]:=he;simp at he
theorem large142(x)(h:0<=x/\x<=2):Ps 142 [.int .i64 x,.int .i64 65536] (.bool false):=by
 refine Zcv 64 (Ok WB.s142) rfl rfl rfl ?_;have h1:¬65536<x:=by omega
 have a:¬x< -65536:=by omega
 unfold WB.s142;refine Zc7 (Zc8 h1 a) ?_;exact⟨.inr trivial,_,rfl,rfl⟩
theorem same208(x y)(h:x.1≠y.1):Ps 208 [.agg (vrC x),.fptr (vrC y)] (.bool false):=by
 refine Zcv 64 (Ok WB.s208) rfl rfl rfl ?_;have a:aBin BinOp.eql (.str x.1) (.str y.1)=some (.bool false):=by simp[aBin,h]
 simp(disch:=first|omega|exact PairsOK.mk rfl|(simp only[lenW]<;>omega))only[WB.s208,vrC,a,wW,wV,simprocAttr];exact⟨.inr trivial,_,rfl,rfl⟩
theorem index255(l:List (List UInt8×Int))(y:List UInt8×Int)(f:l.length<=1000)(h:∀x∈l,x.1≠y.1):Ps 255 [vrsV l,.fn 208 [] [.fptr (vrC y)]] (.int .i64 (-1)):=by
 refine Zcv 64 (Ok WB.s255) rfl (by rw[noRefs,QaO];rfl) rfl ?_;unfold WB.s255;refine Zc6 ?_;refine QaC 100 (fun i:Nat=>[(0,vrsV l),(1,.fn 208 [] [.fptr (vrC y)]),(7,.int .i64 l.length),(8,.int .i64 i)]) (fun _=>[]) (fun i=>i<=l.length) (fun i=>l.length-i) 0 ?_ (Zaj _) ?_;·exact⟨[],rfl,ZcA,ZcD,ZcC (Zcs (QaO _)) (ZcC (Zcs rfl) (ZcC (Zcs rfl) (ZcC (Zcs rfl) ZcB)))⟩
 rintro i hi;by_cases a:i<l.length
 ·obtain⟨x,d⟩:=Qak a;have b:=QcB d;have c:4<=((l.flatMap vrC).drop (i*4)).length:=by rw[b];simp
  have hw:=same208 x y (h x (Zaa d));unfold vrC at hw;refine Zc7 (Zc9 a b c) ?_;refine cpcP hw ?_;refine Zc6 ?_;refine⟨i+1,by omega,by omega,?_⟩;exact⟨[],rfl,ZcA,ZcD,ZcC (Zcs (QaO _)) (ZcC (Zcs rfl) (ZcC (Zcs rfl) (ZcC (Zcs rfl) ZcB)))⟩
 refine Zc7 a ?_;exact⟨.inr trivial,_,rfl,rfl⟩
theorem contains207(l:List (List UInt8×Int))(y:List UInt8×Int)(a:l.length<=1000)(h:∀x∈l,x.1≠y.1):Ps 207 [vrsV l,.fn 208 [] [.fptr (vrC y)]] (.bool false):=by have hi:=index255 l y a h;refine Zcv 64 (Ok WB.s207) rfl (by rw[noRefs,QaO];rfl) rfl ?_;unfold WB.s207;refine Zc6 ?_;refine cp hi ?_;refine Zc6 ?_;exact⟨.inr trivial,_,rfl,rfl⟩
theorem check167(v)(h:VOk v):Ps 167 [vrsV v] (.int .i64 0):=by
 have B:=h.l5;refine Zcv 64 (Ok WA.s167) rfl (by rw[noRefs,QaO];rfl) rfl ?_;have g:¬(16:Int)<(v.length:Int):=by omega
 unfold WA.s167;refine Zc7 g ?_;refine QaC 100 (fun i:Nat=>[(0,vrsV v),(8,vrsV v),(9,.int .i64 v.length),(10,.int .i64 i)]) (fun _=>[]) (fun i=>i<=v.length) (fun i=>v.length-i) 0 ?_ (Zaj _) ?_;·exact⟨[],rfl,ZcA,ZcD,ZcC (Zcs (QaO _)) (ZcC (Zcs (QaO _)) (ZcC (Zcs rfl) (ZcC (Zcs rfl) ZcB)))⟩
 rintro i hi;by_cases a:i<v.length
 ·obtain⟨x,f⟩:=Qak a;have c:=QcB f;have q:4<=((v.flatMap vrC).drop (i*4)).length:=by rw[c];simp
  have b:=Zaa f;have s:=h.nm x b;have x2:=h.hin x b;have n:=large142 0 (by decide);have o:=large142 x.2 x2;have d:∀y∈v.take i,y.1≠x.1:=by intro y t;obtain⟨j,w,rfl⟩:=ZaO t;have p:=w;rw[Zap]at p;have:=Za0.1 h.ne j i (by omega) a (by omega);rw[List.getElem_take];rw[(Zaf.1 f).2]at this;exact this
  have z:=contains207 (v.take i) x (by rw[Zap];omega) d;have k:(v.flatMap vrC).take (i*4)=(v.take i).flatMap vrC:=by
   have e:(v.take i).length=i:=by rw[Zap];omega
   have u:v.flatMap vrC=(v.take i).flatMap vrC++(v.drop i).flatMap vrC:=by rw[<-Zao,Za9]
   rw[u,List.take_left' (by rw[QgP,e])]
  have m:(v.take i).length=i:=by rw[Zap];omega
  have l:Ps 207 [.fsl ((v.flatMap vrC).take (i*4)) i 4,.fn 208 [] [.fptr [.str x.1,.int .i64 0,.int .i64 x.2,.int .i64 0]]] (.bool false):=by
   rw[k];have e:vrsV (v.take i)=.fsl ((v.take i).flatMap vrC) i 4:=by rw[vrsV,m]
   rw[<-e];exact z
  have A:¬x.2<0:=by omega
  refine Zc7 (Zc9 a c q) ?_;refine cp s ?_;refine Zc7 a ?_;refine ch (ZcQ (ZcT (Zcy _) (ZcT (FrzTo.fn ZcS (ZcT (ZcP gg (Zcz _)) ZcS)) ZcS)) l rfl) ?_;refine Zc6 ?_;refine cp n ?_;refine Zc6 ?_;refine cp o ?_;refine Zc7 A ?_;refine⟨i+1,by omega,by omega,?_⟩;exact⟨[],rfl,ZcA,ZcD,ZcC (Zcs (QaO _)) (ZcC (Zcs (QaO _)) (ZcC (Zcs rfl) (ZcC (Zcs rfl) ZcB)))⟩
 refine Zc7 a ?_;exact⟨.inr trivial,_,rfl,rfl⟩
theorem all111(v)(h:VOk v):Ps 111 [vrsV v] (.tup [liV (dom v),.int .i64 0]):=by
 have z:=h.l5;have hin:=h.hin;have A:=check167 v h;refine Zcu 64 (Ok WA.s111) rfl (by rw[noRefs,QaO];rfl) (by simp only[noRef,noRefs,QaG];rfl) ?_;unfold WA.s111;refine Zc6 ?_;refine cp A ?_;refine Zc6 ?_;refine QaC 100 (fun i:Nat=>[(0,vrsV v),(5,.int .i64 (szV 1 (v.take i))),(20,vrsV v),(21,.int .i64 v.length),(22,.int .i64 i)]) (fun _=>[]) (fun i=>i<=v.length) (fun i=>v.length-i) 0 ?_ (Zaj _) ?_;·exact⟨[],rfl,ZcA,ZcD,ZcC (Zcs (QaO _)) (ZcC (Zcs rfl) (ZcC (Zcs (QaO _)) (ZcC (Zcs rfl) (ZcC (Zcs rfl) ZcB))))⟩
 rintro i hi;by_cases a:i<v.length
 ·obtain⟨x,c⟩:=Qak a;have b:=QcB c;have d:4<=((v.flatMap vrC).drop (i*4)).length:=by rw[b];simp
  have x2:=hin x (Zaa c);have M:=QbO hin z i;have b2:=QbO hin z (i+1);have es:=QdW c;rw[es]at b2;generalize szV 1 (v.take i)=S at*;have G:¬4096<S*(x.2+1):=by omega
  have C:x.2-0=x.2:=by omega
  refine Zc7 (Zdb a b d G C) ?_;refine⟨i+1,by omega,by omega,?_⟩;rw[es];exact⟨[],rfl,ZcA,ZcD,ZcC (Zcs (QaO _)) (ZcC (Zcs rfl) (ZcC (Zcs (QaO _)) (ZcC (Zcs rfl) (ZcC (Zcs rfl) ZcB))))⟩
 refine Zc7 a ?_;refine QaC 120 (fun i:Nat=>[(8,liV (dom (v.take i))),(38,vrsV v),(39,.int .i64 v.length),(40,.int .i64 i)]) (fun _=>[]) (fun i=>i<=v.length) (fun i=>v.length-i) 0 ?_ (Zaj _) ?_;·refine⟨[],rfl,ZcA,ZcD,ZcC (Rn.fz (b:=101) (g:=0) gg rfl rfl rfl (ZcK Rn.nilK ZcJ)) (ZcC (Zcs (QaO v)) au35)⟩
 rintro i hi;by_cases a:i<v.length
 ·obtain⟨x,c⟩:=Qak a;have b:=QcB c;have d:4<=((v.flatMap vrC).drop (i*4)).length:=by rw[b];simp
  have y:=hin x (Zaa c);have s:=QeY c;have K:(dom (v.take i)).length<=243:=by have h1:=QfB hin i hi;have N:=QbO hin z i;omega
  have q:∀t∈dom (v.take i),t.length<=5:=fun t g=>by rw[Qdw i hi t g];omega
  generalize dom (v.take i)=L at*;refine Zc7 (Zc9 a b d) ?_;refine Qas 140 (fun k:Nat=>[(10,.ptr 53 0 0),(11,.sl 76 0 0 (domP L x.2 k 0).length 1),(38,vrsV v),(39,.int .i64 v.length),(40,.int .i64 i),(44,liV L),(45,.int .i64 L.length),(46,.int .i64 k)]) (fun k=>[(53,.cells 0 [.str x.1,.int .i64 0,.int .i64 x.2,.int .i64 0]),(76,.cells 0 ((domP L x.2 k 0).map sli))]) (fun k=>k<=L.length) (fun k=>L.length-k) 0 4 300 (fun _:Unit=>[(11,liV (domS L x.2)),(38,vrsV v),(39,.int .i64 v.length),(40,.int .i64 i)]) (fun _=>[]) (fun _=>True) ?_ (Zaj _) ?_ ?_;·refine⟨[(53,.blk 123 0),(76,.nil)],rfl,au0,?_,au35⟩;exact ZcE rfl rfl gg (Zct rfl) (ZcF rfl rfl ZcD)
  ·rintro k hk;by_cases f:k<L.length
   ·obtain⟨t,g⟩:=Qak f;have J:=q t (Zaa g);have u:=cloneI86 t (by omega);refine Zc7 (Zc8 f (QdX g)) ?_;refine QaC 200 (fun n:Nat=>[(10,.ptr 53 0 0),(11,.sl 76 0 0 (domP L x.2 k n).length 1),(13,sli t),(14,.int .i64 n),(38,vrsV v),(39,.int .i64 v.length),(40,.int .i64 i),(44,liV L),(45,.int .i64 L.length),(46,.int .i64 k)]) (fun n=>[(53,.cells 0 [.str x.1,.int .i64 0,.int .i64 x.2,.int .i64 0]),(76,.cells 0 ((domP L x.2 k n).map sli))]) (fun n=>n<=(x.2+1).toNat) (fun n=>(x.2+1).toNat-n) 0 ?_ (Zaj _) ?_;·refine⟨[(53,.blk 53 0),(76,.blk 76 0)],rfl,au0,?_,au35⟩;exact ZcE rfl rfl gg (Zct rfl) (ZcE rfl rfl gg (Zct (QaG _)) ZcD)
    rintro n I;have F:=QtW (L:=L) (k:=k) y I;by_cases l:(n:Int)<=x.2
    ·have m:(ZI t).all AV.one=true:=by simp[ZI,AV.one]
     have o:(ZI t).length=t.length:=by simp[ZI]
     have p:((domP L x.2 k n).map sli).length=(domP L x.2 k n).length*1:=by simp
     refine Zc7 l ?_;refine ch (ZcU (b:=83) (by(try simp only[noRefs,Qaa,noRef,noRefs,QaP,QaD,Qaz,QaG,QaT,Zae,Zad])<;>rfl) u (by repeat(first|exact Fresh.e|exact Zcw (by assumption) (by omega)|refine Zcx ?_ (by omega) (by omega))) rfl) ?_;refine Zc7 (Zc9 m o p) ?_;refine⟨n+1,by omega,by omega,?_⟩;rw[Qsp g,Zag,ZaJ];refine⟨[(53,.blk 53 0),(76,.blk 76 1)],rfl,au0,?_,au35⟩;exact ZcE rfl rfl gg (Zct rfl) (ZcE rfl rfl gg (RnL.append (Zct (QaG _)) (RnL.one (ZcL (b:=83) (g:=1) gg rfl rfl (by simp) (by simp[ZI]) (RnL.eq (by simp[ZI]) (Qaa _))))) ZcD)
    have B:n=(x.2+1).toNat:=by omega
    have w:=QtV (h:=x.2) g;refine Zc7 l ?_;refine⟨k+1,by omega,by omega,?_⟩;rw[Qso,<-w,<-B];refine⟨[(53,.blk 53 0),(76,.blk 76 0)],rfl,au0,?_,au35⟩;exact ZcE rfl rfl gg (Zct rfl) (ZcE rfl rfl gg (Zct (QaG _)) ZcD)
   have E:k=L.length:=by omega
   subst E;have w:domP L x.2 L.length 0=domS L x.2:=by rw[Qso,Zan]
   refine Zc7 f ?_;rw[w];refine⟨(),?_⟩;exact⟨[],rfl,ZcA,ZcD,ZcC (ZcL (b:=76) (g:=0) gg rfl rfl rfl (by simp) (Zct (QaG _))) (ZcC (Zcs (QaO _)) (ZcC (Zcs rfl) (ZcC (Zcs rfl) ZcB)))⟩
  rintro _ _;refine Zc6 ?_;refine⟨i+1,by omega,by omega,?_⟩;rw[s];exact⟨[],rfl,ZcA,ZcD,ZcC (Zcs (Qcj _)) (ZcC (Zcs (QaO _)) (ZcC (Zcs rfl) (ZcC (Zcs rfl) ZcB)))⟩
 have H:i=v.length:=by omega
 subst H;rw[Zan];refine Zc7 a ?_;exact⟨.inr trivial,_,rfl,Zcs (by simp only[noRef,noRefs,QaG];rfl)⟩
theorem QkJ{g n}(d:h.get b=some (.cells g cs))(a:l.length=n)(hc:cs.take (n*2)=l.flatMap bxC)(c:n*2<=cs.length):FrzTo h (.sl b g 0 n 2) (bxsV l):=by subst a;refine FrzTo.sl d (by omega) ?_;rw[Za5,hc];exact Zcz _
theorem QvM{nd}{f i}(h:¬i<l.length):bgB nd f l i=l:=by cases f with|zero=>rfl|succ f=>rw[bgB,if_neg h]
theorem tight2{a}(f:a∈L)(d:b∈L):tightL L ⟨false,[b,a],[b]⟩:=⟨rfl,fun x c=>by simp only[Zav,Za2,or_false]at c;rcases c with(rfl|rfl)|rfl<;>assumption⟩
theorem tight1(c:b∈L):tightL L ⟨false,[b],[b]⟩:=⟨rfl,fun x a=>by simp only[Zav,Za2,or_false]at a;rcases a with rfl|rfl<;>assumption⟩
theorem boxes168(v:List (List UInt8×Int))(A nd rf:List (List Int))(h5:v.length<=5)(hin:∀x∈v,0<=x.2/\x.2<=2)(Z:nd.length<=1000)(hrl:rf.length<=1000)(g:∀a∈nd,a.length=v.length/\∀(j:Nat)x,v[j]?=some x->0<=a.getD j 0/\a.getD j 0<=x.2)(T:∀a∈rf,a.length=v.length):Ps 168 [cvV v A nd rf] (bxsV (covR (fun a=>grB (okR rf) v a v.length) nd)):=by
 have N:∀a∈nd,Ps 210 [cvV v A nd rf,sli a] (bxV (grB (okR rf) v a v.length)):=fun a m=>grow210 v a A nd rf h5 hin (g a m).1 (g a m).2 (by omega) T;have C:∀a∈nd,BxR v (grB (okR rf) v a v.length):=fun a m=>grB_R hin (g a m).1 (g a m).2 v.length (Zar _);generalize E:(fun a=>grB (okR rf) v a v.length)=G;have N:∀a∈nd,Ps 210 [cvV v A nd rf,sli a] (bxV (G a)):=fun a m=>by rw[<-E];exact N a m
 have C:∀a∈nd,BxR v (G a):=fun a m=>by rw[<-E];exact C a m
 clear E;have K:=fun i hi=>Qhu (G:=G) (nd:=nd) C i hi;have f:noRefs [vrsV v,liV A,liV nd,liV rf]=true:=by simp only[noRefs,noRef,Qaz,QaG];rfl
 refine Zcu 64 (Ok WA.s168) rfl (by rw[noRefs,noRef,f];rfl) (Qcb _) ?_;unfold WA.s168;refine Zc6 ?_;refine QaC 100 (fun i:Nat=>[(1,.ptr 50 0 0),(3,.ptr 51 0 0),(10,liV nd),(11,.int .i64 nd.length),(12,.int .i64 i)]) (fun i=>[(50,.cells 0 [vrsV v,liV A,liV nd,liV rf]),(51,.cells 0 [.sl 71 0 0 (bgA G nd i).length 2]),(71,.cells 0 ((bgA G nd i).flatMap bxC))]) (fun i=>i<=nd.length) (fun i=>nd.length-i) 0 ?_ (Zaj _) ?_;·refine⟨[(50,.blk 64 0),(51,.blk 66 0),(71,.nil)],rfl,au0,?_,au35⟩;exact ZcE rfl rfl gg (Zct f) (ZcE rfl rfl gg (ZcK (Rn.x4 rfl rfl) ZcJ) (ZcF rfl rfl ZcD))
 rintro i hi;have P:=K i hi;have hAl:=@Qp0 G nd i;have c:bgA G nd (i+1)=if inBs (bgA G nd i) (nd.getD i [])=true then bgA G nd i else bgA G nd i++[G (nd.getD i [])]:=rfl;by_cases d:i<nd.length;·obtain⟨a,m⟩:=Qak d;have J:=Zaa m;have F:=(g a J).1;have hg:=N a J;rw[Qaw m]at c;generalize bgA G nd i=h at*;have S:=in209 h a (by omega) (fun b u=>⟨by rw[(P b u).1,F],by rw[(P b u).2.1,F]⟩) (by omega);have M:(h.flatMap bxC).length=h.length*2:=QbF h;refine Zc7 (Zc8 d (QdX m)) ?_;refine ch (ZcQ (ZcT (Qsq gg rfl) (Zcz _)) S rfl) ?_;cases V:inBs h a with|true=>rw[if_pos V]at c;refine Zc6 ?_;refine⟨i+1,by omega,by omega,?_⟩;rw[c];refine⟨[(50,.blk 50 0),(51,.blk 51 0),(71,.blk 71 0)],rfl,au0,?_,au35⟩;exact ZcE rfl rfl gg (Zct f) (ZcE rfl rfl gg (ZcK (Rn.x1 rfl rfl) ZcJ) (ZcE rfl rfl gg (Zct (QaD _)) ZcD))|false=>
  rw[if_neg (by rw[V];decide)]at c;refine Zc6 ?_;refine cp hg ?_;refine Zc7 M ?_;refine⟨i+1,by omega,by omega,?_⟩;have e1:(h++[G a]).length=h.length+1:=by simp
  rw[c,e1,Zao];refine⟨[(50,.blk 50 0),(51,.blk 51 0),(71,.blk 71 1)],rfl,au0,?_,au35⟩;exact ZcE rfl rfl gg (Zct f) (ZcE rfl rfl gg (ZcK (Rn.x1 rfl rfl) ZcJ) (ZcE rfl rfl gg (Zct (SU.Qav (QaD _) (QaD [G a]))) ZcD))
 have ei:i=nd.length:=by omega
 subst ei;clear c;refine Zc7 d ?_;unfold covR;generalize bgA G nd nd.length=h at*;refine QaC 300 (fun t:List Bxn×Nat×List AV=>[(1,.ptr 50 0 0),(3,.ptr 51 0 0),(6,.ptr 52 0 0)]) (fun t=>[(50,.cells 0 [vrsV v,liV A,liV nd,liV rf]),(51,.cells 0 [.sl 71 0 0 t.1.length 2]),(52,.cells 0 [.int .i64 t.2.1]),(71,.cells 0 t.2.2)]) (fun t=>(t.2.2.take (t.1.length*2)=t.1.flatMap bxC/\t.1.length*2<=t.2.2.length/\noRefs t.2.2=true)/\t.2.1<=t.1.length/\t.1.length<=1000/\(∀b∈t.1,BxR v b)/\bgB nd (t.1.length-t.2.1) t.1 t.2.1=bgB nd h.length h 0) (fun t=>t.1.length-t.2.1) (h,0,h.flatMap bxC) ?_ ⟨⟨by rw[<-QbF,Zan],by rw[QbF];exact Zar _,QaD _⟩,Zaj _,by show h.length<=1000;omega,P,rfl⟩ ?_;·refine⟨[(50,.blk 50 0),(51,.blk 51 0),(52,.blk 101 0),(71,.blk 71 0)],rfl,au0,?_,au35⟩;exact ZcE rfl rfl gg (Zct f) (ZcE rfl rfl gg (ZcK (Rn.x1 rfl rfl) ZcJ) (ZcE rfl rfl gg (Zct rfl) (ZcE rfl rfl gg (Zct (QaD _)) ZcD)))
 rintro⟨l,i,cs⟩⟨⟨p,n,q⟩,hi,X,L,H⟩;dsimp only at p n q hi X L H⊢;by_cases d:i<l.length
 ·obtain⟨b,u⟩:=Qak d;have R:=cloneB212 l cs (by omega) (by omega) p n q;have O:=delete211 l i d (by omega);have I:(l.eraseIdx i).length=l.length-1:=by rw[List.length_eraseIdx,if_pos d]
  have B:∀b∈l.eraseIdx i,BxR v b:=fun b u=>L b (List.mem_of_mem_eraseIdx u);have w:=QbF (l.eraseIdx i);have hQ:∀x∈nd,Ps 214 ([]++[sli x]++[.fptr [bxsV l],.fptr [.int .i64 (i:Int)],.fptr [bxsV (l.eraseIdx i)]]) (.bool (inB (l.getD i bx0) x&&!inBs (l.eraseIdx i) x)):=fun x hx=>by have z:=(g x hx).1;rw[Qaw u];exact spare214 l (l.eraseIdx i) i b x u (by omega) (by omega) ⟨by rw[(L b (Zaa u)).1,z],by rw[(L b (Zaa u)).2.1,z]⟩ (fun y U=>⟨by rw[(B y U).1,z],by rw[(B y U).2.1,z]⟩) (by omega)
  have Y:=contains213 (f:=214) (a:=[]) (c:=[.fptr [bxsV l],.fptr [.int .i64 (i:Int)],.fptr [bxsV (l.eraseIdx i)]]) nd (fun x=>inB (l.getD i bx0) x&&!inBs (l.eraseIdx i) x) (by simp only[noRef,noRefs,QaD];rfl) (by omega) hQ;have Q:spr nd l i=!(nd.any fun x=>inB (l.getD i bx0) x&&!inBs (l.eraseIdx i) x):=rfl;have s:bgB nd (l.length-i) l i=if spr nd l i=true then bgB nd (l.length-i-1) (l.eraseIdx i) i else bgB nd (l.length-i-1) l (i+1):=by obtain⟨k,hk⟩:∃k,l.length-i=k+1:=⟨l.length-i-1,by omega⟩;rw[hk,bgB,if_pos d];rfl
  rw[Q]at s;generalize(nd.any fun x=>inB (l.getD i bx0) x&&!inBs (l.eraseIdx i) x)=SP at*;have o:(i:Int)<(l.length:Int):=by omega
  refine Zc7 o ?_;refine QqO [] [71,92] [92] 1 3 (x1:=.f 212) (ag1:=[.t 31]) (d1:=some 32) (x2:=.f 211) (ag2:=[.t 32,.t 33,.t 35]) (d2:=some 36) rfl rfl rfl rfl ?_;refine Zc6 ?_;refine⟨212,[],[],_,_,_,rfl,FStep.new1 R rfl (Qok q) gg gg (by decide) rfl rfl,tight2 (by simp) (by simp),?_⟩;refine Zc6 ?_;refine⟨211,[],[],_,_,_,rfl,FStep.one O rfl (Qok (QaD _)) gg rfl,tight1 (by simp),?_⟩;refine Zc6 ?_;refine⟨trivial,?_⟩;refine ch (ZcQ (ZcT (Zcy _) (ZcT (FrzTo.fn ZcS (ZcT (ZcP gg (ZcT (QkJ gg rfl p n) ZcS)) (ZcT (ZcP gg (Zcz _)) (ZcT (ZcP gg (ZcT (QkJ (cs:=(l.eraseIdx i).flatMap bxC++[.nilsl,.nilsl]) gg I (by rw[<-I,<-w];exact List.take_left) (by rw[Zag,w,I];omega)) ZcS)) ZcS)))) ZcS)) Y rfl) ?_
  cases SP with|false=>
   rw[if_pos (show(!false)=true from rfl)]at s;refine Zc6 ?_;refine⟨(l.eraseIdx i,i,(l.eraseIdx i).flatMap bxC++[.nilsl,.nilsl]),by dsimp only;omega,⟨⟨by rw[<-w];exact List.take_left,by dsimp only;rw[List.length_append,w];omega,SU.Qav (QaD _) rfl⟩,by dsimp only;omega,by dsimp only;omega,B,?_⟩,?_⟩;·dsimp only;rw[I,show l.length-1-i=l.length-i-1 by omega,<-s,H]
   dsimp only;rw[I];refine⟨[(50,.blk 50 0),(51,.blk 51 0),(52,.blk 322 0),(71,.blk 92 0)],rfl,au0,?_,au35⟩;exact ZcE rfl rfl gg (Zct f) (ZcE rfl rfl gg (ZcK (Rn.x1 rfl rfl) ZcJ) (ZcE rfl rfl gg (ZcK (Zcs rfl) ZcJ) (ZcE rfl rfl gg (Zct (SU.Qav (QaD _) rfl)) ZcD)))|true=>
   rw[if_neg (by decide)]at s;refine Zc6 ?_;refine⟨(l,i+1,cs),by dsimp only;omega,⟨⟨p,n,q⟩,by dsimp only;omega,X,L,?_⟩,?_⟩;·dsimp only;rw[show l.length-(i+1)=l.length-i-1 by omega,<-s,H]
   dsimp only;refine⟨[(50,.blk 50 0),(51,.blk 51 0),(52,.blk 323 0),(71,.blk 71 0)],rfl,au0,?_,au35⟩;exact ZcE rfl rfl gg (Zct f) (ZcE rfl rfl gg (ZcK (Rn.x1 rfl rfl) ZcJ) (ZcE rfl rfl gg (ZcK (Zcs rfl) ZcJ) (ZcE rfl rfl gg (Zct q) ZcD)))
 have o:¬(i:Int)<(l.length:Int):=by omega
 rw[QvM d]at H;rw[<-H];refine Zc7 o ?_;refine⟨.inr trivial,_,rfl,?_⟩;refine Rn.QvZ (Qcb _) (QkJ (cs:=cs) gg rfl p n)
theorem covered112(v:List (List UInt8×Int))(A:List (List Int))(t c)(w:v.length<=5)(hin:∀x∈v,0<=x.2/\x.2<=2)(hA:A.length<=1000)(z:t.length=A.length)(hc:c.length=A.length)(k:∀a∈A,a.length=v.length/\∀(j:Nat)x,v[j]?=some x->0<=a.getD j 0/\a.getD j 0<=x.2):Ps 112 [vrsV v,liV A,boV t,boV c] (bxsV (covR (fun a=>grB (okR (rfP A t c A.length)) v a v.length) (ndP A t c A.length))):=by
 have s:=boxes168 v A (ndP A t c A.length) (rfP A t c A.length) w hin (ZaC (Qkx _) hA) (ZaC (Qky _) hA) (fun a d=>k a (Qkv _ (Zar _) a d)) (fun a d=>(k a (Qkw _ (Zar _) a d)).1);refine Zcu 64 (Ok WA.s112) rfl (by simp only[noRefs,noRef,Qaz,QaG,QaT];rfl) (Qcb _) ?_;generalize covR (fun a=>grB (okR (rfP A t c A.length)) v a v.length) (ndP A t c A.length)=R at*;unfold WA.s112;refine Zc6 ?_;refine Qas 100 (fun i:Nat=>[(2,boV t),(3,boV c),(9,.ptr 50 0 0),(15,liV A),(16,.int .i64 A.length),(17,.int .i64 i)]) (fun i=>[(50,.cells 0 [vrsV v,liV A,.sl 71 0 0 (ndP A t c i).length 1,.sl 72 0 0 (rfP A t c i).length 1]),(71,.cells 0 ((ndP A t c i).map sli)),(72,.cells 0 ((rfP A t c i).map sli))]) (fun i=>i<=A.length) (fun i=>A.length-i) 0 0 200 (fun _:Unit=>[(9,.ptr 50 0 0)]) (fun _=>[(50,.cells 0 [vrsV v,liV A,liV (ndP A t c A.length),liV (rfP A t c A.length)])]) (fun _=>True) ?_ (Zaj _) ?_ ?_;·refine⟨[(50,.blk 68 0),(71,.nil),(72,.nil)],rfl,au0,?_,au35⟩;exact ZcE rfl rfl gg (ZcK (Zcs (QaO _)) (ZcK (Zcs (Qcj _)) (ZcK (Rn.x4 rfl rfl) (ZcK (Rn.x4 rfl rfl) ZcJ)))) (ZcF rfl rfl (ZcF rfl rfl ZcD))
 ·rintro i hi;have h1:=@Qkx A t c i;have y:=@Qky A t c i;have h:ndP A t c (i+1)=if(c.getD i false&&t.getD i false)=true then ndP A t c i++[A.getD i []]else ndP A t c i:=rfl;have l:rfP A t c (i+1)=if(c.getD i false&&!t.getD i false)=true then rfP A t c i++[A.getD i []]else rfP A t c i:=rfl;by_cases b:i<A.length
  ·obtain⟨a,d⟩:=Qak b;obtain⟨p,hp⟩:=Qak (l:=t) (i:=i) (by omega);obtain⟨q,m⟩:=Qak (l:=c) (i:=i) (by omega);have g:i<t.length:=by omega
   have f:i<c.length:=by omega
   rw[Qaw d,Qaw hp,Qaw m]at h l;generalize ndP A t c i=ND at*;generalize rfP A t c i=RF at*;have o:(ND.map sli).length=ND.length*1:=by simp
   have n:(RF.map sli).length=RF.length*1:=by simp
   have m1:(ND++[a]).length=ND.length+1:=by simp
   have m2:(RF++[a]).length=RF.length+1:=by simp
   cases q with|false=>refine Zc7 (Zdc b g f (QdX d) (Qev hp) (Qev m)) ?_;refine⟨i+1,by omega,by omega,?_⟩;rw[h,l,if_neg (by simp),if_neg (by simp)];refine⟨[(50,.blk 50 0),(71,.blk 71 0),(72,.blk 72 0)],rfl,au0,?_,au35⟩;exact ZcE rfl rfl gg (ZcK (Zcs (QaO _)) (ZcK (Zcs (Qcj _)) (ZcK (Rn.x1 rfl rfl) (ZcK (Rn.x1 rfl rfl) ZcJ)))) (ZcE rfl rfl gg (Zct (QaG _)) (ZcE rfl rfl gg (Zct (QaG _)) ZcD))|true=>cases p with|false=>refine Zc7 (Zde b g f (QdX d) (Qev hp) (Qev m) o n) ?_;refine⟨i+1,by omega,by omega,?_⟩;rw[h,l,if_neg (by simp),if_pos (by rfl),m2,ZaJ];refine⟨[(50,.blk 50 0),(71,.blk 71 0),(72,.blk 72 1)],rfl,au0,?_,au35⟩;exact ZcE rfl rfl gg (ZcK (Zcs (QaO _)) (ZcK (Zcs (Qcj _)) (ZcK (Rn.x1 rfl rfl) (ZcK (Rn.x1 rfl rfl) ZcJ)))) (ZcE rfl rfl gg (Zct (QaG _)) (ZcE rfl rfl gg (Zct (SU.Qav (QaG _) (QaG [a]))) ZcD))|true=>refine Zc7 (Zde b g f (QdX d) (Qev hp) (Qev m) o n) ?_;refine⟨i+1,by omega,by omega,?_⟩;rw[h,l,if_pos (by rfl),if_neg (by simp),m1,ZaJ];refine⟨[(50,.blk 50 0),(71,.blk 71 1),(72,.blk 72 0)],rfl,au0,?_,au35⟩;exact ZcE rfl rfl gg (ZcK (Zcs (QaO _)) (ZcK (Zcs (Qcj _)) (ZcK (Rn.x1 rfl rfl) (ZcK (Rn.x1 rfl rfl) ZcJ)))) (ZcE rfl rfl gg (Zct (SU.Qav (QaG _) (QaG [a]))) (ZcE rfl rfl gg (Zct (QaG _)) ZcD))
  have u:i=A.length:=by omega
  subst u;clear h l;generalize ndP A t c A.length=ND at*;generalize rfP A t c A.length=RF at*;refine Zc7 b ?_;refine⟨(),?_⟩;refine⟨[(50,.blk 50 0)],rfl,au0,?_,au35⟩;exact ZcE rfl rfl gg (ZcK (Zcs (QaO _)) (ZcK (Zcs (Qcj _)) (ZcK (ZcL (b:=71) (g:=0) gg rfl rfl rfl (by simp) (Zct (QaG _))) (ZcK (ZcL (b:=72) (g:=0) gg rfl rfl rfl (by simp) (Zct (QaG _))) ZcJ)))) ZcD
 rintro _ _;generalize ndP A t c A.length=ND at*;generalize rfP A t c A.length=RF at*;refine Zc6 ?_;refine cp s ?_;refine Zc6 ?_;exact⟨.inr trivial,_,rfl,Zcs (Qcb _)⟩
theorem boxes51(v)(h:VOk v)(t c)(b:t.length=(dom v).length)(hc:c.length=(dom v).length)(hA:(dom v).length<=1000)(d:∀a∈dom v,∀(j:Nat)x,v[j]?=some x->0<=a.getD j 0/\a.getD j 0<=x.2):Ps 51 [vrsV v,boV t,boV c] (.tup [bxsV (covV v t c),.int .i64 0]):=by
 have g:=covered112 v (dom v) t c h.l5 h.hin hA b hc fun a f=>⟨Qdw v.length (Zar _) a (by rw[Zan];exact f),d a f⟩;have i:=all111 v h;rw[Qhv]at g;refine Zcu 64 (Ok WA.s51) rfl (by simp only[noRefs,noRef,Qaz,QaT];rfl) (by simp only[noRef,noRefs,QaD];rfl) ?_;generalize covV v t c=R at*;have l:¬(t.length:Int)≠((dom v).length:Int):=by rw[b];simp
 have k:¬(c.length:Int)≠((dom v).length:Int):=by rw[hc];simp
 generalize dom v=D at*;unfold WA.s51;refine Zc6 ?_;refine cp i ?_;refine Zc7 (Zc8 b hc) ?_;refine cp g ?_;refine Zc6 ?_;exact⟨.inr trivial,_,rfl,Zcs (by simp only[noRef,noRefs,QaD];rfl)⟩
theorem index48G(v:List (List UInt8×Int))(a:List Int)(m:v.length<=5)(hin:∀x∈v,0<=x.2/\x.2<=2)(u:a.length=v.length)(b:∀(j:Nat)x,v[j]?=some x->0<=a.getD j 0/\a.getD j 0<=x.2):Ps 48 [vrsV v,sli a] (.int .i64 (ixQ v a v.length)):=by
 refine Zcv 64 (Ok WA.s48) rfl (by simp only[noRefs,noRef,Qaz,Qaa];rfl) rfl ?_;unfold WA.s48;refine Zc6 ?_;refine QaC 100 (fun i:Nat=>[(1,sli a),(5,.int .i64 (ixQ v a i)),(8,vrsV v),(9,.int .i64 v.length),(10,.int .i64 i)]) (fun _=>[]) (fun i=>i<=v.length) (fun i=>v.length-i) 0 ?_ (Zaj _) ?_;·exact⟨[],rfl,ZcA,ZcD,ZcC (Zcs (Qah _)) (ZcC (Zcs rfl) (ZcC (Zcs (QaO _)) (ZcC (Zcs rfl) (ZcC (Zcs rfl) ZcB))))⟩
 rintro i hi;by_cases c:i<v.length
 ·obtain⟨x,f⟩:=Qak c;obtain⟨y,k⟩:=Qak (l:=a) (i:=i) (by omega);have g:i<a.length:=by omega
  have d:=QcB f;have h:4<=((v.flatMap vrC).drop (i*4)).length:=by rw[d];simp
  have s:=Qeg hin b i hi;have b2:=Qeg hin b (i+1) (by omega);have t:=QbO hin m i;have p:=QbO hin m (i+1);have q:=hin x (Zaa f);have n:=b i x f;have l:ixQ v a (i+1)=ixQ v a i*(x.2+1)+y:=by rw[ixQ,Qaw f,Qaw k]
  rw[Qaw k]at n;rw[l]at b2;generalize ixQ v a i=I at*;refine Zc7 (Zdb c g d h (QaF k)) ?_;refine⟨i+1,by omega,by omega,?_⟩;rw[l];exact⟨[],rfl,ZcA,ZcD,ZcC (Zcs (Qah _)) (ZcC (Zcs rfl) (ZcC (Zcs (QaO _)) (ZcC (Zcs rfl) (ZcC (Zcs rfl) ZcB))))⟩
 have o:i=v.length:=by omega
 subst o;refine Zc7 c ?_;exact⟨.inr trivial,_,rfl,rfl⟩
def ctL(e:Nat->Evt)(n:Nat):List Nat:=(List.range n).filter fun i=>(e i).c
theorem Qqa(e)(n):ctL e (n+1)=ctL e n++if(e n).c then[n]else[]:=by unfold ctL;rw[ZaK,Zbj];cases h:(e n).c<;>simp[h]
theorem Qs9(e)(n):(ctL e n).length<=n:=by have:=Za4 (fun i=>(e i).c) (List.range n);rwa[ZbH]at this
theorem ctl103(x):Ps 103 [evNV x] (.bool x.2.c):=by refine Zcv 64 (Ok WB.s103) rfl rfl rfl ?_;cases h:x.2.c;all_goals unfold WB.s103;refine Zc7 h ?_;exact⟨.inr trivial,_,rfl,rfl⟩
theorem chosenC(e):Ps 109 [evsV e,.fn 103 [] []] (ZN (ctL e 5)):=by
 have k:=Qdu (evl e);rw[Qho];refine Zcu 64 (Ok OE.s109) rfl (by simp only[noRefs,noRef,k];rfl) (Qab _) ?_;unfold OE.s109;refine Zc6 ?_;refine Qas 100 (fun i:Nat=>[(1,.fn 103 [] []),(5,.sl 76 0 0 (ctL e i).length 1),(8,evsN (evl e)),(9,.int .i64 5),(10,.int .i64 i)]) (fun i=>[(76,.cells 0 (ZI (nz (ctL e i))))]) (fun i=>i<=5) (fun i=>5-i) 0 0 160 (fun _:Unit=>[(5,ZN (ctL e 5))]) (fun _=>[]) (fun _=>True) ?_ (Zaj _) ?_ ?_;·refine⟨[(76,.nil)],rfl,au0,?_,au21⟩;exact ZcF rfl rfl ZcD
 ·rintro i hi;have l:=Qs9 e i;by_cases g:i<5
  ·have c:=QiJ (Qsw e g);have d:5<=(((evl e).flatMap evN).drop (i*5)).length:=by rw[c];simp
   have a:=Qqa e i;have b:(i:Int)<5:=by omega
   have f:i<(evl e).length:=by simpa[evl]using g
   have hc:=ctl103 ([UInt8.ofNat (97+i)],e i);cases h:(e i).c;·rw[h]at a;refine Zc7 (Zda b f c d) ?_;refine cp hc ?_;refine Zc7 h ?_;refine⟨i+1,by omega,by omega,?_⟩;rw[a,if_neg (by simp),Zas];refine⟨[(76,.blk 76 0)],rfl,au0,?_,au21⟩;exact ZcE rfl rfl gg (Zct (Qaa _)) ZcD
   rw[h]at a;refine Zc7 (Zda b f c d) ?_;refine cp hc ?_;refine Zc7 h ?_;refine⟨i+1,by omega,by omega,?_⟩;rw[a,if_pos rfl,Zag,QaM,QaB];refine⟨[(76,.blk 76 1)],rfl,au0,?_,au21⟩;exact ZcE rfl rfl gg (Zct (SU.Qav (Qaa _) rfl)) ZcD
  exact b3Dqd
 rintro _ _;refine Zc6 ?_;exact⟨.inr trivial,_,rfl,Zcs (Qab _)⟩
theorem select47C(e:Nat->Evt)(he:∀i,i<5->(e i).Ok):Ps 47 [evsV e,.int .i64 1] (.tup [ZN (ctL e 5),.int .i64 0]):=by
 have a:noRef (evsV e)=true:=by rw[Qho];exact Qdu (evl e)
 refine Zcu 64 (Ok OE.s47) rfl (by simp only[noRefs,a];rfl) (by simp only[noRef,noRefs,Qaa];rfl) ?_;have b:=check82 e he;have hH:=chosenC e;unfold OE.s47;refine Zc6 ?_;refine cp b ?_;refine Zc6 ?_;refine Qbe ?_;refine Zc6 ?_;refine Qbz (f:=fun _=>.any) (l:=[]) (x:=1) (by simp) (by decide) ?_;refine Zc6 ?_;refine Qbe ?_;refine Zc6 ?_;refine Qbz (x:=2) (by simp) (by decide) ?_;refine Zc6 ?_;refine Qbe ?_;refine Zc6 ?_;refine Qbz (x:=3) (by simp) (by decide) ?_;refine Zc6 ?_;refine Qbe ?_;refine Zc6 ?_;refine Qbz (x:=4) (by simp) (by decide) ?_;refine Zc6 ?_;refine Qbe ?_;refine Zc6 ?_;refine Qbz (x:=5) (by simp) (by decide) ?_;refine Zc6 ?_;refine Qbe ?_;refine Zc6 ?_;refine Qbz (x:=6) (by simp) (by decide) ?_;refine Zc6 ?_;refine Qci ?_;refine Zc6 ?_;refine wK_in (x:=1) (by simp) ?_;have hu:updF (updF (updF (updF (updF (updF (fun _=>.any) 1 (.fn 103 [] [])) 2 (.fn 104 [] [])) 3 (.fn 105 [] [])) 4 (.fn 106 [] [])) 5 (.fn 107 [] [])) 6 (.fn 108 [] []) 1=.fn 103 [] []:=rfl;exact bVayR
end Go.AM.SO
namespace Go.AM.SO
open Go.Proofs Go.AM.SD Go.AM.SE
variable{q:Aut}{x:Bool}{c:Cel}{g:Gdn}{v:List (List UInt8×Int)}{bs:List Bxn}{l:List Gdn}{i k:Nat}{left:Nat->Bool}{G:Nat->List Bxn}{pm:Nat->Nat->Bool}
theorem QkK{ct:Nat->Bool}{e:Nat->Evt}(h:∀i,ct i=(e i).c):∀n,expQ ct G n=(ctL e n).map fun i=>⟨(i:Int),G i⟩|0=>rfl|n+1=>by rw[expQ,QkK h n,Qqa,h];cases hc:(e n).c<;>simp
theorem Qw6{e}{n x}(h:x∈ctL e n):x<n/\(e x).c=true:=by unfold ctL at h;obtain⟨h1,a⟩:=ZaZ.1 h;exact⟨Zau.1 h1,a⟩
abbrev rsCl(R:Res):List AV:=[ZN R.kept,sli R.dist,rms R.rem,.int .i64 (R.rounds:Int),ZN R.sup.al,.int .i64 (R.sup.n:Int),ZN R.sup.ms,egsN R.sup.es,ZN R.orig]
def gdF(c:Cel)(i:Nat):Gdn:=⟨(i:Int),bxC' c i⟩
theorem guards13N(c)(h:WfCel c)(a:(resC c).sup.n=0):Ps 13 [celV c] (.tup [.nilsl,.int .i64 21]):=by
 have d:=first44 c h;have b:=cell22 c h;have f:=Qbh c;rw[spC,spG]at b;refine Zcv 64 (Ok WA.s13) rfl (by rw[noRefs,SU.QaY];rfl) rfl ?_;have a:((resC c).sup.n:Int)=0:=by omega
 generalize resC c=R at*;unfold WA.s13;refine Zc4 ?_;refine cp d ?_;refine Zc4 ?_;refine cp b ?_;refine Zc5 a ?_;exact⟨.inr trivial,_,rfl,rfl⟩
theorem guards13(c)(h:WfCel c)(hs:(resC c).sup.n≠0):Ps 13 [celV c] (.tup [gdsV (expC c),.int .i64 0]):=by
 have hF:=first44 c h;have hC:=cell22 c h;have hP:=plant17 c h;have Q:=Qbh c;have hwq:=wB_c h;have V:=wP_c h;have M:WfA (resC c).sup:=QeT hwq.toWfA;have hE1:=edges46 (Pc c) V.toWfA (by have:=V.el;omega);have hE2:=edges46 (resC c).sup M (by have:=WfA.el1 M;omega);have hS:=select47C c.ev h.ev;have hv:=vok_c h;have Z:=hv.l5;have hin:=hv.hin;have hD:=dom_c h;have A:=QfB hin (ZV c).length (Zar _);rw[Zan]at A;have hol:=Qui h;have hbx:=fun(t cc:List Bool)h1 h2=>boxes51 (ZV c) hv t cc h1 h2 (by omega) QkC;have hIx:∀o∈(resC c).orig,Ps 48 [vrsV (ZV c),sli (tC c o)] (.int .i64 (ixQ (ZV c) (tC c o) (ZV c).length)):=fun o ho=>by obtain⟨l1,r1,t,hT,e1⟩:=tpl_c h (Qd0 h ho);exact index48G (ZV c) (tC c o) Z hin l1 r1
 have hh1:=fun s e=>has50 (Pc c) s e;have hh2:=fun s e=>has50 (resC c).sup s e;have g:=Qbv (Pc c);have l:=Qbv (resC c).sup;have hW:=fun(o:Nat)(ho:o∈(resC c).orig)=>wld_c h o (Qd0 h ho);have u:=fun ev i hi=>Qoe h ev i hi;have O:=fun(o:Nat)(ho:o∈(resC c).orig)=>Qeg hin (tpl_c h (Qd0 h ho)).2.1 (ZV c).length (Zar _);have U:expC c=(ctL c.ev 5).map (gdF c):=QkK (fun i=>rfl) 5;have J:∀x∈ctL c.ev 5,x<5:=fun x R=>(Qw6 R).1;have hcl:(ctL c.ev 5).length<=5:=Qs9 _ _;have hc0:=h.c0;rw[spC,spG]at hC;refine Zcu 64 (Ok WA.s13) rfl (by rw[noRefs,SU.QaY];rfl) (by simp only[noRef,noRefs,QaP];rfl) ?_;rw[U];have n1:¬((resC c).sup.n:Int)=0:=by omega
 have a:noRefs (rsCl (resC c))=true:=by have:=Qfb (resC c);rwa[noRef]at this
 have H:noRefs [ZN (Pc c).al,.int .i64 ((Pc c).n:Int),ZN (Pc c).ms,egsN (Pc c).es]=true:=by simp only[noRefs,noRef,Qaa,Qag];rfl
 generalize hLe:ctL c.ev 5=L at*;unfold WA.s13;refine Zc4 ?_;refine cp hF ?_;refine Zc4 ?_;refine cp hC ?_;refine Zc5 n1 ?_;refine cp hP ?_;have hvl:∀i:Nat,i<=(ZV c).length->0<=szV 1 ((ZV c).take i)/\szV 1 ((ZV c).take i)<=243:=fun i hi=>by have:=QbO hin Z i;omega
 have I:szV 1 ((ZV c).take (ZV c).length)=szV 1 (ZV c):=by rw[Zan]
 have hsz:szV 1 (ZV c)=((dom (ZV c)).length:Int):=A.symm;refine Zc4 ?_;refine QaC 120 (fun i:Nat=>[(1,.ptr 50 0 0),(4,vrsV (ZV c)),(6,.ptr 51 0 0),(7,.ptr 52 0 0),(8,.ptr 53 0 0),(10,.int .i64 (szV 1 ((ZV c).take i))),(57,vrsV (ZV c)),(58,.int .i64 (ZV c).length),(59,.int .i64 i)]) (fun _=>[(50,.cells 0 (ceCl c)),(51,.cells 0 (spCl (Qc c) (Ac c) (Bc c) (PPc c) (Fc c))),(52,.cells 0 (rsCl (resC c))),(53,.cells 0 [ZN (Pc c).al,.int .i64 ((Pc c).n:Int),ZN (Pc c).ms,egsN (Pc c).es])]) (fun i=>i<=(ZV c).length) (fun i=>(ZV c).length-i) 0 ?_ (Zaj _) ?_;·refine⟨[(50,.blk 64 0),(51,.blk 82 0),(52,.blk 83 0),(53,.blk 99 0)],rfl,au0,?_,au35⟩;exact ZcE rfl rfl gg (Zct Q) (ZcE rfl rfl gg (Zct Qbd) (ZcE rfl rfl gg (Zct a) (ZcE rfl rfl gg (Zct H) ZcD)))
 rintro i hi;by_cases v:i<(ZV c).length
 ·obtain⟨x,R⟩:=Qak v;have C:=QcB R;have P:4<=(((ZV c).flatMap vrC).drop (i*4)).length:=by rw[C];simp
  have x2:=hin x (Zaa R);have b1:=QbO hin Z i;have b2:=QbO hin Z (i+1);have es:=QdW R;rw[es]at b2;generalize szV 1 ((ZV c).take i)=S at*;refine Zc5 (Zc9 v C P) ?_;refine⟨i+1,by omega,by omega,?_⟩;rw[es];refine⟨[(50,.blk 50 0),(51,.blk 51 0),(52,.blk 52 0),(53,.blk 53 0)],rfl,au0,?_,au35⟩;exact ZcE rfl rfl gg (Zct Q) (ZcE rfl rfl gg (Zct Qbd) (ZcE rfl rfl gg (Zct a) (ZcE rfl rfl gg (Zct H) ZcD)))
 have ei:i=(ZV c).length:=by omega
 subst ei;rw[Zan,hsz];refine Zc5 v ?_;refine cp hE1 ?_;refine Zc4 ?_;refine cp hE2 ?_;refine Zc4 ?_;refine cp hS ?_;refine Zc4 ?_;generalize emV (Pc c)=M1 at*;generalize emV (resC c).sup=M2 at*;refine Qas 200 (fun k:Nat=>[(4,vrsV (ZV c)),(6,.ptr 51 0 0),(7,.ptr 52 0 0),(10,.int .i64 ((dom (ZV c)).length:Int)),(13,M1),(14,M2),(17,.sl 71 0 0 k 2),(80,ZN L),(81,.int .i64 L.length),(82,.int .i64 k)]) (fun k=>[(51,.cells 0 (spCl (Qc c) (Ac c) (Bc c) (PPc c) (Fc c))),(52,.cells 0 (rsCl (resC c))),(71,.cells 0 (((L.take k).map (gdF c)).flatMap gdC))]) (fun k=>k<=L.length) (fun k=>L.length-k) 0 2 300 (fun _:Unit=>[(17,gdsV (L.map (gdF c)))]) (fun _=>[]) (fun _=>True) ?_ (Zaj _) ?_ ?_;·refine⟨[(51,.blk 51 0),(52,.blk 52 0),(71,.nil)],rfl,au0,ZcE rfl rfl gg (Zct Qbd) (ZcE rfl rfl gg (Zct a) (ZcF rfl rfl ZcD)),ZcC (Zcs (QaO _)) (ZcC (Rn.x2 rfl rfl) (ZcC (Rn.x2 rfl rfl) (ZcC (Zcs rfl) (ZcC (Zcs g) (ZcC (Zcs l) (ZcC (Rn.x4 rfl rfl) (ZcC (Zcs (Qab _)) (ZcC (Zcs rfl) (ZcC (Zcs rfl) ZcB)))))))))⟩
 ·rintro k hk;by_cases w:k<L.length
  ·obtain⟨ev,m⟩:=Qak w;have hev5:=J ev (Zaa m);have hXl:(((L.take k).map (gdF c)).flatMap gdC).length=k*2:=by rw[Qjs,Zax,Zap];omega
   have hXs:((L.take (k+1)).map (gdF c))=((L.take k).map (gdF c))++[⟨(ev:Int),bxC' c ev⟩]:=by rw[take_succ' m,ZaJ];rfl
   have hGe:covV (ZV c) (tcC c ev).1 (tcC c ev).2=bxC' c ev:=rfl;generalize((L.take k).map (gdF c))=X at*;have hD2:((dom (ZV c)).length:Int)<=140737488355328/\((dom (ZV c)).length:Int)<=140737488355328:=by omega
   have hD0:((dom (ZV c)).length:Int)<=140737488355328:=by omega
   refine Zc7 (Zde w (QaI m) hD2 hD0 @bo_fl @Qac @Qad @Qae) ?_;refine Qas 400 (fun i:Nat=>[(4,vrsV (ZV c)),(6,.ptr 51 0 0),(7,.ptr 52 0 0),(10,.int .i64 ((dom (ZV c)).length:Int)),(13,M1),(14,M2),(17,.sl 71 0 0 k 2),(80,ZN L),(81,.int .i64 L.length),(82,.int .i64 k),(19,.int .i64 ev),(20,.sl 81 0 0 (dom (ZV c)).length 1),(21,.sl 82 0 0 (dom (ZV c)).length 1),(91,ZN (resC c).orig),(92,.int .i64 (resC c).orig.length),(93,.int .i64 i)]) (fun i=>[(51,.cells 0 (spCl (Qc c) (Ac c) (Bc c) (PPc c) (Fc c))),(52,.cells 0 (rsCl (resC c))),(71,.cells 0 (X.flatMap gdC)),(81,.cells 0 ((tcQ (ZV c) (Ac c) (Bc c) (PPc c) (Pc c).es (resC c).sup.es (resC c).orig ev i).1.map AV.bool)),(82,.cells 0 ((tcQ (ZV c) (Ac c) (Bc c) (PPc c) (Pc c).es (resC c).sup.es (resC c).orig ev i).2.map AV.bool))]) (fun i=>i<=(resC c).orig.length) (fun i=>(resC c).orig.length-i) 0 4 600 (fun _:Unit=>[(4,vrsV (ZV c)),(6,.ptr 51 0 0),(7,.ptr 52 0 0),(10,.int .i64 ((dom (ZV c)).length:Int)),(13,M1),(14,M2),(17,.sl 71 0 0 k 2),(80,ZN L),(81,.int .i64 L.length),(82,.int .i64 k),(19,.int .i64 ev),(20,boV (tcC c ev).1),(21,boV (tcC c ev).2)]) (fun _=>[(51,.cells 0 (spCl (Qc c) (Ac c) (Bc c) (PPc c) (Fc c))),(52,.cells 0 (rsCl (resC c))),(71,.cells 0 (X.flatMap gdC))]) (fun _=>True) ?_ (Zaj _) ?_ ?_;·exact⟨[(51,.blk 51 0),(52,.blk 52 0),(71,.blk 71 0),(81,.blk 205 0),(82,.blk 207 0)],rfl,au0,ZcE rfl rfl gg (Zct Qbd) (ZcE rfl rfl gg (Zct a) (ZcE rfl rfl gg (Zct (QaP _)) (ZcE rfl rfl gg (Zct (QaT _)) (ZcE rfl rfl gg (Zct (QaT _)) ZcD)))),ZcC (Zcs (QaO _)) (ZcC (Rn.x2 rfl rfl) (ZcC (Rn.x2 rfl rfl) (ZcC (Zcs rfl) (ZcC (Zcs g) (ZcC (Zcs l) (ZcC (Rn.x1 rfl rfl) (ZcC (Zcs (Qab _)) (ZcC (Zcs rfl) (ZcC (Zcs rfl) (ZcC (Zcs rfl) (ZcC (Rn.x1 rfl rfl) (ZcC (Rn.x1 rfl rfl) (ZcC (Zcs (Qab _)) (ZcC (Zcs rfl) (ZcC (Zcs rfl) ZcB)))))))))))))))⟩
   ·rintro i hi;obtain⟨d,b⟩:=@QfG (ZV c) (Ac c) (Bc c) (PPc c) (Pc c).es (resC c).sup.es (resC c).orig ev i;by_cases Y:i<(resC c).orig.length
    ·obtain⟨o,ho⟩:=Qak Y;have q:=Zaa ho;have hho:=QaI ho;obtain⟨t,y,hT,hA,hB,p,htl,hk3,htp⟩:=hW o q;have B:=@tuple49 (Qc c) (Ac c) (Bc c) (PPc c) (Fc c) o _ _ hA hB (by rw[Zap];omega) (by rw[Zap];omega) (by rw[ZaR];omega);rw[Za9]at B;have G:=hIx o q;have f:=O o q;rw[I,<-A]at f;have z:tC c o=nz t:=htp;rw[z,QbE]at G;rw[z]at f;have n:=u ev i Y;dsimp only at n;rw[Qaw ho,Qaw p,z]at n;have hlP:=(Zaf.1 p).1;have q1:=hh1 y ev;have q2:=hh2 i ev;generalize ixQ (ZV c) (nz t) (ZV c).length=K at*;generalize tcQ (ZV c) (Ac c) (Bc c) (PPc c) (Pc c).es (resC c).sup.es (resC c).orig ev i=S at*;generalize decide (0<=stepI (Pc c).es y ev)=c1 at*;generalize decide (0<=stepI (resC c).sup.es i ev)=c2 at*;have N:K.toNat+1<=(dom (ZV c)).length:=by omega
     have E:0<=K/\K<((dom (ZV c)).length:Int):=f;have F:(S.1.map AV.bool).length=(dom (ZV c)).length:=by rw[Zax];exact d
     have T:(S.2.map AV.bool).length=(dom (ZV c)).length:=by rw[Zax];exact b
     refine Zc5 (Zc8 Y hho) ?_;refine cp B ?_;refine Zc4 ?_;refine cp G ?_;refine Zc5 (QaI p) ?_;refine cp q1 ?_;refine Zc5 (Zdc N E f.1 F T @Qst) ?_;refine cp q2 ?_;refine Zc5 (Zdc N E f.1 F T @Qst) ?_;refine⟨i+1,by omega,by omega,?_⟩;rw[n];exact⟨[(51,.blk 51 0),(52,.blk 52 0),(71,.blk 71 0),(81,.blk 81 0),(82,.blk 82 0)],rfl,au0,ZcE rfl rfl gg (Zct Qbd) (ZcE rfl rfl gg (Zct a) (ZcE rfl rfl gg (Zct (QaP _)) (ZcE rfl rfl gg (Zct (QaT _)) (ZcE rfl rfl gg (Zct (QaT _)) ZcD)))),ZcC (Zcs (QaO _)) (ZcC (Rn.x2 rfl rfl) (ZcC (Rn.x2 rfl rfl) (ZcC (Zcs rfl) (ZcC (Zcs g) (ZcC (Zcs l) (ZcC (Rn.x1 rfl rfl) (ZcC (Zcs (Qab _)) (ZcC (Zcs rfl) (ZcC (Zcs rfl) (ZcC (Zcs rfl) (ZcC (Rn.x1 rfl rfl) (ZcC (Rn.x1 rfl rfl) (ZcC (Zcs (Qab _)) (ZcC (Zcs rfl) (ZcC (Zcs rfl) ZcB)))))))))))))))⟩
    have ei:i=(resC c).orig.length:=by omega
    subst ei;refine Zc5 Y ?_;have hTe:tcQ (ZV c) (Ac c) (Bc c) (PPc c) (Pc c).es (resC c).sup.es (resC c).orig ev (resC c).orig.length=tcC c ev:=rfl;rw[hTe]at d b⊢;generalize tcC c ev=S at*;refine⟨(),?_⟩;exact⟨[(51,.blk 51 0),(52,.blk 52 0),(71,.blk 71 0)],rfl,ZcA,ZcE rfl rfl gg (Zct Qbd) (ZcE rfl rfl gg (Zct a) (ZcE rfl rfl gg (Zct (QaP _)) ZcD)),ZcC (Zcs (QaO _)) (ZcC (Rn.x2 rfl rfl) (ZcC (Rn.x2 rfl rfl) (ZcC (Zcs rfl) (ZcC (Zcs g) (ZcC (Zcs l) (ZcC (Rn.x1 rfl rfl) (ZcC (Zcs (Qab _)) (ZcC (Zcs rfl) (ZcC (Zcs rfl) (ZcC (Zcs rfl) (ZcC (ZcL (b:=81) (g:=0) gg rfl rfl d (by simp[d]) (Zct (QaT _))) (ZcC (ZcL (b:=82) (g:=0) gg rfl rfl b (by simp[b]) (Zct (QaT _))) ZcB))))))))))))⟩
   rintro _ _;obtain⟨d,b⟩:=@QfG (ZV c) (Ac c) (Bc c) (PPc c) (Pc c).es (resC c).sup.es (resC c).orig ev (resC c).orig.length;have hb:=hbx (tcC c ev).1 (tcC c ev).2 d b;rw[hGe]at hb;generalize tcC c ev=S at*;refine Zc4 ?_;refine cp hb ?_;refine Zc5 hXl ?_;refine⟨k+1,by omega,by omega,?_⟩;rw[hXs,Zao];exact⟨[(51,.blk 51 0),(52,.blk 52 0),(71,.blk 71 1)],rfl,au0,ZcE rfl rfl gg (Zct Qbd) (ZcE rfl rfl gg (Zct a) (ZcE rfl rfl gg (Zct (SU.Qav (QaP _) (QaP [gdF c ev]))) ZcD)),ZcC (Zcs (QaO _)) (ZcC (Rn.x2 rfl rfl) (ZcC (Rn.x2 rfl rfl) (ZcC (Zcs rfl) (ZcC (Zcs g) (ZcC (Zcs l) (ZcC (Rn.x1 rfl rfl) (ZcC (Zcs (Qab _)) (ZcC (Zcs rfl) (ZcC (Zcs rfl) ZcB)))))))))⟩
  have ek:k=L.length:=by omega
  subst ek;refine Zc1 w ?_;exact⟨(),[],rfl,ZcA,ZcD,ZcC (ZcL (b:=71) (g:=0) gg rfl rfl (by simp) (by rw[Qjs,Zax]) (Zct (QaP _))) ZcB⟩
 rintro _ _;refine Zc4 ?_;exact⟨.inr trivial,_,rfl,Zcs (by simp only[noRef,noRefs,QaP];rfl)⟩
def lfC(c:Cel):Nat->Bool:=lf (fin (Qc c).n (Qc c).es (Qc c).ms (fbd c) (uncL c.ev 5) true).1
theorem sup_c(c):(resC c).sup=ZR (Qc c) (lfC c):=rfl
theorem or_lt(h:WfCel c){j}(b:j<(resC c).orig.length):(resC c).orig.getD j 0<(Qc c).n:=by obtain⟨x,a⟩:=Qak b;rw[Qaw a];exact Qd0 h (Zaa a)
def kC(c:Cel)(i:Nat):Nat:=(ixQ (ZV c) (tC c ((resC c).orig.getD i 0)) (ZV c).length).toNat
theorem kC_at(h:WfCel c)(hi:i<(resC c).orig.length):(dom (ZV c))[kC c i]?=some (tC c ((resC c).orig.getD i 0)):=by obtain⟨a,b,_⟩:=tpl_c h (or_lt h hi);exact Qw3 (QbW h) a b
theorem Qw7(h:WfCel c){j}(hi:i<(resC c).orig.length)(a:j<(resC c).orig.length)(he:kC c i=kC c j):i=j:=by obtain⟨n,g,_⟩:=tpl_c h (or_lt h hi);obtain⟨l,k,_⟩:=tpl_c h (or_lt h a);have m:=Qeg (QbW h) g _ (Zar _);have b2:=Qeg (QbW h) k _ (Zar _);unfold kC at he;have h1:=Qp2 h (or_lt h hi) (or_lt h a) (by omega);obtain⟨x,f⟩:=Qak hi;obtain⟨y,d⟩:=Qak a;rw[Qaw f,Qaw d]at h1;subst h1;have b:(resC c).orig.Nodup:=(QbM (left:=lfC c) (wB_c h).toWfA).1.fi.nd;exact(List.getElem?_inj hi b).1 (f.trans d.symm)
theorem Qhd{l:List Bool}{j}:(l.set i x).getD j false=if i=j/\j<l.length then x else l.getD j false:=by
 by_cases h:i=j
 ·exact bXFH3
 rw[if_neg (fun e=>h e.1),Qgf h]
abbrev tcN(c:Cel)(ev n:Nat):List Bool×List Bool:=tcQ (ZV c) (Ac c) (Bc c) (PPc c) (Pc c).es (resC c).sup.es (resC c).orig ev n
abbrev doC(c:Cel)(i ev:Nat):Bool:=decide (0<=stepI (resC c).sup.es i ev)
abbrev cnC(c:Cel)(i ev:Nat):Bool:=decide (0<=stepI (Pc c).es ((PPc c).getD ((resC c).orig.getD i 0) 0) ev)
theorem Qta(h:WfCel c)(ev n)(a:n<(resC c).orig.length):tcN c ev (n+1)=((tcN c ev n).1.set (kC c n) (doC c n ev),(tcN c ev n).2.set (kC c n) (cnC c n ev)):=Qoe h ev n a
theorem kC_lt(h:WfCel c)(hi:i<(resC c).orig.length):kC c i<(dom (ZV c)).length:=(Zaf.1 (kC_at h hi)).1
theorem Qom(h:WfCel c){ev}:∀n,n<=(resC c).orig.length->∀i,i<n->(tcN c ev n).1.getD (kC c i) false=doC c i ev/\(tcN c ev n).2.getD (kC c i) false=cnC c i ev
 |0,_,i,hi=>absurd hi (Zay _)|n+1,g,i,hi=>by
  have f:=Qom h (ev:=ev) n (by omega);obtain⟨d,b⟩:=@QfG (ZV c) (Ac c) (Bc c) (PPc c) (Pc c).es (resC c).sup.es (resC c).orig ev n;have hk:=kC_lt h (show i<(resC c).orig.length by omega);rw[Qta h ev n (by omega)];dsimp only;rw[Qhd,Qhd];by_cases e:i=n;·subst e;rw[if_pos ⟨rfl,by rw[d];exact hk⟩,if_pos ⟨rfl,by rw[b];exact hk⟩];exact⟨rfl,rfl⟩
  have a:¬kC c n=kC c i:=fun he=>e (Qw7 h (by omega) (by omega) he).symm;rw[if_neg fun x=>a x.1,if_neg fun x=>a x.1];exact f i (by omega)
theorem Qqb(h:WfCel c){ev K}:∀n,n<=(resC c).orig.length->(tcN c ev n).1.getD K false=true->∃i,i<n/\kC c i=K/\doC c i ev=true
 |0,_,a=>by have:(List.replicate (dom (ZV c)).length false).getD K false=true:=a;rw[Zah,List.getElem?_replicate]at this;split at this<;>cases this|n+1,b,a=>by
  rw[Qta h ev n (by omega)]at a;dsimp only at a;rw[Qhd]at a;split at a;·rename_i e;exact⟨n,by omega,e.1,a⟩
  obtain⟨i,hi,h1⟩:=Qqb h n (by omega) a;exact⟨i,by omega,h1⟩
theorem Qhe(h:WfCel c){v ev}(f:(resC c).orig[i]?=some v):doC c i ev=true↔∃to,ZA (Qc c).es v ev=some to/\lfC c to=true:=by have b:=Qif (left:=lfC c) (wB_c h).toWfA f ev;have b:ZA (resC c).sup.es i ev=_:=b;rw[decide_eq_true_eq];unfold stepI;rw[b];cases g:ZA (Qc c).es v ev with
 |none=>
  constructor;·intro h;have h:(0:Int)<=-1:=h;exact absurd h (by decide)
  rintro⟨_,h,_⟩;cases h|some to=>cases a:lfC c to with|true=>exact⟨fun _=>⟨to,rfl,a⟩,fun _=>by rw[Option.bind_some,if_pos a];exact ZaV _⟩|false=>
   constructor;·intro h;rw[Option.bind_some,if_neg (by rw[a];decide)]at h;exact absurd h (by decide)
   rintro⟨t,h,d⟩;cases h;rw[a]at d;cases d
theorem do_cn(h:WfCel c){v ev}(a:(resC c).orig[i]?=some v)(b:doC c i ev=true):cnC c i ev=true:=by obtain⟨to,d,_⟩:=(Qhe h a).1 b;refine decide_eq_true ?_;rw[Qaw a];refine Qge h (Qd0 h (Zaa a)) ?_;unfold stepI;rw[d];exact ZaV _
theorem QvN(h:WfCel c){v ev}(a:(resC c).orig[i]?=some v)(b:doC c i ev=true):inBs (bxC' c ev) (tC c v)=true:=by have hi:=(Zaf.1 a).1;have hk:=kC_at h hi;rw[Qaw a]at hk;obtain⟨h1,d⟩:=Qom h (ev:=ev) _ (Zar _) i hi;exact Quj (QbW h) hk (d.trans (do_cn h a b)) (h1.trans b)
theorem Qon(h:WfCel c){v ev}(a:(resC c).orig[i]?=some v)(d:doC c i ev=false)(hc:cnC c i ev=true):inBs (bxC' c ev) (tC c v)=false:=by have hi:=(Zaf.1 a).1;have hk:=kC_at h hi;rw[Qaw a]at hk;obtain⟨h1,b⟩:=Qom h (ev:=ev) _ (Zar _) i hi;exact QvJ (QbW h) hk (b.trans hc) (h1.trans d)
theorem QvO{ev}(a:ev<5)(hc:ctC c ev=true):gdF c ev∈expC c:=by have:expC c=(ctL c.ev 5).map (gdF c):=QkK (fun i=>rfl) 5;rw[this];exact List.mem_map_of_mem (ZaZ.2 ⟨Zau.2 a,hc⟩)
theorem Qtb(a:l.Pairwise fun y z=>y.ev<z.ev){ev:Nat}(hc:ctC c ev=true)(b:g∈l)(he:g.ev=(ev:Int))(v:Nat):pmC c l v ev=inBs g.bs (tC c v):=by show(!ctC c ev||l.any fun g=>decide (g.ev=(ev:Int))&&inBs g.bs (tC c v))=_;rw[hc];exact QvE a b he
theorem left0(hp:0<(sAll q left).1.length):left 0=true:=by cases a:left 0 with|true=>rfl|false=>
 exfalso;have b:sAll q left=([],[]):=by unfold sAll;rw[a,Bool.and_false];show sQ q.es left (q.n+1) 0 ([],[])=_;unfold sQ;rfl
 rw[b]at hp;exact absurd hp (by decide)
theorem Quk{v}(h:∀e∈q.es,e.1=v->pm v e.2.1=left e.2.2):ZO (flt q pm).es tru v=ZO q.es left v:=by
 unfold ZO flt;dsimp only;rw[List.filter_filter];refine ZbA fun e he=>?_;by_cases a:e.1=v;·have :=h e he a;rw[a,this];cases left e.2.2<;>simp[tru]
 have :(e.1==v)=false:=by simpa using a
 rw[this];simp
theorem Qoo(h:WfCel c)(x:(resC c).sup.n≠0):sAll (Lc c (expC c)) tru=sAll (Qc c) (lfC c):=by
 have f:=wB_c h;have l:=QjY h;obtain⟨w,_⟩:=QbM (left:=lfC c) f.toWfA;have d:∀(j:Nat)v,(sAll (Qc c) (lfC c)).1[j]?=some v->ZO (Lc c (expC c)).es tru v=ZO (Qc c).es (lfC c) v:=by intro j v g;refine Quk fun e he i=>?_;have a:=Qc8 f.es he;rw[i]at a;have o:e.2.1<5:=f.a5 _ (f.ev e he);cases hc:ctC c e.2.1 with
  |true=>rw[Qtb l.inc hc (QvO o hc) rfl];cases s:lfC c e.2.2 with|true=>exact QvN h g ((Qhe h g).2 ⟨_,a,s⟩)|false=>
   have m:doC c j e.2.1=false:=by cases m:doC c j e.2.1 with|false=>rfl|true=>obtain⟨to,h1,q⟩:=(Qhe h g).1 m;rw[a]at h1;cases h1;rw[s]at q;cases q
   refine Qon h g m (decide_eq_true ?_);have k:(resC c).orig[j]?=some v:=g;rw[Qaw k];refine Qge h (Qd0 h (Zaa g)) ?_;unfold stepI;rw[a];exact ZaV _
  |false=>
   have n:pmC c (expC c) v e.2.1=true:=by show(!ctC c e.2.1||_)=true;rw[hc];rfl
   rw[n];have u:=QuG (forb:=fbd c) (unc:=uncL c.ev 5) f.inN f.nd f.srt;exact(u.ctl e he (by rw[i];exact w.lft v (Zaa g)) (ZaZ.2 ⟨Zau.2 o,by show(!ctC c e.2.1)=true;rw[hc];rfl⟩)).symm
 have hi:lfC c 0=true:=left0 (Nat.pos_of_ne_zero x);have t:sAll (Lc c (expC c)) tru=sQ (Lc c (expC c)).es tru ((Qc c).n+1) 0 (if(decide (0<(Qc c).n)&&true)=true then[0]else[],[]):=rfl;have p:sAll (Qc c) (lfC c)=sQ (Qc c).es (lfC c) ((Qc c).n+1) 0 (if(decide (0<(Qc c).n)&&true)=true then[0]else[],[]):=by unfold sAll;rw[hi]
 rw[p]at d;rw[t,p];exact QkB ((Qc c).n+1) 0 _ fun j v _ _ b=>d j v b
theorem Qmb(h:WfCel c)(a:(resC c).sup.n≠0):ZR (Lc c (expC c)) tru=(resC c).sup:=by rw[sup_c];unfold ZR;rw[Qoo h a];rfl
theorem QvP(h:WfCel c)(d:(resC c).sup.n≠0):verZ c (expC c)=0:=by
 have n:=QjY h;unfold verZ;rw[if_neg d,Qmb h d,QgY,if_pos rfl,Qoo h d,if_neg];intro a;obtain⟨x,m,a⟩:=Za8.1 a;obtain⟨g,l,a⟩:=Za8.1 a;obtain⟨j,o,rfl⟩:=ZaO m;have f:(resC c).orig[j]?=some ((sAll (Qc c) (lfC c)).1[j]):=Zak o;generalize(sAll (Qc c) (lfC c)).1[j]=v at*;have a:bdQ (Pc c).es (Qc c).es (PPc c) (tC c) v g=true:=a;unfold bdQ at a;simp only[Zac,decide_eq_true_eq,Zbh,decide_eq_false_iff_not]at a;obtain⟨p,b2,b⟩:=a;obtain⟨k,hk,hc,rfl⟩:=(@QjX (ctC c) (bxC' c) 5).2 g l;have i:doC c j k=false:=by cases i:doC c j k with|false=>rfl|true=>obtain⟨to,h1,_⟩:=(Qhe h f).1 i;exfalso;refine b2 ?_;show 0<=stepI (Qc c).es v k;unfold stepI;rw[h1];exact ZaV _
 have:=Qon h f i (decide_eq_true (by rw[Qaw f];exact p));have b:inBs (bxC' c k) (tC c v)=true:=b;rw[this]at b;cases b
theorem GOk.set{ct}(h:GOk ct v l)(hk:l[k]?=some g)(p:∀b∈bs,b∈g.bs)(o:bs.length<=1000):GOk ct v (l.set k ⟨g.ev,bs⟩):=by
 have t:=(Zaf.1 hk).1;have s:=(Zaf.1 hk).2;have d:=Zaa hk;have hm:∀x∈l.set k ⟨g.ev,bs⟩,x∈l\/x=⟨g.ev,bs⟩:=fun x a=>List.mem_or_eq_of_mem_set a;refine⟨?_,fun x a=>?_,fun x a=>?_,fun x a b c=>?_⟩
 ·rw[Za0];intro i j hi u n;have f:∀(q:Nat)(m:q<(l.set k ⟨g.ev,bs⟩).length),((l.set k ⟨g.ev,bs⟩)[q]).ev=(l[q]'(by rw[ZbD]at m;exact m)).ev:=fun q m=>by
   rw[List.getElem_set];split;·rename_i e;subst e;rw[s]
   rfl
  rw[f,f];exact Za0.1 h.inc i j _ _ n
 ·rcases hm x a with h1|rfl;·exact h.ev x h1
  exact h.ev g d
 ·rcases hm x a with h1|rfl;·exact h.bl x h1
  exact o
 rcases hm x a with h1|rfl;·exact h.bx x h1 b c
 exact h.bx g d b (p b c)
theorem QvQ(g:WfA q)(m:(sAll (flt q pm) tru).1.length=(sAll q left).1.length)(he:(sAll (flt q pm) tru).2=(sAll q left).2)(j v:Nat)(a:(sAll (flt q pm) tru).1[j]?=some v)(b:(sAll q left).1[j]?=some v):ZO (flt q pm).es tru v=ZO q.es left v:=by have hf:WfA (flt q pm):=QjU g;obtain⟨h1,_⟩:=QbM (left:=tru) hf;obtain⟨l,_⟩:=QbM (left:=left) g;have d:∀x∈(flt q pm).es,x∈q.es:=fun x c=>(ZaZ.1 c).1;have k:=(Zaf.1 b).1;have f:=congrArg (List.filter fun e:Ed=>e.1==j) h1.ed;have h:=congrArg (List.filter fun e:Ed=>e.1==j) l.ed;rw[QiS (fun j e he=>by obtain⟨x,_,rfl⟩:=Zaq.1 he;rfl) j]at f h;rw[if_pos (by omega),Qaw a]at f;rw[if_pos k,Qaw b]at h;rw[he,h]at f;have i:=congrArg (List.map fun e:Ed=>e.2.1) f;rw[Zci,Zci]at i;exact(Qoa g.es (v:=v) (fun x c=>⟨(QaV.1 c).1,(QaV.1 c).2.1⟩) (fun x c=>⟨d x (QaV.1 c).1,(QaV.1 c).2.1⟩) i).symm
theorem Qul(h:WfCel c)(G:(resC c).sup.n≠0)(hk:(expC c)[k]?=some g)(hi:i<g.bs.length):verZ c ((expC c).set k ⟨g.ev,g.bs.eraseIdx i⟩)=24:=by
 have u:=QjY h;have s:=Zaa hk;have w:=u.set hk (bs:=g.bs.eraseIdx i) (fun b z=>List.mem_of_mem_eraseIdx z) (by have:=u.bl g s;have:=List.length_eraseIdx_le (l:=g.bs) (i:=i);omega);have y:=(Zaf.1 hk).1;have C:(⟨g.ev,g.bs.eraseIdx i⟩:Gdn)∈(expC c).set k ⟨g.ev,g.bs.eraseIdx i⟩:=List.mem_set y _;generalize(expC c).set k ⟨g.ev,g.bs.eraseIdx i⟩=l at*;obtain⟨ev,J,hc,rfl⟩:=(@QjX (ctC c) (bxC' c) 5).2 g s;unfold verZ;rw[if_neg G];by_cases o:autB (ZR (Lc c l) tru) (resC c).sup=true;·exfalso;unfold autB at o;simp only[Zac,decide_eq_true_eq]at o;have ho:(sAll (Lc c l) tru).1=(sAll (Qc c) (lfC c)).1:=QvH (wB_c h).toWfA o.1 (Nat.pos_of_ne_zero G) o.2.2.2;obtain⟨b,z⟩:=Qak hi;obtain⟨q,a,I,q1,q2,L,A⟩:=QvK (v:=ZV c) z;obtain⟨j,E,B,H⟩:=Qqb h (ev:=ev) _ (Zar _) q2;obtain⟨v,x⟩:=Qak E;have m:=kC_at h E;rw[B,I,Qaw x]at m;have m:=ZbZ m;obtain⟨to,h1,K⟩:=(Qhe h x).1 H;have t:=QvQ (wB_c h).toWfA (pm:=pmC c l) (left:=lfC c) o.1 o.2.2.2 j v (by rw[show(sAll (flt (Qc c) (pmC c l)) tru).1=_ from ho];exact x) x;obtain⟨d,p,F⟩:=Zaq.1 (QcN h1);have n:=Qc8 (wB_c h).es p;have d1:d.1=v:=congrArg Prod.fst F;have d2:d.2.1=ev:=congrArg Prod.snd F;rw[d1,d2,h1]at n;have n:=ZbZ n;have hin:d∈ZO (Qc c).es (lfC c) v:=QaV.2 ⟨p,d1,by rw[<-n];exact K⟩;rw[<-t]at hin;have f:=(ZaZ.1 (QaV.1 hin).1).2;have f:pmC c l d.1 d.2.1=true:=f;rw[d1,d2,Qtb w.inc hc C rfl,<-m]at f;have A:inBs ((bxC' c ev).eraseIdx i) a=false:=A;rw[A]at f;cases f
 rw[if_neg o]
end Go.AM.SO
namespace Go.AM.WS
open Go.Proofs
set_option maxHeartbeats 4000000
noncomputable section
def cf:YA.Cf:={most:=.pure,always:=[23].map fun k=>(k,.heap)}
def s5:SFn:=by
 refine(?f:YA.Yt Tryz.prog cf 5 [[0,2,6],[25,26,27,28,29,30,31,32,33,34,35],[1,3,5,36,37],[6,3,36,39,40,38,41,42],[8,43],[1,5,7,44],[6,44,46,47,45,48,49],[51,52,50,53,54],[12,55],[1,5,7,9,10,11,56],[6,56,57],[1,5,7,9,10,11,58,59,60,61,62,63,64,65],[6,10,58,67,68,69,66,70,71,72,14],[],[],[73,74,75],[76,79,80,81,82,83,84,85,86,87],[77,78],[1,13,17,89,90,91,88,92,93],[11,16,95,96,97,94,98,99],[15,124,123,122,119,118,116,117,113,111,112,108,107,104,103,18,19,20,21,100,101,102,105,106,109,110,114,115,120,121],[5,7,9,133,132,130,131,125,126,127,128,129,134],[6,133,132,130,131,125,135,136,137,138,139,140],[141,142,143,144,145,146],[5,7,9,22,147],[6,147,148,149,150],[5,151,152,153,154,155,156,157,158,159,160],[9,22,24,161,162,163,164,165,166,167,168,169,170,171,172,173,174,175,176,177,178,179,180,181,182],[7,23,183,184,185,186]] [(1,[(2,7),(2,15),(10,15)])]) ?s ?h;case h=>exact YA.rr
 exact fun s _=>s
end
end Go.AM.WS
namespace Go.AM.SO
open Go.Proofs Go.AM.SD Go.AM.SE
theorem Qhk(D):(u8s D).all AV.one=true:=by unfold u8s;simp[AV.one]
end Go.AM.SO
namespace Go.AM.TU
open Go.Proofs
set_option maxHeartbeats 4000000
noncomputable section
def cf:YA.Cf:={most:=.pure,always:=[93,86].map fun k=>(k,.heap)}
def s25:SFn:=by
 refine(?f:YA.Yt Tryz.prog cf 25 [[0,4,5],[9,10],[11],[1,2,6,12,13],[4,5,1,2,6,12,15,16,17,14,18,19,7],[8,20]]) ?s ?h;case h=>exact YA.rr
 exact fun s _=>s
def s67:SFn:=by
 refine(?f:YA.Yt Tryz.prog cf 67 [[0,4,5],[8,9],[1,2,10],[4,5,2,10,12,13,14,11,15,16],[1,6,7,17,18,19,20,21]]) ?s ?h;case h=>exact YA.rr
 exact fun s _=>s
def s134:SFn:=by
 refine(?f:YA.Yt Tryz.prog cf 134 [[0,6,7],[],[],[14,15,16,17],[9,18,19,20,21],[22],[1,2,3,11,12,13,8,10,23,24,25],[6,7,8,10,23,26],[27],[1,2,3,11,12,13,28,29,30]]) ?s ?h;case h=>exact YA.rr
 exact fun s _=>s
end
end Go.AM.TU
namespace Go.AM.SO
open Go.Proofs Go.AM.SD Go.AM.SE
variable{y:AV}{g:Gdn}{h:Heap}{bs l:List Bxn}{L:List Gdn}{i:Nat}
def folA(es:List Ed):Nat->List Nat->Nat×Nat|s,[]=>(s,0)|s,x::w=>match ZA es s x with|some n=>((folA es n w).1,(folA es n w).2+1)|none=>(s,0)
theorem Qop{es}:∀{w:List Nat}{s:Nat},(folA es s w).2<=w.length/\decide ((folA es s w).2=w.length)=(runA es s w).isSome|[],s=>⟨Zar _,rfl⟩|x::w,s=>by unfold folA runA;cases b:ZA es s x with|none=>exact⟨Zaj _,rfl⟩|some n=>obtain⟨h1,a⟩:=@Qop es w n;refine⟨by simp;omega,?_⟩;simp only[ZaD];rw[<-a];exact decide_eq_decide.2 (by omega)
theorem follow194(a)(w)(h:WfA a)(hp:0<a.n)(hw:w.length<=100000):Ps 134 [aV a,.int .i64 0,ZN w] (.tup [.int .i64 ((folA a.es 0 w).1:Int),.int .i64 ((folA a.es 0 w).2:Int)]):=by
 have m:=h.n5;refine Zcv 64 (Ok TU.s134) rfl (by(try simp only[noRefs,Qaa,Qam,Qag,noRef,noRefs,Zae,Zad])<;>rfl) rfl ?_;unfold TU.s134;refine Zc4 ?_;refine QaC 100 (fun s:Nat×Nat=>[(1,.int .i64 s.2),(2,ZN w),(3,.ptr 60 0 0),(11,ZN w),(12,.int .i64 w.length),(13,.int .i64 s.1)]) (fun _=>[(60,.cells 0 [ZN a.al,.int .i64 (a.n:Int),ZN a.ms,egsN a.es])]) (fun s=>s.1<=w.length/\s.2<a.n/\folA a.es 0 w=((folA a.es s.2 (w.drop s.1)).1,(folA a.es s.2 (w.drop s.1)).2+s.1)) (fun s=>w.length-s.1) (0,0) ?_ ⟨Zaj _,hp,rfl⟩ ?_;·exact⟨[(60,.blk 64 0)],rfl,au0,au27,au26⟩
 rintro⟨i,s⟩⟨hi,l,hf⟩;simp only at hi l hf;by_cases b:i<w.length;·obtain⟨x,k⟩:=Qak b;have d:=Qu7 k;rw[ZbY]at d;have g:=next226 a s x h l;unfold nxI at g;rw[Zbm b,(Zaf.1 k).2]at hf;refine Zc5 (Zc8 b d) ?_;refine cp g ?_;cases c:ZA a.es s x with|none=>simp only[folA,c]at hf;rw[hf];refine Zc4 ?_;exact⟨.inr trivial,_,rfl,by(try simp only[ZbS]);rfl⟩|some n=>
  simp only[folA,c]at hf;have f:=QeS h.esn c;have g1:¬(n:Int)<0:=by omega
  refine Zc5 g1 ?_;exact⟨(i+1,n),by simp;omega,⟨by simp;omega,f,by rw[hf];simp;omega⟩,⟨[(60,.blk 60 0)],rfl,au0,au27,au26⟩⟩
 have e:i=w.length:=by omega
 subst e;rw[List.drop_length]at hf;simp only[folA]at hf;refine Zc5 b ?_;rw[hf];exact⟨.inr trivial,_,rfl,by(try simp only[ZbS]);rfl⟩
theorem reached113(a)(w)(h:WfA a)(hp:0<a.n)(hw:w.length<=100000):Ps 67 [aV a,ZN w] (.tup [.int .i64 ((folA a.es 0 w).1:Int),.bool (gen a w)]):=by
 have f:=h.n5;refine Zcv 64 (Ok TU.s67) rfl (by(try simp only[noRefs,Qaa,Qam,Qag,noRef,noRefs,Zae,Zad])<;>rfl) rfl ?_;have c:=follow194 a w h hp hw;obtain⟨h1,b⟩:=@Qop a.es w 0;have d:decide ((folA a.es 0 w).2=w.length)=gen a w:=b;have g0:¬(a.n:Int)=0:=by omega
 unfold TU.s67;refine Zc5 g0 ?_;refine cp c ?_;refine Zc5 d ?_;exact⟨.inr trivial,_,rfl,rfl⟩
theorem generates39(a)(w)(h:WfA a)(hp:0<a.n)(hw:w.length<=100000):Ps 25 [aV a,ZN w] (.tup [.bool (gen a w),.int .i64 0]):=by refine Zcv 64 (Ok TU.s25) rfl (by(try simp only[noRefs,Qaa,Qam,Qag,noRef,noRefs,Zae,Zad])<;>rfl) rfl ?_;have hc:=check112B a h;have b:=reached113 a w h hp hw;unfold TU.s25;refine Zc4 ?_;refine cp hc ?_;refine Zc4 ?_;refine cp b ?_;refine Zc4 ?_;exact⟨.inr trivial,_,rfl,rfl⟩
theorem FrzL.setAt{z}(a:FrzTo h y z):∀{cs:List AV}{i:Nat},FrzL h (cs.set i y) (cs.set i z)|[],i=>by rw[List.set_nil,List.set_nil];exact ZcS|c::cs,0=>ZcT a (Zcz _)|c::cs,i+1=>ZcT (Zcy _) (FrzL.setAt a)
theorem Qoq:∀{l:List Gdn}{k:Nat}{g:Gdn}{bs:List Bxn},l[k]?=some g->(l.set k ⟨g.ev,bs⟩).flatMap gdC=(l.flatMap gdC).set (k*2+1) (bxsV bs)|[],k,g,bs,h=>by simp at h|x::l,0,g,bs,h=>by simp only[Zbi,Zab]at h;subst h;rfl|x::l,k+1,g,bs,h=>by rw[Zbx]at h;have a:=Qoq (bs:=bs) h;rw[Zb8,Zaz,a,Zaz];rw[List.set_append_right _ _ (by show 2<=_;omega)];congr 2;show k*2+1=(k+1)*2+1-2;omega
theorem Qum(h:i<=l.length):(l.flatMap bxC).take (i*2)=(l.take i).flatMap bxC:=by
 have e:l.flatMap bxC=(l.take i).flatMap bxC++(l.drop i).flatMap bxC:=by rw[<-Zao,Za9]
 rw[e];exact List.take_left' (by rw[QbF,Zap];omega)
theorem Qun(h:i<=l.length):(l.flatMap bxC).drop (i*2)=(l.drop i).flatMap bxC:=by
 have e:l.flatMap bxC=(l.take i).flatMap bxC++(l.drop i).flatMap bxC:=by rw[<-Zao,Za9]
 rw[e];exact List.drop_left' (by rw[QbF,Zap];omega)
theorem QvR{b a k n}(d:L[k]?=some g)(c:h.get b=some (.cells a ((L.flatMap gdC).set (k*2+1) y)))(f:FrzTo h y (bxsV bs))(i:L.length=n):FrzTo h (.sl b a 0 n 2) (gdsV (L.set k ⟨g.ev,bs⟩)):=by
 subst i;have l:((L.flatMap gdC).set (k*2+1) y).length=L.length*2:=by rw[ZbD,Qjs]
 show FrzTo h _ (.fsl ((L.set k ⟨g.ev,bs⟩).flatMap gdC) (L.set k ⟨g.ev,bs⟩).length 2);rw[ZbD];refine FrzTo.sl c (by omega) ?_;rw[Za5,ZaM (by omega),Qoq d];exact FrzL.setAt f
theorem QvS(l:List Gdn):(l.flatMap gdC).all AV.one=true:=by induction l with|nil=>rfl|cons x l a=>rw[Zaz,ZbR,a];rfl
theorem law5(p)(h:POk p)(hxn:p.xn<=9223372036854775807)(w)(hwb:∀x∈w,x<256)(hwl:w.length<=9223372036854775807)(D)(hD:D.length=2)(Z:∀x∈D,x<256):W2 Tryz.prog ⟨WS.s5.n,0⟩ WS.s5.body (fun e B=>(e=.normal\/e=.ret)/\resV B.T B.h WS.s5.res=some [.bool true]) ⟨argT 0 [plnV p,.fsl (u8s w) w.length 1,.agg (u8s D)],.e⟩:=by
 refine(wpC.toW (n:=40) (Q:=fun e T h _=>(e=.normal\/e=.ret)/\resV T h WS.s5.res=some [.bool true]) (show wS Tryz.prog ⟨WS.s5.n,0⟩ WS.s5.body [] 40 _ _ _ from ?_)).mono fun e B⟨_,h⟩=>h;have m:=GJ.known29;have hlen:=SU.Qkl h;have f:=SU.Qkm h;have hnr:=@SU.Qem p;have hS:=short25 p h hxn;have hM:=SU.Make26 p h;have hw:=@Qwl p;have hnw:=QaQ w;have I:noRefs (u8s D)=true:=QaQ D;have t:(u8s D).length=2:=by rw[SU.QcW];exact hD
 have A:=Qhk D;have v:(u8s D).take 2=u8s D:=by rw[<-t,Zan]
 have d:(plnC p).take 152=plnC p:=by rw[<-hlen,Zan]
 show wS _ _ _ _ _ (argT 0 [.agg (plnC p),.fsl (u8s w) w.length 1,.agg (u8s D)]) _ _;have q:Ps 9 [.agg (plnC p)] (.bool (decide (p.xn<=4))):=hS;have hM':Ps 42 [.agg (plnC p)] (celV (mkC p)):=hM;clear hS hM;generalize plnC p=C at*;generalize mkC p=c at*;have hsm:=small10 c hw C hlen f hnr hM';by_cases h4:p.xn<=4
 ·rw[decide_eq_true h4]at q;by_cases U:(8:Int)<(w.length:Int);·unfold WS.s5;refine Zc5 (Zdd hlen f d t A v U) ?_;refine cp m ?_;refine Zc5 (Zc8 hlen d) ?_;refine cp q ?_;refine Zc5 U ?_;refine cp m ?_;refine Zc4 ?_;exact⟨.inr trivial,rfl⟩
  have u:=Qbh c;have Y:=supervisor23 c hw;by_cases S:(resC c).sup.n=0
  ·have n1:((resC c).sup.n:Int)=0:=by omega
   have H:=guards13N c hw S;unfold WS.s5;refine Zc5 (Zdd hlen f d t A v U) ?_;refine cp m ?_;refine Zc5 (Zc8 hlen d) ?_;refine cp q ?_;refine Zc5 (Zc9 U hlen d) ?_;refine cp hsm ?_;refine Zc4 ?_;refine cp H ?_;refine Zc4 ?_;refine cp Y ?_;refine Zc5 n1 ?_;exact⟨.inr trivial,rfl⟩
  have H:=guards13 c hw S;have o:=QjY hw;have V:=loop19 c hw (expC c) o;rw[Qmb hw S]at V;have N:=verify23 c hw (expC c) o;rw[QvP hw S]at N;have hws:WfA (resC c).sup:=QeT (wB_c hw).toWfA;have G:=generates39 (resC c).sup (w.map fun x=>x%5) hws (Nat.pos_of_ne_zero S) (by rw[Zax];omega);have J:∀(k i:Nat)(g:Gdn),(expC c)[k]?=some g->i<g.bs.length->Ps 23 [celV c,gdsV ((expC c).set k ⟨g.ev,g.bs.eraseIdx i⟩)] (.int .i64 24):=fun k i g hk hi=>by have hgm:=Zaa hk;have X:=o.set hk (bs:=g.bs.eraseIdx i) (fun b hb=>List.mem_of_mem_eraseIdx hb) (by have:=o.bl g hgm;have:=List.length_eraseIdx_le (l:=g.bs) (i:=i);omega);have:=verify23 c hw _ X;rw[Qul hw S hk hi]at this;exact this
  have hll:=o.len;have hbl:=o.bl;generalize expC c=L at*;generalize(sAll (Lc c L) tru).1=O at*;generalize hSue:(resC c).sup=a at*;have n:noRefs [ZN a.al,.int .i64 (a.n:Int),ZN a.ms,egsN a.es]=true:=by simp only[noRefs,noRef,Qaa,Qag];rfl
  unfold WS.s5;refine Zc5 (Zdd hlen f d t A v U) ?_;refine cp m ?_;refine Zc5 (Zc8 hlen d) ?_;refine cp q ?_;refine Zc5 (Zc9 U hlen d) ?_;refine cp hsm ?_;refine Zc4 ?_;refine cp H ?_;refine Zc4 ?_;refine cp Y ?_;refine Zc4 ?_;refine cp V ?_;refine Zc4 ?_;refine Qas 200 (fun i:Nat=>[(1,.fsl (u8s w) w.length 1),(5,.ptr 51 0 0),(7,.ptr 52 0 0),(9,gdsV L),(11,.ptr 53 0 0),(13,.ptr 54 0 0),(15,.int .i64 0),(16,.sl 60 0 0 i 1),(17,.int .i64 i)]) (fun i=>[(51,.cells 0 (u8s D)),(52,.cells 0 (ceCl c)),(53,.cells 0 [ZN a.al,.int .i64 (a.n:Int),ZN a.ms,egsN a.es]),(54,.cells 0 [ZN a.al,.int .i64 (a.n:Int),ZN a.ms,egsN a.es]),(60,.cells 0 (ZI (nz ((w.take i).map fun x=>x%5))))]) (fun i=>i<=w.length) (fun i=>w.length-i) 0 0 260 (fun _:Unit=>[(5,.ptr 51 0 0),(7,.ptr 52 0 0),(9,gdsV L),(11,.ptr 53 0 0),(13,.ptr 54 0 0),(15,.int .i64 0),(16,ZN (w.map fun x=>x%5))]) (fun _=>[(51,.cells 0 (u8s D)),(52,.cells 0 (ceCl c)),(53,.cells 0 [ZN a.al,.int .i64 (a.n:Int),ZN a.ms,egsN a.es]),(54,.cells 0 [ZN a.al,.int .i64 (a.n:Int),ZN a.ms,egsN a.es])]) (fun _=>True) ?_ (Zaj _) ?_ ?_;·refine⟨[(51,.blk 41 0),(52,.blk 60 0),(53,.blk 77 0),(54,.blk 91 0),(60,.nil)],rfl,au0,?_,ZcC (Zcs (by rw[noRef];exact hnw)) (ZcC (Rn.x2 rfl rfl) (ZcC (Rn.x2 rfl rfl) (ZcC (Zcs (Qbj _)) (ZcC (Rn.x2 rfl rfl) (ZcC (Rn.x2 rfl rfl) (ZcC (Zcs rfl) (ZcC (Rn.x4 rfl rfl) (ZcC (Zcs rfl) ZcB))))))))⟩;exact ZcE rfl rfl gg (Zct I) (ZcE rfl rfl gg (Zct u) (ZcE rfl rfl gg (Zct n) (ZcE rfl rfl gg (Zct n) (ZcF rfl rfl ZcD))))
  ·rintro i hi;by_cases K:i<w.length
   ·obtain⟨x,hx⟩:=Qak K;have hx2:=hwb x (Zaa hx);have l:aBin .rem (.int .u8 (x:Int)) (.int .u8 5)=some (.int .u8 ((x%5:Nat):Int)):=by
     have:(x:Int).tmod 5=((x%5:Nat):Int):=by rw[Zbl (by omega)];omega
     simp[aBin,this]
    have R:(ZI (nz ((w.take i).map fun x=>x%5))).length=i:=by simp[ZI];omega
    have hgu:((u8s w).drop i).head?=some (.int .u8 (x:Int)):=by rw[ZbC];exact QgX hx
    refine Zc5 (Zda K hgu l R) ?_;refine⟨i+1,by omega,by omega,?_⟩;rw[take_succ' hx,ZaJ,QaM,QaB];refine⟨[(51,.blk 51 0),(52,.blk 52 0),(53,.blk 53 0),(54,.blk 54 0),(60,.blk 60 1)],rfl,au0,?_,ZcC (Zcs (by rw[noRef];exact hnw)) (ZcC (Rn.x2 rfl rfl) (ZcC (Rn.x2 rfl rfl) (ZcC (Zcs (Qbj _)) (ZcC (Rn.x2 rfl rfl) (ZcC (Rn.x2 rfl rfl) (ZcC (Zcs rfl) (ZcC (Rn.x1 rfl rfl) (ZcC (Zcs rfl) ZcB))))))))⟩;exact ZcE rfl rfl gg (Zct I) (ZcE rfl rfl gg (Zct u) (ZcE rfl rfl gg (Zct n) (ZcE rfl rfl gg (Zct n) (ZcE rfl rfl gg (Zct (SU.Qav (Qaa _) rfl)) ZcD))))
   have e:i=w.length:=by omega
   subst e;refine Zc1 K ?_;refine⟨(),[(51,.blk 51 0),(52,.blk 52 0),(53,.blk 53 0),(54,.blk 54 0)],rfl,ZcA,?_,ZcC (Rn.x2 rfl rfl) (ZcC (Rn.x2 rfl rfl) (ZcC (Zcs (Qbj _)) (ZcC (Rn.x2 rfl rfl) (ZcC (Rn.x2 rfl rfl) (ZcC (Zcs rfl) (ZcC (ZcL (b:=60) (g:=0) gg rfl rfl (by simp) (by simp[ZI]) (Zct (Qaa _))) ZcB))))))⟩;exact ZcE rfl rfl gg (Zct I) (ZcE rfl rfl gg (Zct u) (ZcE rfl rfl gg (Zct n) (ZcE rfl rfl gg (Zct n) ZcD)))
  rintro _ _;generalize(w.map fun x=>x%5)=ws at*;generalize gen a ws=GB at*;have hbb:aEq (.flat false [.b]) true (.bool GB) (.bool GB)=some (.bool false):=by cases GB<;>rfl
  refine Zc4 ?_;refine cp G ?_;refine Zc4 ?_;refine cp G ?_;refine Zc5 hbb ?_;refine ch (ZcQ (Zcz _) N rfl) ?_;by_cases P:(L.length:Int)=0;·refine Zc5 P ?_;refine ch (ZcQ (Zcz _) N rfl) ?_;refine Zc4 ?_;exact⟨.inr trivial,rfl⟩
  obtain⟨a0,s,rfl⟩:∃a0 s,D=[a0,s]:=by match D,hD with|[a0,s],_=>exact⟨a0,s,rfl⟩
  have g0:(u8s [a0,s])[0]?=some (.int .u8 (a0:Int)):=rfl;have g1:(u8s [a0,s])[1]?=some (.int .u8 (s:Int)):=rfl;have hLp:0<L.length:=by omega
  have l:aBin .rem (.int .i64 (a0:Int)) (.int .i64 (L.length:Int))=some (.int .i64 ((a0%L.length:Nat):Int)):=QlN (by omega);have F:a0%L.length<L.length:=Zce _ hLp;generalize a0%L.length=k at*;obtain⟨g,H⟩:=Qak F;have y:=QdR H;have Q:2<=((L.flatMap gdC).drop (k*2)).length:=by rw[y];simp
  have hgb:=hbl g (Zaa H);have ha0:=Z a0 (by simp);have ha1:=Z s (by simp);by_cases hb0:(g.bs.length:Int)=0;·refine Zc5 (Zdd P g0 l F y Q hb0) ?_;exact⟨.inr trivial,rfl⟩
  have hbp:0<g.bs.length:=by omega
  have M:aBin .rem (.int .i64 (s:Int)) (.int .i64 (g.bs.length:Int))=some (.int .i64 ((s%g.bs.length:Nat):Int)):=QlN (by omega);have z:s%g.bs.length<g.bs.length:=Zce _ hbp;generalize s%g.bs.length=i at*;refine Zc7 (Zdk P g0 g1 l M F z y Q hb0 @QvS @Qac @Qad @Qae) ?_;have hbx:=QbF g.bs;have ht1:((g.bs.flatMap bxC).take (i*2))=(g.bs.take i).flatMap bxC:=Qum (by omega);have ht2:((g.bs.flatMap bxC).drop ((i+1)*2))=(g.bs.drop (i+1)).flatMap bxC:=Qun (by omega);have ht3:((g.bs.drop (i+1)).flatMap bxC).take ((g.bs.length-(i+1))*2)=(g.bs.drop (i+1)).flatMap bxC:=by rw[ZaM];rw[QbF];simp
  have ht4:=QbF (g.bs.take i);have ht5:((i:Int)+1).toNat=i+1:=by omega
  have R:(g.bs.take i).length=i:=by simp;omega
  rw[R]at ht4;have ho1:=Qhy (g.bs.take i);refine QcU [(168,[])] rfl rfl ?_;have ho2:=Qhy (g.bs.drop (i+1));have hgk:k*2+1+1<=(L.flatMap gdC).length:=by rw[Qjs];omega
  refine Zc5 (Zdj F z y Q hbx ht1 ht4 ht5 ho1 ht2 ht3 ho2 hgk) ?_;refine⟨⟨⟨_,rfl,fun b hb=>hb⟩,trivial⟩,?_⟩;have hls:=J k i g H z;have hlE:(g.bs.eraseIdx i).length=i+(g.bs.length-(i+1)):=by rw[List.length_eraseIdx,if_pos z];omega
  rw[<-Zao,<-Qol];generalize g.bs.eraseIdx i=E at*;refine ch (ZcQ (ZcT (Zcy _) (ZcT (QvR H gg (Qsq gg hlE) rfl) ZcS)) hls rfl) ?_;refine Zc4 ?_;exact⟨.inr trivial,rfl⟩
 rw[decide_eq_false h4]at q;unfold WS.s5;refine Zc5 (Zdc hlen f d t A v) ?_;refine cp m ?_;refine Zc5 (Zc8 hlen d) ?_;refine cp q ?_;refine Zc4 ?_;refine cp m ?_;refine Zc4 ?_;exact⟨.inr trivial,rfl⟩
theorem okg5:okFn Tryz.prog 5 WS.s5=true:=(Ok WS.s5)
theorem glaw5_in(d0)(d1)(d2)(m:tyPln.wf d0)(h1:(Ty.sl (.int .u8)).wf d1)(f:(Ty.arr 2 (.int .u8)).wf d2):W2 Tryz.prog ⟨WS.s5.n,0⟩ WS.s5.body (fun e B=>(e=.normal\/e=.ret)/\resV B.T B.h WS.s5.res=some [.bool true]) ⟨argT 0 [tyPln.val d0,(Ty.sl (.int .u8)).val d1,(Ty.arr 2 (.int .u8)).val d2],.e⟩:=by
 obtain⟨p,hp,i,k⟩:=QwN m;obtain⟨n,c⟩:=h1;obtain⟨w,a,b,h⟩:=Qcf (.arr (List.length d1) (.int .u8)) rfl d1 ⟨rfl,c⟩;have hlen:w.length=List.length d1:=by rw[a];exact ZbY _
 have o:(Ty.sl (.int .u8)).val d1=.fsl (u8s w) w.length 1:=by show AV.fsl (List.flatMap (Ty.cells (.int .u8)) d1) (List.length d1) 1=_;rw[hlen,<-h];rfl
 obtain⟨D,g,d,l⟩:=Qcf (.arr 2 (.int .u8)) rfl d2 f;rw[k,o,show(Ty.arr 2 (.int .u8)).val d2=.agg (u8s D)from congrArg AV.agg l];exact law5 p hp i w b (by omega) D g d
end Go.AM.SO
