/- A part of the proof of GuardsOfCardSaid: lemmas on the way (AnCt, AnCx, AnDk, AnBi, AnBj). Conditions: none of ours. -/
import Derived.Test.YtikknocmfjfohaaGreatDoorProg
import Derived.KernelRfl
import Derived.Test.YtikknocmfjfohaaGreatDoorAmO11
theorem Go.AM.bFAOQ{p:Prop}(h:p:=by
 refine⟨.inr trivial,_,rfl,?_⟩;have hr:restr a (lf l)=⟨a.al,0,[],[]⟩:=by unfold restr;rw[e];rfl
 rw[hr,e];exact RnO.tup (ZcG (RnO.agg (ZcG (RnO.slm (g:=0) rfl rfl rfl (QcH _) (by simp[ints])) (ZcG (RnO.flat rfl) (ZcG RnO.nil (ZcG RnO.nil RnOL.nil))))) (ZcG RnO.nil RnOL.nil))):p:=h
theorem Go.AM.bTEaO{p:Prop}(h:p:=by
 have h2:=hsb k b' g' h1;simp only[Zax,Za1,or_false]at hp;rcases hp with rfl|rfl|rfl|rfl<;>cases hb<;>omega):p:=h
theorem Go.AM.bfENp{p:Prop}(h:p:=by
 refine⟨[(60,.blk 60 0),(69,.blk 69 0),(83,.blk 83 0),(78,.blk 78 0),(74,.blk 74 0),(75,.blk 75 0),(76,.blk 76 0),(77,.blk 77 0)],rfl,au0,?_,au11⟩;repeat'(first|exact Zcv|(refine Zcl ?_;first|rfl|(simp only[noRef,noRefs,Qaf,Zae,Zad,Zag,Qaa,Qal,Qag,Qan,Qap,Qaz,Qai,Qah,Qab,Qaq,Qaj,Qam,Qao,Qav];done))|exact ZcJ rfl|exact ZcB|exact(True.intro:RnM _ _ _ [] [])|refine ZcC ?_ ?_|(refine Zck ?_;first|rfl|(simp only[noRef,noRefs,Qaf,Zae,Zad,Zag,Qaa,Qal,Qag,Qan,Qap,Qaz,Qai,Qah,Qab,Qaq,Qaj,Qam,Qao,Qav];done))|exact Rn.x1 rfl rfl|exact Rn.x2 rfl rfl|exact Rn.x3 rfl rfl|exact Rn.x4 rfl rfl|exact Rn.x5 rfl|exact Rn.x6 rfl|exact Rn.x7 rfl|refine Zcx rfl rfl ?_|refine Zcw rfl rfl rfl ?_ ?_|refine Zcy rfl rfl rfl ?_ ?_|refine Zcz rfl rfl ?_ ?_|refine ZcA rfl rfl ?_ ?_)
 exact ZcO fun x _=>Zck rfl):p:=h
set_option linter.unusedSectionVars false
set_option maxHeartbeats 32000000
set_option maxRecDepth 100000
set_option linter.unusedVariables false
set_option linter.unusedSimpArgs false
namespace Go.AM.SU
open Go.Proofs Go.AM.SD Go.AM.SE
variable{v:AV}{h:Heap}{a c cs:List AV}{fs:List Fr}{A dead l:List Nat}{r:List SOper}{N:NM}{f i k n off:Nat}{d:Option Nat}{P:Program}{Q:QC}{T:Tmps}
theorem _root_.Go.AM.ZcU{p q:Prop}(k:q)(h:p=q:=by conv=>lhs;simp(disch:=first|omega|exact PairsOK.mk rfl|(simp only[lenW]<;>omega))only[Zam,wW,wV,simprocAttr]):p:=h▸k
theorem _root_.Go.AM.ZcV{p q A:Prop}(a:A)(k:q)(h:A->p=q:=by intro a;conv=>lhs;simp(disch:=first|omega|exact PairsOK.mk rfl|(simp only[lenW]<;>omega))only[a,Zam,wW,wV,simprocAttr]):p:=h a▸k
theorem not92(A)(x:Nat)(hA:A.length<=1000000):Ps 94 [.int .i64 (x:Int),.fptr [sliN A]] (.bool (!decide (x∈A))):=by
 refine Zcn 64 (Ok s94) rfl (by simp only[noRefs,noRef,Qaa];rfl) rfl ?_;have h:=contains62 (nz A) x (by simp;omega);have e:decide ((x:Int)∈nz A)=decide (x∈A):=by
  refine decide_eq_decide.2 ⟨fun h=>?_,fun h=>Zap.2 ⟨x,h,rfl⟩⟩;obtain⟨a,h1,b⟩:=Zap.1 h;have:a=x:=by omega
  exact this▸h1
 rw[e,Qb2]at h;unfold s94;refine ZcU ?_;refine cp h ?_;refine ZcU ?_;exact⟨.inr trivial,_,rfl,rfl⟩
def fstN(A l:List Nat):Int:=if l.all (fun x=>decide (x∈A))then-1 else(l.findIdx (fun x=>!decide (x∈A)):Int)
theorem cpc{args}(hp:PSpec P f (a++args++c) v)(k:wR P N r dead fs (n+1) (putD T d v) h Q):wCall P N .heap (.fn f a c) args d r dead fs n T h Q:=⟨v,h,hp.toH h,k⟩
theorem chc{h1}{args}(hp:HSpec P f (a++args++c) h v h1)(k:wR P N r dead fs (n+1) (putD T d v) h1 Q):wCall P N .heap (.fn f a c) args d r dead fs n T h Q:=⟨v,h1,hp,k⟩
theorem index110(A l)(hA:A.length<=1000000)(o:l.length<=1000000):Ps 151 [sliN l,.fn 94 [] [.fptr [sliN A]]] (.int .i64 (fstN A l)):=by
 refine Zcn 64 (Ok s151) rfl (by simp only[noRefs,noRef,Qaa];rfl) rfl ?_;unfold s151;refine ZcU ?_;refine QaC 100 (fun i:Nat=>[(0,sliN l),(1,.fn 94 [] [.fptr [sliN A]]),(7,.int .i64 l.length),(8,.int .i64 i)]) (fun _=>[]) (fun i=>i<=l.length/\∀(j:Nat)y,j<i->l[j]?=some y->y∈A) (fun i=>l.length-i) 0 ⟨[],rfl,au0,au7,au8⟩ ⟨Zai _,fun j y c=>absurd c (ZaD _)⟩ ?_;rintro i⟨hi,g⟩;by_cases a:i<l.length
 ·obtain⟨x,b⟩:=Qak a;have f:=not92 A x hA;by_cases d:x∈A
  ·have e:(!decide (x∈A))=false:=by simp[d]
   rw[e]at f;refine ZcV (Zc2 a (QaH b)) ?_;refine cpc f ?_;refine ZcU ?_;refine⟨i+1,by omega,⟨by omega,fun j y c m=>?_⟩,⟨[],rfl,au0,au7,au8⟩⟩;by_cases e:j=i;·subst e;rw[b]at m;cases m;exact d
   exact g j y (by omega) m
  have e:(!decide (x∈A))=true:=by simp[d]
  rw[e]at f;refine ZcV (Zc2 a (QaH b)) ?_;refine cpc f ?_;refine ZcU ?_;refine⟨.inr trivial,_,rfl,?_⟩;have h1:¬l.all (fun x=>decide (x∈A))=true:=by intro h;exact d (by simpa using ZaH.1 h x (Zac b))
  have n:l.findIdx (fun x=>!decide (x∈A))=i:=by rw[Zcc a];refine⟨by rw[Zak a]at b;cases b;simp[d],fun j c=>?_⟩;have:=g j l[j] c (Zak (by omega));simpa using this
  unfold fstN;rw[if_neg h1,n];rfl
 have h1:l.all (fun x=>decide (x∈A))=true:=by rw[ZaH];intro x b;obtain⟨j,c,k⟩:=Za4 b;simpa using g j x (by omega) (by rw[Zak c,k])
 refine ZcV a ?_;refine⟨.inr trivial,_,rfl,?_⟩;unfold fstN;rw[if_pos h1];rfl
theorem Qdu{vs}(h:off<cs.length):putR cs off vs=cs.take off++vs++cs.drop (off+vs.length):=by
 unfold putR;split;·rename_i v;rw[List.set_eq_take_append_cons_drop,if_pos h];simp
 rfl
theorem QmY{b g len sz}{zero}(i:h.get b=some (.cells g cs))(p:0<len)(o:off+len*sz<=cs.length)(f:zero.length=sz)(ho:zero.all AV.one=true)(c:b<lim)(m:wR P N r dead fs (n+1) (putD T d .any) (h.set b (.cells g (putR cs off (List.replicate len zero).flatten))) Q):wM P N (aClear sz zero (.sl b g off len sz)) d r dead fs n T h Q:=by
 obtain⟨k,rfl⟩:∃k,len=k+1:=⟨len-1,by omega⟩;refine⟨_,_,?_,m⟩;have l:Nat.beq g g=true:=by simp
 have a:Nat.blt b lim=true:=by simpa using c
 simp only[aClear,if_true,HM.cells,HM.run,i,l,cond_true];rw[if_pos ⟨o,f,ho⟩];simp only[HM.run,a,cond_true]
def fltN(A l:List Nat):List Nat:=l.filter fun x=>decide (x∈A)
theorem QmZ{j v}(h:l[j]?=some v):fltN A (l.take (j+1))=if v∈A then fltN A (l.take j)++[v]else fltN A (l.take j):=by unfold fltN;rw[ZaZ,h,Option.toList,Zbm];by_cases a:v∈A<;>simp[a]
def delL(A l:List Nat):List Nat:=fltN A l++List.replicate (l.length-(fltN A l).length) 0
theorem QtX(h:l.all (fun x=>decide (x∈A))=true):fltN A l=l:=by unfold fltN;exact ZbK.2 fun x a=>ZaH.1 h x a
theorem QsS:(List.replicate k [AV.int .i64 0]).flatten=ints (nz (List.replicate k 0)):=by induction k with|zero=>rfl|succ k a=>rw[ZaY,Zbp,a];rfl
theorem Qrd:(ints (nz l)).take i=ints (nz (l.take i)):=by simp[ints,nz,List.map_take]
theorem QoW{x}(h:l[i]?=some x):(ints (nz l))[i]?=some (.int .i64 (x:Int)):=by simp[ints,h]
theorem del40(A l)(hA:A.length<=1000000)(O:l.length<=1000000):HSpec Tryz.prog 93 [.sl 98 0 0 l.length 1,.fn 94 [] [.ptr 75 0 0]] (hp [(75,.cells 0 [sliN A]),(98,.cells 0 (ints (nz l)))]) (.sl 98 0 0 (fltN A l).length 1) (hp [(75,.cells 0 [sliN A]),(98,.cells 0 (ints (nz (delL A l))))]):=by
 refine HSpec.Qg5 (m:=99) 100 (Ok s93) rfl rfl ?_;have M:(ints (nz l)).length=l.length*1:=by simp[ints]
 unfold s93;refine ZcU ?_;refine chc (ZcI (ZcL (FrzTo.all gg M) (ZcL (FrzTo.fn ZcK (ZcL (ZcH (g:=0) (cs:=[sliN A]) gg (ZcL (Zcq _) ZcK)) ZcK)) ZcK)) (index110 A l hA O) rfl) ?_;by_cases a:l.all (fun x=>decide (x∈A))=true;·have y:fstN A l=-1:=if_pos a;refine ZcV y ?_;refine⟨.inr trivial,_,rfl,?_⟩;unfold delL;rw[QtX a,ZbL,List.replicate_zero,Zas];exact⟨[(75,.nil),(98,.nil)],rfl,au0,au7,au8⟩
 have y:fstN A l=(l.findIdx (fun x=>!decide (x∈A)):Int):=if_neg a;have hex:∃x∈l,(!decide (x∈A))=true:=by have:¬∀x∈l,decide (x∈A)=true:=fun h=>a (ZaH.2 h);obtain⟨x,r⟩:=Classical.not_forall.1 this;obtain⟨r,P⟩:=Classical.not_imp.1 r;exact⟨x,r,by simpa using P⟩
 have k:l.findIdx (fun x=>!decide (x∈A))<l.length:=Zbo hex;obtain⟨c,E⟩:∃c,c=l.findIdx (fun x=>!decide (x∈A)):=⟨_,rfl⟩;rw[<-E]at y k;have K:l[c]∉A:=by have:=List.findIdx_getElem (w:=by rw[<-E];exact k) (xs:=l) (p:=fun x=>!decide (x∈A));simp only[<-E]at this;simpa using this
 have q:fltN A (l.take c)=l.take c:=by unfold fltN;refine ZbK.2 fun x r=>?_;obtain⟨j,H,rfl⟩:=Za4 r;rw[Zaq]at H;have:=List.not_of_lt_findIdx (xs:=l) (p:=fun x=>!decide (x∈A)) (i:=j) (by rw[<-E];omega);rw[List.getElem_take];simpa using this
 have G:fltN A (l.take (c+1))=l.take c:=by rw[QmZ (Zak k),if_neg K,q]
 have F:¬(c:Int)=-1:=by omega
 refine ZcV (Zc2 y F) ?_;refine QaC 110 (fun t:Nat×Nat×List Nat=>[(0,.sl 98 0 0 l.length 1),(1,.fn 94 [] [.ptr 75 0 0]),(5,.int .i64 t.2.1),(6,.int .i64 t.1)]) (fun t=>[(75,.cells 0 [sliN A]),(98,.cells 0 (ints (nz t.2.2)))]) (fun t=>t.1<=l.length/\t.2.1<t.1/\t.2.2.length=l.length/\t.2.2.take t.2.1=fltN A (l.take t.1)/\t.2.2.drop t.1=l.drop t.1) (fun t=>l.length-t.1) (c+1,c,l) ⟨[(75,.nil),(98,.nil)],rfl,au0,au7,au8⟩ ⟨by dsimp only;omega,by dsimp only;omega,rfl,G.symm,rfl⟩ ?_;rintro⟨j,i,C⟩⟨H,I,b,m,B⟩;dsimp only at H I b m B⊢;by_cases d:j<l.length
 ·obtain⟨v,L⟩:=Qak d;have w:C[j]?=some v:=by
   have:(C.drop j)[0]?=(l.drop j)[0]?:=by rw[B]
   simpa[L]using this
  have z:=QmZ (A:=A) L;have f:=not92 A v hA;by_cases hm:v∈A
  ·have J:(!decide (v∈A))=false:=by simp[hm]
   rw[J]at f;rw[if_pos hm]at z;refine ZcV (Zc3 d b (QoW w)) ?_;refine chc (ZcI (ZcL (Zcq _) (ZcL (ZcH (g:=0) (cs:=[sliN A]) gg (ZcL (Zcq _) ZcK)) ZcK)) f rfl) ?_;have g:i<l.length:=by omega
   have p:(ints (nz C)).set i (.int .i64 (v:Int))=ints (nz (C.set i v)):=by simp[ints,nz,List.map_set]
   have s:i+1<=(ints (nz C)).length:=by simp[ints,b];omega
   have n:i+1<=l.length:=by omega
   refine ZcV (Zc5 g b p s n) ?_;refine⟨(j+1,i+1,C.set i v),by dsimp only;omega,⟨by dsimp only;omega,by dsimp only;omega,by simp[b],?_,?_⟩,?_⟩;·dsimp only;rw[z,<-m,ZaZ,Zbu (by omega),List.take_set,List.set_eq_of_length_le (by rw[Zaq];omega)];rfl
   ·dsimp only;rw[List.drop_set_of_lt (by omega)];have:=congrArg (List.drop 1) B;simpa[ZaT]using this
   exact⟨[(75,.nil),(98,.nil)],rfl,au0,au7,au8⟩
  have J:(!decide (v∈A))=true:=by simp[hm]
  rw[J]at f;rw[if_neg hm]at z;refine ZcV (Zc3 d b (QoW w)) ?_;refine chc (ZcI (ZcL (Zcq _) (ZcL (ZcH (g:=0) (cs:=[sliN A]) gg (ZcL (Zcq _) ZcK)) ZcK)) f rfl) ?_;refine ZcU ?_;refine⟨(j+1,i,C),by dsimp only;omega,⟨by dsimp only;omega,by dsimp only;omega,b,by rw[z];exact m,?_⟩,?_⟩;·dsimp only;have:=congrArg (List.drop 1) B;simpa[ZaT]using this
  exact⟨[(75,.nil),(98,.nil)],rfl,au0,au7,au8⟩
 have N:j=l.length:=by omega
 subst N;rw[Zan]at m;have g:(i:Int)<=(l.length:Int):=by omega
 refine ZcV (Zc2 d g) ?_;refine QmY gg (by omega) (by simp[ints,b];omega) rfl rfl (by decide) ?_;refine ZcV g ?_;refine⟨.inr trivial,_,rfl,?_⟩;have o:(fltN A l).length=i:=by rw[<-m,Zaq];omega
 have u:putR (ints (nz C)) i (List.replicate (l.length-i) [AV.int .i64 0]).flatten=ints (nz (delL A l)):=by rw[Qdu (by simp[ints,b];omega),QsS,Qrd,m];unfold delL;rw[o,QaQ,QaF,List.drop_of_length_le (by simp[ints,b];omega),Zas]
 rw[o,u];exact⟨[(75,.nil),(98,.nil)],rfl,au0,au7,au8⟩
end Go.AM.SU
namespace Go.AM.SO
open Go.Proofs
set_option maxHeartbeats 4000000
noncomputable section
def cf:YA.Cf:={most:=.pure,always:=[154].map fun k=>(k,.heap),value:=.pure}
def s98:SFn:=by
 refine(?f:YA.Yt Tryz.prog cf 98 [[0,2],[15,16,17],[18],[1,3,19,20],[2,3,19,21,22,23],[25,26],[1,4,24],[4,24,28,29,30,31,32,33,34,35,36,37],[1,27],[2,27,38],[],[39,40],[],[43,44],[8,45,46,47,48],[49],[41,42,50],[],[54,55,56],[57,58,59,60,61,62,63],[64],[1,5,6,7,51,52,53,10,11,65,66],[2,10,11,65,67,68,69,70,71],[72],[6,51,52,53,73],[],[77,78,79],[13,80,81,82,83,84,85,86],[87],[1,5,7,74,75,76,14,88,89],[2,14,88,90],[1,5,7,74,75,76,91,92,93]]) ?s ?h;case h=>exact YA.rr
 exact fun s _=>s
def s9:SFn:=by
 refine(?f:YA.Yt Tryz.prog cf 9 [[0,2],[1,3,4,5,6]]) ?s ?h;case h=>exact YA.rr
 exact fun s _=>s
def s144:SFn:=by
 refine(?f:YA.Yt Tryz.prog cf 144 [[4],[0,1,5,6,7,8]]) ?s ?h;case h=>exact YA.rr
 exact fun s _=>s
def s191:SFn:=by
 refine(?f:YA.Yt Tryz.prog cf 191 [[0,2],[1,3,4,5,6,7,8,9,10,11]]) ?s ?h;case h=>exact YA.rr
 exact fun s _=>s
def s102:SFn:=by
 refine(?f:YA.Yt Tryz.prog cf 102 [[2],[6,7],[0,8],[2,8,9],[0],[],[13,14,15],[17,18,19,20],[3,10,11,12,45,42,44,43,41,40,33,32,31,5,16],[16,22,23,24,25],[3,10,11,12,45,42,44,43,41,40,33,32,31,5,21],[21,27,28,29,30,34],[3,10,11,12,45,42,44,43,41,40,33,32,31,5,26],[26,36,37,38,39,46],[3,10,11,12,45,42,44,43,41,40,33,32,31,5,35],[2,5,35,47,48,49],[50],[3,10,11,12,45,42,44,43,41,40,33,32,31]]) ?s ?h;case h=>exact YA.rr
 exact fun s _=>s
def s155:SFn:=by
 refine(?f:YA.Yt Tryz.prog cf 155 [[4],[0,1,5,6,7]]) ?s ?h;case h=>exact YA.rr
 exact fun s _=>s
def s157:SFn:=by
 refine(?f:YA.Yt Tryz.prog cf 157 [[0],[10],[11],[],[15,16,17],[5,18,19,20,21,22,23,24,25],[26],[12,13,14,27],[],[31,32,33],[7,34,35,36,37,38,39,40,41,42,43,44],[45],[1,28,29,30,46],[],[50,51,52],[9,53,54,55,56,57,58,59,60,61,62,63,64,65],[66],[3,47,48,49,67]]) ?s ?h;case h=>exact YA.rr
 exact fun s _=>s
def s89:SFn:=by
 refine(?f:YA.Yt Tryz.prog cf 89 [[0,2],[],[],[6],[7,10,11,12,13,14,15],[16,17,18,19,20],[25,26,27,28,29,30,31],[25,32,33,34,35,36,37,38,39,40,41,42,43,44,45,46,47,48,49],[5,50,51,52,53],[8,9],[1,3,4,24,23,22,21,54]] [(3,[(7,16),(12,16),(12,18)])]) ?s ?h;case h=>exact YA.rr
 exact fun s _=>s
def s198:SFn:=by
 refine(?f:YA.Yt Tryz.prog cf 198 [[0,1,4],[7,8,9],[2,3,10],[4,10,11],[],[15,16,17,18],[20,21,22,23,30],[2,3,12,13,14,59,52,58,57,54,56,55,53,51,44,36,43,42,41,38,40,39,37,35,29,25,28,27,26,24,6,5,19],[5,19,32,33,34,45],[2,3,12,13,14,59,52,58,57,54,56,55,53,51,44,36,43,42,41,38,40,39,37,35,29,25,28,27,26,24,6,31],[6,31,47,48,49,50,60],[2,3,12,13,14,59,52,58,57,54,56,55,53,51,44,36,43,42,41,38,40,39,37,35,29,25,28,27,26,24,46],[4,46,61],[2,3,12,13,14,59,52,58,57,54,56,55,53,51,44,36,43,42,41,38,40,39,37,35,29,25,28,27,26,24]]) ?s ?h;case h=>exact YA.rr
 exact fun s _=>s
def s200:SFn:=by
 refine(?f:YA.Yt Tryz.prog cf 200 [[0,1,4],[7,8,9],[2,3,10],[4,10,11],[],[15,16,17,18],[20,21,22,23,30],[2,3,12,13,14,53,52,51,44,36,43,42,41,38,40,39,37,35,29,25,28,27,26,24,6,5,19],[5,19,32,33,34,45],[2,3,12,13,14,53,52,51,44,36,43,42,41,38,40,39,37,35,29,25,28,27,26,24,6,31],[6,31,47,48,49,50,54],[2,3,12,13,14,53,52,51,44,36,43,42,41,38,40,39,37,35,29,25,28,27,26,24,46],[4,46,55],[2,3,12,13,14,53,52,51,44,36,43,42,41,38,40,39,37,35,29,25,28,27,26,24,56,57],[58],[58]]) ?s ?h;case h=>exact YA.rr
 exact fun s _=>s
def s151:SFn:=by
 refine(?f:YA.Yt Tryz.prog cf 151 [[4],[6],[],[9,10],[11,12,13,14,15],[0,1,7,8,5,16,17],[4,5,16,18],[0,1,7,8]]) ?s ?h;case h=>exact YA.rr
 exact fun s _=>s
def s201:SFn:=by
 refine(?f:YA.Yt Tryz.prog cf 201 [[2],[3],[0,4],[0,4,5,6,7]]) ?s ?h;case h=>exact YA.rr
 exact fun s _=>s
def s202:SFn:=by
 refine(?f:YA.Yt Tryz.prog cf 202 [[2],[3],[0,4],[0,4,5,6,7]]) ?s ?h;case h=>exact YA.rr
 exact fun s _=>s
def s192:SFn:=by
 refine(?f:YA.Yt Tryz.prog cf 192 [[3],[0,1,4,5,6]]) ?s ?h;case h=>exact YA.rr
 exact fun s _=>s
def s193:SFn:=by
 refine(?f:YA.Yt Tryz.prog cf 193 [[4],[0,1,5,6,7,8,9]]) ?s ?h;case h=>exact YA.rr
 exact fun s _=>s
def s194:SFn:=by
 refine(?f:YA.Yt Tryz.prog cf 194 [[6],[],[11,12,13,14],[18,19,20,21,22,35],[36,37,38,39,52],[],[],[53,54,55,56,57,58],[53],[59,60,61,62,63,64],[8,9,59,65,66,67],[10,68,69,70,71,72],[0,1,2,7,51,43,50,46,49,48,47,45,44,42,41,40,34,26,33,29,32,31,30,28,27,25,24,23,17,16,15,73]]) ?s ?h;case h=>exact YA.rr
 exact fun s _=>s
def s195:SFn:=by
 refine(?f:YA.Yt Tryz.prog cf 195 [[4],[0,1,5,6,7,8]]) ?s ?h;case h=>exact YA.rr
 exact fun s _=>s
def s253:SFn:=by
 refine(?f:YA.Yt Tryz.prog cf 253 [[2],[0,3,4,5,6,7,8]]) ?s ?h;case h=>exact YA.rr
 exact fun s _=>s
def s252:SFn:=by
 refine(?f:YA.Yt Tryz.prog cf 252 [[4],[0,1,5,6,7]]) ?s ?h;case h=>exact YA.rr
 exact fun s _=>s
def s277:SFn:=by
 refine(?f:YA.Yt Tryz.prog cf 277 [[4],[0,1,5,6,7,8,9]]) ?s ?h;case h=>exact YA.rr
 exact fun s _=>s
end
end Go.AM.SO
namespace Go.AM.SD
variable{l:List Rm}
def stR(l:List Rm)(k:Nat):Nat:=(l.getD k (rm0 0)).st
def sw(l:List Rm)(j:Nat):List Rm:=(l.set (j+1) (l.getD j (rm0 0))).set j (l.getD (j+1) (rm0 0))
def insJ:Nat->List Rm->List Rm|0,l=>l|j+1,l=>if stR l (j+1)<stR l j then insJ j (sw l j)else l
def isort(l:List Rm):Nat->List Rm|0=>l|i+1=>insJ (i+1) (isort l i)
theorem Qm0{j}:(sw l j).length=l.length:=by simp[sw]
theorem Qm1:∀(j:Nat)(l:List Rm),(insJ j l).length=l.length
 |0,l=>rfl|j+1,l=>by
  simp only[insJ];split;·rw[Qm1 j,Qm0]
  rfl
theorem QcI(l):∀i,(isort l i).length=l.length|0=>rfl|i+1=>by rw[isort,Qm1,QcI l i]
theorem Qi7{j k}(b:j+1<l.length):stR (sw l j) k=if k=j then stR l (j+1)else if k=j+1 then stR l j else stR l k:=by
 unfold stR sw;simp only[Zah,List.getElem?_set,ZbU];by_cases h1:k=j;·subst h1;rw[if_pos rfl,if_pos rfl,if_pos (by omega)];rfl
 rw[if_neg (fun e=>h1 e.symm),if_neg h1];by_cases a:k=j+1;·subst a;rw[if_pos rfl,if_pos rfl,if_pos b];rfl
 rw[if_neg (fun e=>a e.symm),if_neg a]
theorem QtY{j}(a:j+1<l.length):(sw l j).Perm l:=by
 have h1:l.getD j (rm0 0)=l[j]:=by simp[show j<l.length by omega]
 have b:l.getD (j+1) (rm0 0)=l[j+1]:=by simp[a]
 unfold sw;rw[h1,b];exact List.set_set_perm (i:=j+1) (j:=j) a (by omega)
theorem Qk8:∀(j:Nat)(l:List Rm),j<l.length->(insJ j l).Perm l
 |0,l,_=>List.Perm.refl _|j+1,l,h=>by
  simp only[insJ];split;·exact(Qk8 j (sw l j) (by rw[Qm0];omega)).trans (QtY h)
  exact List.Perm.refl _
theorem Qi8(l):∀i,i<l.length\/i=0->(isort l i).Perm l|0,_=>List.Perm.refl _|i+1,h=>by rw[isort];exact(Qk8 (i+1) _ (by rw[QcI];omega)).trans (Qi8 l i (by omega))
def SrtTo(l:List Rm)(i:Nat):Prop:=∀p q,p<q->q<=i->stR l p<=stR l q
theorem Qm2:∀(j i:Nat)(l:List Rm),j<=i->i<l.length->(∀p q,p<q->q<=i->p≠j->q≠j->stR l p<=stR l q)->(∀q,j<q->q<=i->stR l j<=stR l q)->SrtTo (insJ j l) i
 |0,i,l,m,hi,h1,f=>fun p q a b=>by
  rw[insJ];by_cases e:p=0;·subst e;exact f q a b
  exact h1 p q a b e (by omega)|j+1,i,l,m,hi,h1,f=>by
  rw[insJ];split
  ·rename_i n;refine Qm2 j i (sw l j) (by omega) (by rw[Qm0];exact hi) (fun p q a b hp h=>?_) (fun q b g=>?_)
   ·rw[Qi7 (by omega),Qi7 (by omega),if_neg hp,if_neg h];by_cases d:p=j+1;·subst d;rw[if_pos rfl,if_neg (by omega)];exact h1 j q (by omega) b (by omega) (by omega)
    rw[if_neg d];by_cases c:q=j+1;·subst c;rw[if_pos rfl];exact h1 p j (by omega) (by omega) d (by omega)
    rw[if_neg c];exact h1 p q a b d c
   rw[Qi7 (by omega),Qi7 (by omega),if_pos rfl,if_neg (by omega)];by_cases e:q=j+1;·subst e;rw[if_pos rfl];omega
   rw[if_neg e];exact f q (by omega) g
  rename_i k;intro p q a b;by_cases d:q=j+1
  ·subst d;by_cases c:p=j;·subst c;omega
   have :=h1 p j (by omega) (by omega) (by omega) (by omega);omega
  by_cases c:p=j+1;·subst c;exact f q a b
  exact h1 p q a b c d
theorem Qk9(l):∀i,i<l.length->SrtTo (isort l i) i|0,_=>fun p q a c=>by omega|i+1,h=>by have d:=Qk9 l i (by omega);rw[isort];refine Qm2 (i+1) (i+1) _ (Zau _) (by rw[QcI];exact h) (fun p q a c hp b=>d p q a (by omega)) (fun q c b=>by omega)
theorem QpV(h:0<l.length):(isort l (l.length-1)).Pairwise fun a b=>a.st<=b.st:=by rw[Zbf];intro i j hi d c;rw[QcI]at hi d;have:=Qk9 l (l.length-1) (by omega) i j c (by omega);unfold stR at this;rw[Zah,Zah,Zak (by rw[QcI];exact hi),Zak (by rw[QcI];exact d)]at this;exact this
def srtR(l:List Rm):List Rm:=isort l (l.length-1)
theorem Qre(l):(srtR l).Perm l:=by unfold srtR;cases l with|nil=>exact List.Perm.refl _|cons a l=>exact Qi8 _ _ (by simp)
theorem Qrf(l):(srtR l).Pairwise fun a b=>a.st<=b.st:=by unfold srtR;cases l with|nil=>exact List.Pairwise.nil|cons a l=>exact QpV (by simp)
theorem QsT(l):(srtR l).length=l.length:=QcI l _
end Go.AM.SD
namespace Go.AM.SE
open Go.Proofs Go.AM.SD
variable{a:Aut}{h:Heap}{es:List Ed}{fs:List Fr}{dead o t:List Nat}{r:List SOper}{N:NM}{i n:Nat}{left:Nat->Bool}{s:OE}{d:Option Nat}{P:Program}{Q:QC}{T:Tmps}
theorem Qi9:aEq (.nil 2) false .nilsl .nilsl=some (.bool true):=rfl
theorem Qja:aEq (.nil 2) false .nsl .nilsl=some (.bool false):=rfl
theorem QhO{sz bytes b2 c b a}:wM P N (aAppend .dyn n sz bytes (.sl b2 c b a sz) .nsl) d r dead fs n T h Q=wA P N (srcB (h.get b2) c b a sz) (some []) c a 0 sz bytes b2 d r dead fs n T h Q:=Qe9
theorem Qla:HSpec Tryz.prog 86 [.nilsl] .e (.sl 83 0 0 0 1) (hp [(83,.cells 0 [])]):=by refine ZcN 100 (Ok s86) rfl ?_;unfold s86;refine Zc1 @Qi9 ?_;exact⟨.inr trivial,_,rfl,⟨[(83,.nil)],rfl,au0,au7,au8⟩⟩
theorem Qlb:HSpec Tryz.prog 86 [.nsl] .e (.sl 83 0 0 0 1) (hp [(83,.cells 0 [])]):=by refine ZcN 100 (Ok s86) rfl ?_;unfold s86;refine Zc1 (Zc2 @Qja @QhO) ?_;exact⟨.inr trivial,_,rfl,⟨[(83,.blk 103 1)],rfl,au0,au7,au8⟩⟩
theorem clone56(l)(c:l.length<=1000000):HSpec Tryz.prog 86 [sliN l] .e (.sl 83 0 0 l.length 1) (hp [(83,.cells 0 (ints (nz l)))]):=by cases l with|nil=>exact HSpec.empty Qla Qlb|cons x l=>
 refine ZcN 100 (Ok s86) rfl ?_;have b:aEq (.nil 2) false (sliN (x::l)) .nilsl=some (.bool false):=rfl;have a:(ints (nz (x::l))).all AV.one=true:=by simp[ints,AV.one]
 generalize x::l=q at*;unfold s86;refine Zc1 (Zc2 b a) ?_;exact⟨.inr trivial,_,rfl,⟨[(83,.blk 103 1)],rfl,au0,au7,au8⟩⟩
abbrev frzE(es:List Ed)(left:Nat->Bool):Nat->AV:=fun k=>egsN (sOut es left k)
abbrev rowE(es:List Ed)(left:Nat->Bool):Nat->List AV:=fun k=>(sOut es left k).flatMap edC
abbrev ptrE(es:List Ed)(left:Nat->Bool):Nat->AV:=fun k=>.sl (300+k) 0 0 (sOut es left k).length 3
theorem Qav(es)(left)(l:List Nat):noRefs (l.map (frzE es left))=true:=QdU (fun x=>Qaj _) l
theorem Qb5(l:List Ed):(l.flatMap edC).length=l.length*3:=Qbe (f:=edC) (k:=3) (fun _=>rfl) l
theorem QtZ(l:List Ed):flatVs (l.flatMap edC)=true:=by induction l with|nil=>rfl|cons x l a=>rw[Zay];simp only[edC,ZaU,ZaW,flatVs,flatV,Zag];exact a
theorem Qrg{e}(h:es[i]?=some e)(v):sOut (es.take (i+1)) left v=sOut (es.take i) left v++if e.1=v/\left e.2.2=true then[e]else[]:=by unfold sOut;rw[ZaZ,h,Option.toList,Zbm];congr 1;by_cases h1:e.1=v<;>by_cases a:left e.2.2=true<;>simp[h1,a]
theorem QeN(es)(left)(v):(sOut es left v).length<=es.length:=by unfold sOut;exact Za7 _ _
theorem repN(n):(List.replicate n [AV.nilsl]).flatten=(List.range n).map fun _=>AV.nilsl:=by rw[List.map_const',ZbV];induction n with|zero=>rfl|succ n a=>rw[ZaY,Zbp,a];rfl
theorem QsU(h:i<n):((List.range n).map (frzE es left))[i]?=some (egsN (sOut es left i)):=Qk7 h
abbrev numF(o:List Nat):Nat->AV:=fun x=>.int .i64 (idx o x:Nat)
def mks(a:Aut)(i:Nat)(o:List Nat):List Nat:=(List.range i).filter fun j=>a.ms.contains (o.getD j 0)
theorem QjP{a}{i}{o}:(mks a i o).length<=i:=by unfold mks;exact ZaA (Za7 _ _) (by simp)
theorem QoX(h:i<=o.length):mks a i (o++t)=mks a i o:=by unfold mks;refine ZbJ fun j b=>?_;have:=Zat.1 b;rw[Zah,Zah,Za6 (by omega)]
theorem Qih{v}(h:o[i]?=some v):mks a (i+1) o=mks a i o++if a.ms.contains v then[i]else[]:=by
 unfold mks;rw[ZaK,Zbm];congr 1;have:o.getD i 0=v:=by rw[Zah,h];rfl
 rw[ZbM,this];rfl
theorem QgJ{j}{e}(h:es[j]?=some e):(es.take (j+1)).foldl (sEd i) s=sEd i ((es.take j).foldl (sEd i) s) e:=by rw[ZaZ,h,Option.toList,Za8];rfl
theorem QcZ:∀(es:List Ed)(s:OE),(es.foldl (sEd i) s).2.length=s.2.length+es.length|[],s=>by simp|e::es,s=>by rw[ZaR,QcZ es];unfold sEd;split<;>simp<;>omega
abbrev ablk(a:Aut):List AV:=[.sl 83 0 0 a.al.length 1,.int .i64 0,.nilsl,.nilsl]
theorem _root_.Go.AM.au11{p:Prop}(h:p:=by repeat(first|exact Zct|(refine Zcu ?_ ?_;·(first|exact Zcj|exact Rn.x1 rfl rfl|exact Rn.x2 rfl rfl|exact Rn.x3 rfl rfl|exact Rn.x4 rfl rfl|exact Rn.x5 rfl|exact Rn.x6 rfl|exact Rn.x7 rfl|(refine ZcF ?_ ?_;(first|rfl|(rw[ZaG];rfl));(first|rfl|(simp only[noRef,noRefs,SD.Qaa,SD.Qab,SD.Qaf,SD.Qag,SD.Qah,SD.Qai,SD.Qaj,SD.Qal,SD.Qan,SD.Qaq,SE.Qam,SE.Qao,SE.Qap,SE.Qav,SE.Qaz,SO.QaO,SO.Qau,SO.Qay,Zad,Zae,Zag];done)))|(refine Rn.fn ?_ ?_<;>(repeat'(first|exact ZcB|refine ZcC ?_ ?_|exact Zck rfl|exact Rn.x6 rfl|exact Rn.x2 rfl rfl|exact Rn.x5 rfl|exact Rn.x1 rfl rfl))))))):p:=h
theorem _root_.Go.AM.au12{p:Prop}(h:p:=by repeat'(first|exact Zcv|(refine Zcl ?_;first|rfl|(simp only[noRef,noRefs,SD.Qaa,SD.Qab,SD.Qaf,SD.Qag,SD.Qah,SD.Qai,SD.Qaj,SD.Qal,SD.Qan,SD.Qaq,SE.Qam,SE.Qao,SE.Qap,SE.Qav,SE.Qaz,SO.QaO,SO.Qau,SO.Qay,Zad,Zae,Zag];done))|exact ZcJ rfl|exact ZcB|exact(True.intro:RnM _ _ _ [] [])|refine ZcC ?_ ?_|(refine Zck ?_;first|rfl|(simp only[noRef,noRefs,SD.Qaa,SD.Qab,SD.Qaf,SD.Qag,SD.Qah,SD.Qai,SD.Qaj,SD.Qal,SD.Qan,SD.Qaq,SE.Qam,SE.Qao,SE.Qap,SE.Qav,SE.Qaz,SO.QaO,SO.Qau,SO.Qay,Zad,Zae,Zag];done))|exact Rn.x1 rfl rfl|exact Rn.x2 rfl rfl|exact Rn.x3 rfl rfl|exact Rn.x4 rfl rfl|exact Rn.x5 rfl|exact Rn.x6 rfl|exact Rn.x7 rfl|refine Zcx rfl rfl ?_|refine Zcw rfl rfl rfl ?_ ?_|refine Zcy rfl rfl rfl ?_ ?_|refine Zcz rfl rfl ?_ ?_|refine ZcA rfl rfl ?_ ?_)):p:=h
theorem super54(a)(u)(l)(hw:WfA a)(hl:l.length=a.n)(hel:a.es.length<=1000000)(hul:u.length<=1000000):FSpec Tryz.prog 123 [pv a u l] (.tup [aV (restr a (lf l)),sliN (sAll a (lf l)).1]):=by
 have hn5:=hw.n5;have hal:a.al.length<=32:=Qa4 32 a.al (by rw[ZaO];exact hw.al.imp fun h=>by omega) hw.al5;have hms:a.ms.length<=a.n:=Qa4 a.n a.ms hw.nd hw.msn;refine FSpec.of_wS 60 (Ok s123) rfl (by(try simp only[noRefs,Qam,Qao,Qaa,Qal,Qag,Qan,Qap,Qai,noRef,Zae,Zad])<;>rfl) (by simp only[noRef,noRefs,Qaa,Qag];rfl) ?_;unfold s123;refine Zc0 ?_;refine ch (ZcM (b:=83) (by(try simp only[noRefs,Qam,Qao,Qaa,Qal,Qag,Qan,Qap,Qai,noRef,Zae,Zad])<;>rfl) (clone56 a.al (by omega)) (by repeat(first|exact Fresh.e|exact Zco (by assumption) (by omega)|refine Zcp ?_ (by omega) (by omega))) rfl) ?_;by_cases h0:a.n=0
 ·have e:sAll a (lf l)=([],[]):=by unfold sAll;rw[h0];rfl
  have h0':(a.n:Int)=0:=by omega
  refine Zc1 h0' ?_;exact bFAOQ
 have h0':¬(a.n:Int)=0:=by omega
 have h0n:(0:Int)<(a.n:Int):=by omega
 have h0l:0<l.length:=by omega
 have hh0:(bls l).head?=some (.bool (lf l 0)):=by have:=Qa7 h0l;simpa using this
 by_cases hl0:lf l 0=true
 ·have hn':(a.n:Int)<=140737488355328:=by omega
  have hn24:(24:Int)*(a.n:Int)<=140737488355328:=by omega
  refine Zc1 (Zc7 h0' h0n hh0 hl0 hn' hn24 @repN) ?_;have hrn:∀k∈List.range a.n,k<1000000:=fun k hk=>by have:=Zat.1 hk;omega
  refine Qar 100 (fun i:Nat=>[(0,pv a u l),(2,.ptr 60 0 0),(4,.ptr 69 0 0),(5,.sl 78 0 0 a.n 1),(48,egsN a.es),(49,.int .i64 a.es.length),(50,.int .i64 i)]) (fun i=>[(60,.cells 0 [.nilsl,.int .i64 0,.nilsl,.nilsl]),(69,.cells 0 (ablk a)),(83,.cells 0 (ints (nz a.al))),(78,.cells 0 ((List.range a.n).map (ptrE (a.es.take i) (lf l))))]++rowsL (rowE (a.es.take i) (lf l)) (List.range a.n)) (fun i=>i<=a.es.length) (fun i=>a.es.length-i) 0 0 160 (fun _:Unit=>[(0,pv a u l),(2,.ptr 60 0 0),(4,.ptr 69 0 0),(5,.sl 78 0 0 a.n 1)]) (fun _=>[(60,.cells 0 [.nilsl,.int .i64 0,.nilsl,.nilsl]),(69,.cells 0 (ablk a)),(83,.cells 0 (ints (nz a.al))),(78,.cells 0 ((List.range a.n).map (frzE a.es (lf l))))]) (fun _=>True) ?_ (Zai _) ?_ ?_
  ·refine⟨[(60,.blk 60 0),(69,.blk 69 0),(83,.blk 83 0),(78,.blk 91 0)]++psL (fun _=>.nil) (List.range a.n),QfR (Qd3 Zbc hrn (fun _ _ _ _ _ b g b' g' h=>by cases h)) rfl (by decide) (fun _ _ _ _ _ _ _ b g h=>by cases h),Zcs,?_,au11⟩;refine Zcw rfl rfl rfl (Zcl rfl) (Zcw rfl rfl rfl ?_ (Zcw rfl rfl rfl (Zcl (Qaa _)) (Zcw rfl rfl rfl (Qfo fun k hk=>Rn.x4 rfl (Qfn hk (A:=[(60,.blk 60 0),(69,.blk 69 0),(83,.blk 83 0),(78,.blk 91 0)]) (by decide))) ?_)));·repeat'(first|exact Zcv|(refine Zcl ?_;first|rfl|(simp only[noRef,noRefs,Qaf,Zae,Zad,Zag,Qaa,Qal,Qag,Qan,Qap,Qaz,Qai,Qah,Qab,Qaq,Qaj,Qam,Qao,Qav];done))|exact ZcJ rfl|exact ZcB|exact(True.intro:RnM _ _ _ [] [])|refine ZcC ?_ ?_|(refine Zck ?_;first|rfl|(simp only[noRef,noRefs,Qaf,Zae,Zad,Zag,Qaa,Qal,Qag,Qan,Qap,Qaz,Qai,Qah,Qab,Qaq,Qaj,Qam,Qao,Qav];done))|exact Rn.x1 rfl rfl|exact Rn.x2 rfl rfl|exact Rn.x3 rfl rfl|exact Rn.x4 rfl rfl|exact Rn.x5 rfl|exact Rn.x6 rfl|exact Rn.x7 rfl|refine Zcx rfl rfl ?_|refine Zcw rfl rfl rfl ?_ ?_|refine Zcy rfl rfl rfl ?_ ?_|refine Zcz rfl rfl ?_ ?_|refine ZcA rfl rfl ?_ ?_)
   ·exact QdJ fun k hk=>Zcx rfl (Qfn hk (A:=[(60,.blk 60 0),(69,.blk 69 0),(83,.blk 83 0),(78,.blk 91 0)]) (by decide)) Zcv
  ·rintro i hi;have hr0:∀b,b<300->(hp (rowsL (rowE (a.es.take i) (lf l)) (List.range a.n))).get b=none:=fun b hb=>QfO hrn fun k hk=>by omega
   by_cases hlt:i<a.es.length
   ·obtain⟨e,he⟩:=Qak hlt;obtain⟨hfr,hto⟩:=hw.esn e (Zac he);have hroom:∀k:Nat,k<a.n->(hp (rowsL (rowE (a.es.take i) (lf l)) (List.range a.n))).get (300+k)=some (.cells 0 (rowE (a.es.take i) (lf l) k)):=fun k hk=>QcG Zbc hrn (Zat.2 hk);have hrow:=hroom e.1 hfr;have htl:e.2.2<l.length:=by omega
    have hstep:=Qrg (left:=lf l) he;have hpl:=QeN (a.es.take i) (lf l) e.1;rw[Zaq]at hpl;have hel2:=Qb5 (sOut (a.es.take i) (lf l) e.1);by_cases h1:lf l e.2.2=true
    ·refine Zc1 (Zc8 @ZaU @ZaW hlt (QaT he) hr0 hto (Qa7 htl) h1) ?_;refine Qdj [(69,[300+e.1])] rfl ?_ ?_;·exact Qea (a:=[103]) (b:=[123,300+e.1,122]) rfl rfl (fun x hx=>by simp only[Zax,Za1,or_false]at hx⊢;omega) Qk1
     have hfr1:e.1+1<=a.n:=by omega
     simp(disch:=first|omega|exact PairsOK.mk rfl|(simp only[lenW]<;>omega))only[hr0,hfr,hrow,hel2,Qk7 hfr,Qrc hfr,ZbV,hfr1,wW,wV,simprocAttr];refine⟨⟨⟨_,rfl,fun b hb=>hb⟩,trivial⟩,i+1,by omega,by omega,?_⟩;have hsb:∀k b g,(fun k=>if k=e.1 then Src.blk (300+e.1) 1 else Src.blk (300+k) 0) k=.blk b g->b=300+k:=by
      intro k b g h2;dsimp only at h2;split at h2<;>cases h2;·rename_i h3;rw[h3]
      ·rfl
     refine⟨[(60,.blk 60 0),(69,.blk 69 0),(83,.blk 83 0),(78,.blk 78 0)]++psL (fun k=>if k=e.1 then Src.blk (300+e.1) 1 else Src.blk (300+k) 0) (List.range a.n),QfR (A:=[(60,.blk 60 0),(69,.blk 69 0),(83,.blk 83 0),(78,.blk 78 0)]) (L:=[(60,_),(69,_),(83,_),(78,_)]) (Qd3 Zbc hrn (fun k hk j hj hkj b g b' g' h1 h2=>?_)) rfl (by decide) (fun p hp b g hb k hk b' g' h1=>?_),Zcs,?_,au11⟩;·have :=hsb k b g h1;have:=hsb j b' g' h2;omega
     ·exact bTEaO
     refine Zcw rfl rfl gg (Zcl rfl) (Zcw rfl rfl gg ?_ (Zcw rfl rfl gg (Zcl (Qaa _)) (Zcw rfl rfl gg (Qfo fun k hk=>?_) (QdJ fun k hk=>?_))));·repeat'(first|exact Zcv|(refine Zcl ?_;first|rfl|(simp only[noRef,noRefs,Qaf,Zae,Zad,Zag,Qaa,Qal,Qag,Qan,Qap,Qaz,Qai,Qah,Qab,Qaq,Qaj,Qam,Qao,Qav];done))|exact ZcJ rfl|exact ZcB|exact(True.intro:RnM _ _ _ [] [])|refine ZcC ?_ ?_|(refine Zck ?_;first|rfl|(simp only[noRef,noRefs,Qaf,Zae,Zad,Zag,Qaa,Qal,Qag,Qan,Qap,Qaz,Qai,Qah,Qab,Qaq,Qaj,Qam,Qao,Qav];done))|exact Rn.x1 rfl rfl|exact Rn.x2 rfl rfl|exact Rn.x3 rfl rfl|exact Rn.x4 rfl rfl|exact Rn.x5 rfl|exact Rn.x6 rfl|exact Rn.x7 rfl|refine Zcx rfl rfl ?_|refine Zcw rfl rfl rfl ?_ ?_|refine Zcy rfl rfl rfl ?_ ?_|refine Zcz rfl rfl ?_ ?_|refine ZcA rfl rfl ?_ ?_)
     ·have hw2:=Qfn (s:=fun k=>if k=e.1 then Src.blk (300+e.1) 1 else Src.blk (300+k) 0) hk (A:=[(60,.blk 60 0),(69,.blk 69 0),(83,.blk 83 0),(78,.blk 78 0)]) (by decide);unfold updF ptrE;rw[hstep];by_cases h2:k=e.1;·subst h2;rw[if_pos rfl,if_pos ⟨rfl,h1⟩,Zaf];exact Rn.x1 rfl (by rw[hw2];simp)
      ·rw[if_neg h2,if_neg (fun h3=>h2 h3.1.symm),Zas];exact Rn.x1 rfl (by rw[hw2];simp[h2])
     ·have hw2:=Qfn (s:=fun k=>if k=e.1 then Src.blk (300+e.1) 1 else Src.blk (300+k) 0) hk (A:=[(60,.blk 60 0),(69,.blk 69 0),(83,.blk 83 0),(78,.blk 78 0)]) (by decide);have hkn:=Zat.1 hk;by_cases h2:k=e.1;·subst h2;refine Zcw rfl (b:=300+e.1) (g:=1) (by rw[hw2];simp) gg (RnL.eq ?_ (Qag _)) Zcv;unfold SE.rowE;rw[hstep,if_pos ⟨rfl,h1⟩,Zao];rfl
      ·refine Zcw rfl (b:=300+k) (g:=0) (ds:=SE.rowE (a.es.take i) (lf l) k) (by rw[hw2];simp[h2]) (by first|(simp(disch:=omega)only[QaE,QaL,Qa1,hroom k hkn];done)|(simp(disch:=omega)only[QaE,QaL,Qa1,hroom k hkn];rfl)) (RnL.eq ?_ (Qag _)) Zcv;unfold SE.rowE;rw[hstep,if_neg (fun h3=>h2 h3.1.symm),Zas]
    ·rw[Zam]at h1;refine Zc1 (Zc8 @ZaU @ZaW hlt (QaT he) hr0 hto (Qa7 htl) h1) ?_;refine⟨i+1,by omega,by omega,?_⟩;have hsb:∀k b g,(fun k=>Src.blk (300+k) 0) k=.blk b g->b=300+k:=by intro k b g h2;cases h2;rfl
     have hno:∀k,sOut (a.es.take (i+1)) (lf l) k=sOut (a.es.take i) (lf l) k:=fun k=>by rw[hstep,if_neg (by rw[h1];simp),Zas]
     refine⟨[(60,.blk 60 0),(69,.blk 69 0),(83,.blk 83 0),(78,.blk 78 0)]++psL (fun k=>Src.blk (300+k) 0) (List.range a.n),QfR (A:=[(60,.blk 60 0),(69,.blk 69 0),(83,.blk 83 0),(78,.blk 78 0)]) (L:=[(60,_),(69,_),(83,_),(78,_)]) (Qd3 Zbc hrn (fun k hk j hj hkj b g b' g' h1 h2=>?_)) rfl (by decide) (fun p hp b g hb k hk b' g' h1=>?_),Zcs,?_,au11⟩;·have :=hsb k b g h1;have:=hsb j b' g' h2;omega
     ·exact bTEaO
     refine Zcw rfl rfl gg (Zcl rfl) (Zcw rfl rfl gg ?_ (Zcw rfl rfl gg (Zcl (Qaa _)) (Zcw rfl rfl gg (Qfo fun k hk=>?_) (QdJ fun k hk=>?_))));·repeat'(first|exact Zcv|(refine Zcl ?_;first|rfl|(simp only[noRef,noRefs,Qaf,Zae,Zad,Zag,Qaa,Qal,Qag,Qan,Qap,Qaz,Qai,Qah,Qab,Qaq,Qaj,Qam,Qao,Qav];done))|exact ZcJ rfl|exact ZcB|exact(True.intro:RnM _ _ _ [] [])|refine ZcC ?_ ?_|(refine Zck ?_;first|rfl|(simp only[noRef,noRefs,Qaf,Zae,Zad,Zag,Qaa,Qal,Qag,Qan,Qap,Qaz,Qai,Qah,Qab,Qaq,Qaj,Qam,Qao,Qav];done))|exact Rn.x1 rfl rfl|exact Rn.x2 rfl rfl|exact Rn.x3 rfl rfl|exact Rn.x4 rfl rfl|exact Rn.x5 rfl|exact Rn.x6 rfl|exact Rn.x7 rfl|refine Zcx rfl rfl ?_|refine Zcw rfl rfl rfl ?_ ?_|refine Zcy rfl rfl rfl ?_ ?_|refine Zcz rfl rfl ?_ ?_|refine ZcA rfl rfl ?_ ?_)
     ·have hw2:=Qfn (s:=fun k=>Src.blk (300+k) 0) hk (A:=[(60,.blk 60 0),(69,.blk 69 0),(83,.blk 83 0),(78,.blk 78 0)]) (by decide);unfold ptrE;rw[hno];exact Rn.x1 rfl hw2
     ·have hw2:=Qfn (s:=fun k=>Src.blk (300+k) 0) hk (A:=[(60,.blk 60 0),(69,.blk 69 0),(83,.blk 83 0),(78,.blk 78 0)]) (by decide);have hkn:=Zat.1 hk;refine Zcw rfl (b:=300+k) (g:=0) (ds:=SE.rowE (a.es.take i) (lf l) k) hw2 (by first|(simp(disch:=omega)only[QaE,QaL,Qa1,hroom k hkn];done)|(simp(disch:=omega)only[QaE,QaL,Qa1,hroom k hkn];rfl)) (RnL.eq ?_ (Qag _)) Zcv;unfold SE.rowE;rw[hno]
   ·have e:i=a.es.length:=by omega
    subst e;refine Zc1 (Zc3 @ZaU @ZaW hlt) ?_;refine⟨(),[(60,.blk 60 0),(69,.blk 69 0),(83,.blk 83 0),(78,.blk 78 0)],rfl,Zcs,?_,au11⟩;refine Zcw rfl rfl gg (Zcl rfl) (Zcw rfl rfl gg ?_ (Zcw rfl rfl gg (Zcl (Qaa _)) (Zcw rfl rfl gg (Qfo fun k hk=>?_) Zcv)));·repeat'(first|exact Zcv|(refine Zcl ?_;first|rfl|(simp only[noRef,noRefs,Qaf,Zae,Zad,Zag,Qaa,Qal,Qag,Qan,Qap,Qaz,Qai,Qah,Qab,Qaq,Qaj,Qam,Qao,Qav];done))|exact ZcJ rfl|exact ZcB|exact(True.intro:RnM _ _ _ [] [])|refine ZcC ?_ ?_|(refine Zck ?_;first|rfl|(simp only[noRef,noRefs,Qaf,Zae,Zad,Zag,Qaa,Qal,Qag,Qan,Qap,Qaz,Qai,Qah,Qab,Qaq,Qaj,Qam,Qao,Qav];done))|exact Rn.x1 rfl rfl|exact Rn.x2 rfl rfl|exact Rn.x3 rfl rfl|exact Rn.x4 rfl rfl|exact Rn.x5 rfl|exact Rn.x6 rfl|exact Rn.x7 rfl|refine Zcx rfl rfl ?_|refine Zcw rfl rfl rfl ?_ ?_|refine Zcy rfl rfl rfl ?_ ?_|refine Zcz rfl rfl ?_ ?_|refine ZcA rfl rfl ?_ ?_)
    ·have hkn:=Zat.1 hk;have hr:=QcG (f:=SE.rowE a.es (lf l)) Zbc hrn hk;have b1:Nat.beq (300+k) 60=false:=by rw[ZaJ];simp;try omega
     have b2:Nat.beq (300+k) 69=false:=by rw[ZaJ];simp;try omega
     have b3:Nat.beq (300+k) 83=false:=by rw[ZaJ];simp;try omega
     have b4:Nat.beq (300+k) 78=false:=by rw[ZaJ];simp;try omega
     exact ZcD (by first|(simp(disch:=omega)only[QaE,QaL,Qa1,hr];done)|(simp(disch:=omega)only[QaE,QaL,Qa1,hr];rfl)) (by simp[srcNew,b1,b2,b3,b4]) (by simp) rfl (Qb5 _) (Zcl (Qag _))
  rintro _ _;refine Zc0 ?_;refine Qbh ?_;refine Zc0 ?_;refine QbK (x:=0) (f:=numF [0]) (l:=[]) (by simp) (by decide) ?_;refine Zc0 ?_;have hms0:mks a 0 [0]=[]:=rfl;have hsi:SI a.n a.es (lf l) 0 (([0],[]):OE):=by refine⟨⟨by simp,fun x hx=>by simp at hx;omega⟩,fun x hx=>by simp at hx;subst hx;exact hl0,Zai _,fun j v hj=>by omega,by simp⟩
  have hq0:sQ a.es (lf l) (a.n+1) 0 ([0],[])=sAll a (lf l):=by unfold sAll;rw[hl0,Zad,if_pos (by simp;omega)]
  refine Qar 180 (fun t:Nat×OE=>[(0,pv a u l),(2,.ptr 60 0 0),(4,.ptr 69 0 0),(5,.sl 78 0 0 a.n 1),(8,.map 74 0),(9,.sl 75 0 0 t.2.1.length 1),(10,.int .i64 t.1)]) (fun t=>[(60,.cells 0 [.nilsl,.int .i64 0,.nilsl,.nilsl]),(69,.cells 0 [.sl 83 0 0 a.al.length 1,.int .i64 0,.sl 77 0 0 (mks a t.1 t.2.1).length 1,.sl 76 0 0 t.2.2.length 3]),(83,.cells 0 (ints (nz a.al))),(78,.cells 0 ((List.range a.n).map (frzE a.es (lf l)))),(74,.map 0 (mapF .i64 (numF t.2.1) t.2.1)),(75,.cells 0 (ints (nz t.2.1))),(76,.cells 0 (t.2.2.flatMap edC)),(77,.cells 0 (ints (nz (mks a t.1 t.2.1))))]) (fun t=>t.1<=a.n/\SI a.n a.es (lf l) t.1 t.2/\t.2.2.length<=t.1*1000000/\sQ a.es (lf l) (a.n+1-t.1) t.1 t.2=sAll a (lf l)) (fun t=>a.n+1-t.1) (0,([0],[])) 2 260 (fun _:Unit=>[(2,.ptr 60 0 0),(4,.ptr 69 0 0),(9,.sl 75 0 0 (sAll a (lf l)).1.length 1)]) (fun _=>[(60,.cells 0 [.nilsl,.int .i64 0,.nilsl,.nilsl]),(69,.cells 0 [.sl 83 0 0 a.al.length 1,.int .i64 0,.sl 77 0 0 (restr a (lf l)).ms.length 1,.sl 76 0 0 (restr a (lf l)).es.length 3]),(83,.cells 0 (ints (nz a.al))),(75,.cells 0 (ints (nz (sAll a (lf l)).1))),(76,.cells 0 ((restr a (lf l)).es.flatMap edC)),(77,.cells 0 (ints (nz (restr a (lf l)).ms)))]) (fun _=>True) ?_ ⟨Zai _,hsi,Zai _,hq0⟩ ?_ ?_
  ·dsimp only;rw[hms0];refine⟨[(60,.blk 60 0),(69,.blk 69 0),(83,.blk 83 0),(78,.blk 78 0),(74,.blk 160 0),(75,.blk 164 0),(76,.nil),(77,.nil)],rfl,Zcs,?_,au11⟩;repeat'(first|exact Zcv|(refine Zcl ?_;first|rfl|(simp only[noRef,noRefs,Qaf,Zae,Zad,Zag,Qaa,Qal,Qag,Qan,Qap,Qaz,Qai,Qah,Qab,Qaq,Qaj,Qam,Qao,Qav];done))|exact ZcJ rfl|exact ZcB|exact(True.intro:RnM _ _ _ [] [])|refine ZcC ?_ ?_|(refine Zck ?_;first|rfl|(simp only[noRef,noRefs,Qaf,Zae,Zad,Zag,Qaa,Qal,Qag,Qan,Qap,Qaz,Qai,Qah,Qab,Qaq,Qaj,Qam,Qao,Qav];done))|exact Rn.x1 rfl rfl|exact Rn.x2 rfl rfl|exact Rn.x3 rfl rfl|exact Rn.x4 rfl rfl|exact Rn.x5 rfl|exact Rn.x6 rfl|exact Rn.x7 rfl|refine Zcx rfl rfl ?_|refine Zcw rfl rfl rfl ?_ ?_|refine Zcy rfl rfl rfl ?_ ?_|refine Zcz rfl rfl ?_ ?_|refine ZcA rfl rfl ?_ ?_)
   refine ZcO (l:=[0]) fun x hx=>?_;have:x=0:=by simpa using hx
   subst this;exact Zck rfl
  ·rintro⟨i,s⟩⟨hi,hsi,hsl,hq⟩;dsimp only at hi hsi hsl hq⊢;have hfl:=hsi.fi.len;have hile:=hsi.le;by_cases hlt:i<s.1.length
   ·obtain⟨v,hv⟩:=Qak hlt;have hvn:=hsi.fi.lt v (Zac hv);have hin':i<a.n:=by omega
    have hsi':=hsi.step hw.esn hv;have hq':sQ a.es (lf l) (a.n+1-(i+1)) (i+1) (sRow a.es (lf l) i v s)=sAll a (lf l):=by rw[<-hq,show a.n+1-i=(a.n+1-(i+1))+1 by omega];simp only[sQ,hv]
    have hol:=QeN a.es (lf l) v;have hrow:=fun j=>QdC (n:=a.n) (left:=lf l) i ((sOut a.es (lf l) v).take j) s (fun e he=>⟨(hw.esn e (Qbd.1 (ZaV he)).1).2,(Qbd.1 (ZaV he)).2.2⟩) hsi.fi hsi.lft;have hmsl:=@QjP a i s.1;have hmsk:∀j,mks a i (((sOut a.es (lf l) v).take j).foldl (sEd i) s).1=mks a i s.1:=fun j=>by obtain⟨_,_,⟨t,ht⟩,_⟩:=hrow j;rw[ht,QoX hile]
    generalize hmm:mks a i s.1=M at*;simp(disch:=first|omega|exact PairsOK.mk rfl|(simp only[lenW]<;>omega))only[hlt,Qb4 (nz_at hv),hvn,QsU hvn,wW,wV,simprocAttr];refine Qar 300 (fun j:Nat=>[(90,egsN (sOut a.es (lf l) v)),(91,.int .i64 (sOut a.es (lf l) v).length),(0,pv a u l),(2,.ptr 60 0 0),(4,.ptr 69 0 0),(5,.sl 78 0 0 a.n 1),(8,.map 74 0),(9,.sl 75 0 0 (((sOut a.es (lf l) v).take j).foldl (sEd i) s).1.length 1),(10,.int .i64 i),(92,.int .i64 j)]) (fun j=>[(60,.cells 0 [.nilsl,.int .i64 0,.nilsl,.nilsl]),(69,.cells 0 [.sl 83 0 0 a.al.length 1,.int .i64 0,.sl 77 0 0 M.length 1,.sl 76 0 0 (((sOut a.es (lf l) v).take j).foldl (sEd i) s).2.length 3]),(83,.cells 0 (ints (nz a.al))),(78,.cells 0 ((List.range a.n).map (frzE a.es (lf l)))),(74,.map 0 (mapF .i64 (numF (((sOut a.es (lf l) v).take j).foldl (sEd i) s).1) (((sOut a.es (lf l) v).take j).foldl (sEd i) s).1)),(75,.cells 0 (ints (nz (((sOut a.es (lf l) v).take j).foldl (sEd i) s).1))),(76,.cells 0 ((((sOut a.es (lf l) v).take j).foldl (sEd i) s).2.flatMap edC)),(77,.cells 0 (ints (nz M)))]) (fun j=>j<=(sOut a.es (lf l) v).length) (fun j=>(sOut a.es (lf l) v).length-j) 0 4 400 (fun _:Unit=>[(0,pv a u l),(2,.ptr 60 0 0),(4,.ptr 69 0 0),(5,.sl 78 0 0 a.n 1),(8,.map 74 0),(9,.sl 75 0 0 (sRow a.es (lf l) i v s).1.length 1),(10,.int .i64 i)]) (fun _=>[(60,.cells 0 [.nilsl,.int .i64 0,.nilsl,.nilsl]),(69,.cells 0 [.sl 83 0 0 a.al.length 1,.int .i64 0,.sl 77 0 0 M.length 1,.sl 76 0 0 (sRow a.es (lf l) i v s).2.length 3]),(83,.cells 0 (ints (nz a.al))),(78,.cells 0 ((List.range a.n).map (frzE a.es (lf l)))),(74,.map 0 (mapF .i64 (numF (sRow a.es (lf l) i v s).1) (sRow a.es (lf l) i v s).1)),(75,.cells 0 (ints (nz (sRow a.es (lf l) i v s).1))),(76,.cells 0 ((sRow a.es (lf l) i v s).2.flatMap edC)),(77,.cells 0 (ints (nz M)))]) (fun _=>True) ?_ (Zai _) ?_ ?_
    ·exact bfENp
    ·rintro j hj;by_cases hjl:j<(sOut a.es (lf l) v).length
     ·obtain⟨e,he⟩:=Qak hjl;have hem:=Qbd.1 (Zac he);have hto:=(hw.esn e hem.1).2;obtain⟨k1,_,_,_,_⟩:=hrow j;have hfi:=k1.len;have hnd:=k1.nd;have hstep:=QgJ (i:=i) (s:=s) he;have hsl2:=QcZ (i:=i) ((sOut a.es (lf l) v).take j) s;rw[Zaq]at hsl2;generalize((sOut a.es (lf l) v).take j).foldl (sEd i) s=t at*;have hel2:=Qb5 t.2;by_cases hc:e.2.2∈t.1
      ·have h2:sEd i t e=(t.1,t.2++[(i,e.2.1,idx t.1 e.2.2)]):=if_pos (by simpa using hc);rw[h2]at hstep;refine Zc1 (Zc2 hjl (QaT he)) ?_;refine QcT ?_;refine Zc0 ?_;refine wK_in hc ?_;refine Zc1 hel2 ?_;refine⟨j+1,by omega,by omega,?_⟩;rw[hstep,Zao,Zaf];refine⟨[(60,.blk 60 0),(69,.blk 69 0),(83,.blk 83 0),(78,.blk 78 0),(74,.blk 74 0),(75,.blk 75 0),(76,.blk 76 1),(77,.blk 77 0)],rfl,au0,?_,au11⟩;repeat'(first|exact Zcv|(refine Zcl ?_;first|rfl|(simp only[noRef,noRefs,Qaf,Zae,Zad,Zag,Qaa,Qal,Qag,Qan,Qap,Qaz,Qai,Qah,Qab,Qaq,Qaj,Qam,Qao,Qav];done))|exact ZcJ rfl|exact ZcB|exact(True.intro:RnM _ _ _ [] [])|refine ZcC ?_ ?_|(refine Zck ?_;first|rfl|(simp only[noRef,noRefs,Qaf,Zae,Zad,Zag,Qaa,Qal,Qag,Qan,Qap,Qaz,Qai,Qah,Qab,Qaq,Qaj,Qam,Qao,Qav];done))|exact Rn.x1 rfl rfl|exact Rn.x2 rfl rfl|exact Rn.x3 rfl rfl|exact Rn.x4 rfl rfl|exact Rn.x5 rfl|exact Rn.x6 rfl|exact Rn.x7 rfl|refine Zcx rfl rfl ?_|refine Zcw rfl rfl rfl ?_ ?_|refine Zcy rfl rfl rfl ?_ ?_|refine Zcz rfl rfl ?_ ?_|refine ZcA rfl rfl ?_ ?_)
       exact ZcO fun x _=>Zck rfl
      ·have h2:sEd i t e=(t.1++[e.2.2],t.2++[(i,e.2.1,t.1.length)]):=if_neg (by simpa using hc);rw[h2]at hstep;refine Zc1 (Zc2 hjl (QaT he)) ?_;refine QcT ?_;refine Zc0 ?_;refine QqX hc ?_;refine Zc1 hel2 ?_;refine Qbh ?_;refine Zc0 ?_;refine QbK hc (by decide) ?_;have hm:mapF .i64 (updF (numF t.1) e.2.2 (.int .i64 (t.1.length:Int))) (t.1++[e.2.2])=mapF .i64 (numF (t.1++[e.2.2])) (t.1++[e.2.2]):=by
        refine QpU fun x hx=>?_;unfold updF numF;split;·rename_i hx2;subst hx2;rw[Qej hc]
        ·rename_i hx2;have:x∈t.1:=by
          rcases ZaE.1 hx with h3|h3;·exact h3
          ·exact absurd (by simpa using h3) hx2
         rw[QdB this]
       refine Zc1 (Zc2 hm hel2) ?_;refine⟨j+1,by omega,by omega,?_⟩;rw[hstep,Zao,Zaf];dsimp only;rw[Zaf,QaQ,QaF];refine⟨[(60,.blk 60 0),(69,.blk 69 0),(83,.blk 83 0),(78,.blk 78 0),(74,.blk 74 0),(75,.blk 75 1),(76,.blk 76 1),(77,.blk 77 0)],rfl,au0,?_,au11⟩;repeat'(first|exact Zcv|(refine Zcl ?_;first|rfl|(simp only[noRef,noRefs,Qaf,Zae,Zad,Zag,Qaa,Qal,Qag,Qan,Qap,Qaz,Qai,Qah,Qab,Qaq,Qaj,Qam,Qao,Qav];done))|exact ZcJ rfl|exact ZcB|exact(True.intro:RnM _ _ _ [] [])|refine ZcC ?_ ?_|(refine Zck ?_;first|rfl|(simp only[noRef,noRefs,Qaf,Zae,Zad,Zag,Qaa,Qal,Qag,Qan,Qap,Qaz,Qai,Qah,Qab,Qaq,Qaj,Qam,Qao,Qav];done))|exact Rn.x1 rfl rfl|exact Rn.x2 rfl rfl|exact Rn.x3 rfl rfl|exact Rn.x4 rfl rfl|exact Rn.x5 rfl|exact Rn.x6 rfl|exact Rn.x7 rfl|refine Zcx rfl rfl ?_|refine Zcw rfl rfl rfl ?_ ?_|refine Zcy rfl rfl rfl ?_ ?_|refine Zcz rfl rfl ?_ ?_|refine ZcA rfl rfl ?_ ?_)
       exact ZcO fun x _=>Zck rfl
     ·have e:j=(sOut a.es (lf l) v).length:=by omega
      subst e;refine Zc1 hjl ?_;refine⟨(),?_⟩;exact bfENp
    rintro _ _;have hfull:=hmsk (sOut a.es (lf l) v).length;rw[Zan]at hfull;have hfull:mks a i (sRow a.es (lf l) i v s).1=M:=hfull;have hv':(sRow a.es (lf l) i v s).1[i]?=some v:=by obtain⟨_,_,⟨t,ht⟩,_⟩:=hrow (sOut a.es (lf l) v).length;rw[Zan]at ht;have ht:(sRow a.es (lf l) i v s).1=s.1++t:=ht;rw[ht,Za6 hlt];exact hv
    have hmn:=Qih (a:=a) hv';rw[hfull]at hmn;have hsl3:(sRow a.es (lf l) i v s).2.length=s.2.length+(sOut a.es (lf l) v).length:=QcZ _ _;have hfi':=hsi'.fi.len;have hii:i<(sRow a.es (lf l) i v s).1.length:=(Zaj.1 hv').1;generalize hrr:sRow a.es (lf l) i v s=R at*;have hc:=contains62 (nz a.ms) v (by simp;omega);rw[Qb2,Qfj]at hc;by_cases hmv:a.ms.contains v=true
    ·rw[if_pos hmv]at hmn;rw[hmv]at hc;refine Zc1 (Zc2 hii (Qb4 (nz_at hv'))) ?_;refine cp hc ?_;refine Zc0 ?_;refine⟨(i+1,R),by dsimp only;omega,⟨hin',hsi',by dsimp only;omega,hq'⟩,?_⟩;dsimp only;rw[hmn,Zaf,QaQ,QaF];refine⟨[(60,.blk 60 0),(69,.blk 69 0),(83,.blk 83 0),(78,.blk 78 0),(74,.blk 74 0),(75,.blk 75 0),(76,.blk 76 0),(77,.blk 77 1)],rfl,au0,?_,au11⟩;repeat'(first|exact Zcv|(refine Zcl ?_;first|rfl|(simp only[noRef,noRefs,Qaf,Zae,Zad,Zag,Qaa,Qal,Qag,Qan,Qap,Qaz,Qai,Qah,Qab,Qaq,Qaj,Qam,Qao,Qav];done))|exact ZcJ rfl|exact ZcB|exact(True.intro:RnM _ _ _ [] [])|refine ZcC ?_ ?_|(refine Zck ?_;first|rfl|(simp only[noRef,noRefs,Qaf,Zae,Zad,Zag,Qaa,Qal,Qag,Qan,Qap,Qaz,Qai,Qah,Qab,Qaq,Qaj,Qam,Qao,Qav];done))|exact Rn.x1 rfl rfl|exact Rn.x2 rfl rfl|exact Rn.x3 rfl rfl|exact Rn.x4 rfl rfl|exact Rn.x5 rfl|exact Rn.x6 rfl|exact Rn.x7 rfl|refine Zcx rfl rfl ?_|refine Zcw rfl rfl rfl ?_ ?_|refine Zcy rfl rfl rfl ?_ ?_|refine Zcz rfl rfl ?_ ?_|refine ZcA rfl rfl ?_ ?_)
     exact ZcO fun x _=>Zck rfl
    ·rw[if_neg hmv,Zas]at hmn;rw[Zam]at hmv;rw[hmv]at hc;refine Zc1 (Zc2 hii (Qb4 (nz_at hv'))) ?_;refine cp hc ?_;refine Zc0 ?_;refine⟨(i+1,R),by dsimp only;omega,⟨hin',hsi',by dsimp only;omega,hq'⟩,?_⟩;dsimp only;rw[hmn];exact bfENp
   ·have hv:s.1[i]?=none:=ZaF (by omega);have hqf:s=sAll a (lf l):=by rw[<-hq,show a.n+1-i=(a.n-i)+1 by omega];simp only[sQ,hv]
    have hil:i=s.1.length:=by omega
    have hmf:mks a i s.1=(restr a (lf l)).ms:=by rw[hil,hqf];rfl
    have hef:s.2=(restr a (lf l)).es:=by rw[hqf];rfl
    refine Zc1 hlt ?_;refine⟨(),?_⟩;rw[hmf,hef,<-hqf];exact⟨[(60,.blk 60 0),(69,.blk 69 0),(83,.blk 83 0),(75,.blk 75 0),(76,.blk 76 0),(77,.blk 77 0)],rfl,au0,au12,au11⟩
  rintro _ _;have hra:(restr a (lf l)).al=a.al:=rfl;have hrn2:(restr a (lf l)).n=(sAll a (lf l)).1.length:=rfl;refine Zc0 ?_;refine⟨.inr trivial,_,rfl,?_⟩;refine RnO.tup (ZcG (RnO.agg (ZcG (RnO.slm (g:=0) rfl rfl rfl (QcH _) (by simp[ints,hra])) (ZcG (RnO.flat rfl) (ZcG (RnO.slm (g:=0) rfl rfl rfl (QcH _) (by simp[ints])) (ZcG (RnO.slm (g:=0) rfl rfl rfl (QtZ _) (Qb5 _)) RnOL.nil))))) (ZcG (RnO.slm (g:=0) rfl rfl rfl (QcH _) (by simp[ints])) RnOL.nil))
 ·rw[Zam]at hl0;have e:sAll a (lf l)=([],[]):=by unfold sAll;rw[hl0,Bool.and_false,if_neg (by decide)];unfold sQ;rfl
  refine Zc1 (Zc4 h0' h0n hh0 hl0) ?_;exact bFAOQ
end Go.AM.SE
