/- A part of the proof of GuardsTextsCardSaid: lemmas on the way (AnCzg, AnUb, AnVa, AnVb, AnUc, AnVk, AnVe, AmTn, AnGb, AnGc, AnGe, AmTo, AnGg, AmTp, AnHd, AmTy, AnUh, AnUe, AnUg, AnUi, AnUj, AnUp, AnWh, AnXt, AnXu, AnXv, AnXw, AnXy). Conditions: none of ours. -/
import Derived.Test.YtikknocmfjfohaaGreatDoorProg
import Derived.KernelRfl
import Derived.Test.YtikknocmfjfohaaGreatDoorAmU13
set_option linter.unusedSectionVars false
set_option maxHeartbeats 32000000
set_option maxRecDepth 100000
set_option linter.unusedVariables false
set_option linter.unusedSimpArgs false
namespace Go.AM.SO
open Go.Proofs Go.AM.SD Go.AM.SE
def itN (x:List UInt8×Aut):List AV:=[.str x.1,sliN x.2.al,.int .i64 (x.2.n:Int),sliN x.2.ms,egsN x.2.es]
abbrev itsN (l:List (List UInt8×Aut)):AV:= .fsl (l.flatMap itN) l.length 5
def nmL' (ch:UInt8) (l:List (Nat×Aut)):List (List UInt8×Aut):=l.map fun x=>([ch,UInt8.ofNat (48+x.1)],x.2)
theorem Qhv {ch:UInt8} {l:List (Nat×Aut)}:its ch l=itsN (nmL' ch l):=by
 unfold nmL'
 have:(l.map fun x=>([ch,UInt8.ofNat (48+x.1)],x.2)).flatMap itN=l.flatMap (itC ch):=by
  rw[List.flatMap_map];rfl
 rw[itsN,this,List.length_map]
theorem Qbz (l:List (List UInt8×Aut)):noRefs (l.flatMap itN)=true:=Qa3 (fun x=>by simp only[itN,noRefs,noRef,Qaa,Qaq];rfl) l
theorem QcX (l:List (List UInt8×Aut)):noRef (itsN l)=true:=by simp only[noRef];exact Qbz l
theorem Qfy (l:List (List UInt8×Aut)):(l.flatMap itN).length=l.length*5:=QbD (k:=5) (fun _=>rfl) l
theorem Ql2 {l:List (List UInt8×Aut)} {i:Nat} {x:List UInt8×Aut} (h:l[i]?=some x):(l.flatMap itN).drop (i*5)= .str x.1::sliN x.2.al:: .int .i64 (x.2.n:Int)::sliN x.2.ms::egsN x.2.es::(l.drop (i+1)).flatMap itN:=Qbr (f:=itN) (k:=5) (fun _=>rfl) h
def evl (e:Nat->Evt):List (List UInt8×Evt):=(List.range 5).map fun i=>([UInt8.ofNat (97+i)],e i)
def evN (x:List UInt8×Evt):List AV:=[.str x.1,.bool x.2.c,.bool x.2.o,.bool x.2.f,.int .i64 (x.2.flt:Int)]
theorem QpM (l:List (List UInt8×Evt)):(l.flatMap evN).length=l.length*5:=QbD (k:=5) (fun _=>rfl) l
theorem QoR {l:List (List UInt8×Evt)} {i:Nat} {x:List UInt8×Evt} (h:l[i]?=some x):(l.flatMap evN).drop (i*5)= .str x.1:: .bool x.2.c:: .bool x.2.o:: .bool x.2.f:: .int .i64 (x.2.flt:Int)::(l.drop (i+1)).flatMap evN:=Qbr (f:=evN) (k:=5) (fun _=>rfl) h
end Go.AM.SO
namespace Go.AM.SO
open Go.Proofs Go.AM.SD Go.AM.SE
def vrI (ch:UInt8) (x:Nat×Aut):List UInt8×Int:=([ch,UInt8.ofNat (48+x.1)],(x.2.n:Int)-1)
def vrsL (c:Cel):List (List UInt8×Int):=c.cs.map (vrI 99)++c.rs.map (vrI 114)
theorem QoS {c:Cel}:(vrsL c).length=c.cs.length+c.rs.length:=by simp[vrsL]
theorem Qce {c:Cel} (h:WfCel c):(vrsL c).length<=5:=by
 have:=h.c3;have:=h.r2
 rw[QoS];omega
theorem QdI {c:Cel} (h:WfCel c):∀x∈vrsL c,0<=x.2/\x.2<=2:=by
 intro x hx
 rcases List.mem_append.1 hx with hx|hx
 ·obtain ⟨y, hy, rfl⟩ := List.mem_map.1 hx
  have h1:=(h.ca y hy).pos
  have h2:=(h.ca y hy).n3
  show 0<=((y.2.n:Nat):Int)-1/\((y.2.n:Nat):Int)-1<=2
  omega
 ·obtain ⟨y, hy, rfl⟩ := List.mem_map.1 hx
  have h1:=(h.ra y hy).pos
  have h2:=(h.ra y hy).n3
  show 0<=((y.2.n:Nat):Int)-1/\((y.2.n:Nat):Int)-1<=2
  omega
def szV (n:Int) (l:List (List UInt8×Int)):Int:=l.foldl (fun n x=>n*(x.2+1)) n
theorem Qn1:∀{l:List (List UInt8×Int)} {n m:Int},(∀x∈l,0<=x.2/\x.2<=2)->1<=n->n<=m->1<=szV n l/\szV n l<=m*3^l.length
 |[],n,m,_,h1,h2=>by simp[szV];omega
 | x :: l, n, m, h, h1, h2 => by
  have hx:=h x (by simp)
  have hn:1<=n*(x.2+1)/\n*(x.2+1)<=m*3:=by
   have:x.2=0\/x.2=1\/x.2=2:=by omega
   rcases this with e|e|e<;>rw[e]<;>omega
  have ih:=Qn1 (l:=l) (fun y hy=>h y (by simp[hy])) hn.1 hn.2
  refine⟨ih.1,?_⟩
  rw[List.length_cons,Int.pow_succ,Int.mul_comm (3^l.length) 3,<-Int.mul_assoc]
  exact ih.2
theorem QeX {l:List (List UInt8×Int)} {i:Nat} {x:List UInt8×Int} (h:l[i]?=some x):szV 1 (l.take (i+1))=szV 1 (l.take i)*(x.2+1):=by
 unfold szV;rw[take_succ' h,List.foldl_append];rfl
theorem Qcq {l:List (List UInt8×Int)} (h:∀x∈l,0<=x.2/\x.2<=2) (hl:l.length<=5) (i:Nat):1<=szV 1 (l.take i)/\szV 1 (l.take i)<=243:=by
 have hb:=Qn1 (l:=l.take i) (n:=1) (m:=1) (fun x hx=>h x (List.mem_of_mem_take hx)) (by decide) (by decide)
 refine⟨hb.1,Int.le_trans hb.2 ?_⟩
 have hk:(l.take i).length<=5:=by rw[List.length_take];omega
 generalize (l.take i).length=k at hk
 have:k=0\/k=1\/k=2\/k=3\/k=4\/k=5:=by omega
 rcases this with rfl|rfl|rfl|rfl|rfl|rfl<;>decide
theorem QpN {c:Cel} (h:WfCel c):1<=szV 1 (vrsL c)/\szV 1 (vrsL c)<=243:=by
 have:=Qcq (QdI h) (Qce h) (vrsL c).length
 rwa [List.take_length]at this
end Go.AM.SO
namespace Go.AM.SO
open Go.Proofs Go.AM.SD Go.AM.SE
abbrev liV (L:List (List Int)):AV:= .fsl (L.map sli) L.length 1
theorem Qbs (L:List (List Int)):noRefs (L.map sli)=true:=by
 induction L with
 |nil=>rfl
 |cons x L ih=>rw[List.map_cons,noRefs,Qat,ih];rfl
theorem QoT (L:List (List Int)):noRef (liV L)=true:=by rw[noRef];exact Qbs L
theorem QpO {L:List (List Int)} {i:Nat} {t:List Int} (h:L[i]?=some t):((L.map sli).drop i).head?=some (sli t):=by
 rw[List.head?_drop,List.getElem?_map,h];rfl
def domE (h:Int) (t:List Int):List (List Int):=(List.range (h+1).toNat).map fun n=>t++[((n:Nat):Int)]
def domS (L:List (List Int)) (h:Int):List (List Int):=L.flatMap (domE h)
def dom (v:List (List UInt8×Int)):List (List Int):=v.foldl (fun L x=>domS L x.2) [[]]
theorem QgN {v:List (List UInt8×Int)} {i:Nat} {x:List UInt8×Int} (h:v[i]?=some x):dom (v.take (i+1))=domS (dom (v.take i)) x.2:=by
 unfold dom;rw[take_succ' h,List.foldl_append];rfl
def domP (L:List (List Int)) (h:Int) (k n:Nat):List (List Int):=(L.take k).flatMap (domE h)++(List.range n).map fun j=>L.getD k []++[((j:Nat):Int)]
theorem Qn2 {L:List (List Int)} {h:Int} {k:Nat}:domP L h k 0=domS (L.take k) h:=by simp[domP,domS]
theorem Qn3 {L:List (List Int)} {h:Int} {k n:Nat} {t:List Int} (hk:L[k]?=some t):domP L h k (n+1)=domP L h k n++[t++[((n:Nat):Int)]]:=by
 unfold domP
 rw[List.range_succ,List.map_append,<-List.append_assoc,QaB hk];rfl
theorem QoU {L:List (List Int)} {h:Int} {k:Nat} {t:List Int} (hk:L[k]?=some t):domP L h k (h+1).toNat=domS (L.take (k+1)) h:=by
 unfold domP domS
 rw[take_succ' hk,List.flatMap_append,QaB hk]
 simp[domE]
theorem Qky {L:List (List Int)} {h:Int} (h0:0<=h):((domS L h).length:Int)=L.length*(h+1):=by
 unfold domS
 induction L with
 |nil=>simp
 |cons t L ih=>
  rw[List.flatMap_cons,List.length_append,Int.natCast_add,ih]
  have:((domE h t).length:Int)=h+1:=by simp[domE];omega
  rw[this,List.length_cons,Int.natCast_add,Int.add_mul]
  simp[Int.add_comm]
theorem QpP {v:List (List UInt8×Int)} (h:∀x∈v,0<=x.2/\x.2<=2) (i:Nat):i<=v.length->((dom (v.take i)).length:Int)=szV 1 (v.take i):=by
 induction i with
 |zero=>intro _;rfl
 |succ i ih=>
  intro hi
  obtain⟨x,hx⟩:=Qaj (l:=v) (i:=i) (by omega)
  have:=h x (List.mem_of_getElem? hx)
  rw[QgN hx,QeX hx,Qky this.1,ih (by omega)]
theorem Qn4 {v:List (List UInt8×Int)}:∀(i:Nat),i<=v.length->∀t∈dom (v.take i),t.length=i
 |0,_,t,ht=>by
  have:t∈([[]]:List (List Int)):=ht
  simp at this;subst this;rfl
 |i+1,hi,t,ht=>by
  obtain⟨x,hx⟩:=Qaj (l:=v) (i:=i) (by omega)
  rw[QgN hx]at ht
  obtain⟨u,hu,hm⟩:=List.mem_flatMap.1 ht
  obtain⟨n,_,rfl⟩:=List.mem_map.1 hm
  rw[List.length_append,Qn4 i (by omega) u hu];rfl
theorem QoV {L:List (List Int)} {h:Int} {k n:Nat} (h0:0<=h/\h<=2) (hn:n<=(h+1).toNat):(domP L h k n).length<=L.length*3+3:=by
 have h1:=@Qky (L.take k) h h0.1
 have h2:(domP L h k n).length=(domS (L.take k) h).length+n:=by simp[domP,domS]
 have h3:(L.take k).length<=L.length:=by rw[List.length_take];omega
 have h4:((L.take k).length:Int)*(h+1)<=L.length*3:=by
  have:h=0\/h=1\/h=2:=by omega
  rcases this with rfl|rfl|rfl<;>omega
 omega
end Go.AM.SO
namespace Go.AM.SO
open Go.Proofs Go.AM.SD Go.AM.SE
theorem Qcr (l:List Bool):noRefs (l.map AV.bool)=true:=by
 induction l with
 |nil=>rfl
 |cons x l ih=>rw[List.map_cons,noRefs,ih];rfl
end Go.AM.SO
namespace Go.AM.SO
open Go.Proofs Go.AM.SD Go.AM.SE
def vrN (x:List UInt8×Aut):List UInt8×Int:=(x.1,(x.2.n:Int)-1)
def itsL (c:Cel):List (List UInt8×Aut):=nmL' 99 c.cs++nmL' 114 c.rs
theorem vrs_N (c:Cel):vrsL c=(itsL c).map vrN:=by
 unfold vrsL itsL nmL'
 rw[List.map_append,List.map_map,List.map_map];rfl
theorem Qkz (c:Cel):(itsL c).length=c.cs.length+c.rs.length:=by simp[itsL,nmL']
theorem Qn5 {c:Cel} (h:WfCel c):∀x∈itsL c,0<x.2.n/\x.2.n<=3:=by
 intro x hx
 rcases List.mem_append.1 hx with hx|hx
 ·obtain ⟨y, hy, rfl⟩ := List.mem_map.1 hx
  exact⟨(h.ca y hy).pos,(h.ca y hy).n3⟩
 ·obtain ⟨y, hy, rfl⟩ := List.mem_map.1 hx
  exact⟨(h.ra y hy).pos,(h.ra y hy).n3⟩
theorem Qn6 {x:List UInt8×Aut}:List.flatMap vrC (List.map vrN [x])=[.str x.1,.int .i64 0,.int .i64 ((x.2.n:Int)-1),.int .i64 0]:=rfl
theorem _root_.Go.AM.au20 {p:Prop} (h:p:=by repeat (first|exact RT.nil|(refine RT.cons ?_ ?_; · (first|exact Rn.any|exact Rn.x1 rfl rfl|exact Rn.x2 rfl rfl|exact Rn.x3 rfl rfl|exact Rn.x4 rfl rfl|exact Rn.x5 rfl|exact Rn.x6 rfl|exact Rn.x7 rfl|(refine Rn.slot ?_ ?_;(first|rfl|(rw[Int.natCast_add];rfl));(first|rfl|(simp only[noRef,noRefs,Qah,Bool.and_self,Bool.and_true,Bool.true_and,Qaa,Qat,Qaf,Qbz,Qav];done)))|(refine Rn.fn ?_ ?_<;>(repeat' (first|exact RnL.nil|refine RnL.cons ?_ ?_|exact Rn.same rfl|exact Rn.x6 rfl|exact Rn.x2 rfl rfl|exact Rn.x5 rfl|exact Rn.x1 rfl rfl))))))):p:=h
theorem vars12 (c:Cel) (h:WfCel c):PSpec Tryz.prog 12 [celV c] (vrsV (vrsL c)):=by
  have h3:=h.c3
  have h2:=h.r2
  have hn3:=Qn5 h
  rw[vrs_N]
  have hLl:=Qkz c
  refine PSpec.of_rn 64 UK.ok12 rfl (by rw[noRefs,SU.Qbb];rfl) (Qar _) ?_
  have hla:(nmL' 99 c.cs).length=c.cs.length:=by simp[nmL']
  have hlb:(nmL' 114 c.rs).length=c.rs.length:=by simp[nmL']
  rw[show celV c= .agg [evsV c.ev,itsN (nmL' 99 c.cs),itsN (nmL' 114 c.rs),exs c.xs,cos c.ks] from by rw[celV,Qhv,Qhv]]
  unfold itsL at*
  generalize nmL' 99 c.cs=A at*
  generalize nmL' 114 c.rs=B at*
  have hoa:(A.flatMap itN).all AV.one=true:=Qde (fun _=>rfl) _
  have hob:(B.flatMap itN).all AV.one=true:=Qde (fun _=>rfl) _
  have hAl:=Qfy A
  have hBl:=Qfy B
  simp(disch:=first|omega|exact PairsOK.mk rfl|(simp only[lenW]<;>omega)) only[UK.s12,wW,wV,simprocAttr]
  refine QbM [(8,[]),(11,[])] rfl rfl ?_
  simp(disch:=first|omega|exact PairsOK.mk rfl|(simp only[lenW]<;>omega)) only[hoa,hob,hAl,hBl,wW,wV,simprocAttr]
  refine⟨⟨⟨[],rfl,fun b hb=>hb⟩,⟨[],rfl,fun b hb=>hb⟩,trivial⟩,?_⟩
  have hLf:A.flatMap itN++B.flatMap itN=(A++B).flatMap itN:=by rw[List.flatMap_append]
  have hLL:A.length+B.length=(A++B).length:=List.length_append.symm
  rw[hLf,hLL]
  generalize A++B=L at*
  have hLn:=Qfy L
  have hnl:=Qbz L
  have hL5:L.length<=5:=by omega
  refine Qaz 100 (fun i:Nat=>[(3,.sl 60 0 0 i 4),(4,itsN L),(5,.int .i64 i)]) (fun i=>[(60,.cells 0 (((L.take i).map vrN).flatMap vrC))]) (fun i=>i<=L.length) (fun i=>L.length-i) 0 0 160 (fun _:Unit=>[(3,vrsV (L.map vrN))]) (fun _=>[]) (fun _=>True) ?_ (Nat.zero_le _) ?_ ?_
  · exact⟨[(60,.nil)],rfl,RO.zero,RB.newnil rfl rfl RB.nil,RT.cons (by first|exact Rn.x3 rfl rfl|exact Rn.x4 rfl rfl|exact Rn.x6 rfl|exact Rn.x7 rfl|exact Rn.x5 rfl) (RT.cons (Rn.fzm (b:=67) (g:=2) gg rfl rfl rfl hLn (RnL.same hnl)) au20)⟩
  · rintro i hi
    by_cases hlt:i<L.length
    · obtain ⟨x, hx⟩ := Qaj hlt
      have hdr:=Ql2 hx
      have hdl:5<=((L.flatMap itN).drop (i*5)).length:=by rw[hdr];simp
      have htl:((L.take i).map vrN).length=i:=by rw[List.length_map,List.length_take];omega
      have htm:(((L.take i).map vrN).flatMap vrC).length=i*4:=by rw[Qft,htl]
      have hn:=hn3 x (List.mem_of_getElem? hx)
      simp(disch:=first|omega|exact PairsOK.mk rfl|(simp only[lenW]<;>omega)) only[hlt,hdr,hdl,htm,wW,wV,simprocAttr]
      refine⟨i+1,by omega,by omega,?_⟩
      rw[take_succ' hx,List.map_append,List.flatMap_append,Qn6]
      refine⟨[(60,.blk 60 1)],rfl,au0,?_,au20⟩
      exact RB.cells rfl rfl gg (RnL.same (SU.QaT (Qav _) (Qav [vrN x]))) RB.nil
    · have e : i = L.length := by omega
      subst e
      simp(disch:=first|omega|exact PairsOK.mk rfl|(simp only[lenW]<;>omega)) only[hlt,List.take_length,wW,wV,simprocAttr]
      exact⟨(),[],rfl,RO.zero,RB.nil,RT.cons (Rn.fzm (b:=60) (g:=0) gg rfl rfl (List.length_map ..) (by rw[Qft,List.length_map]) (RnL.same (Qav _))) RT.nil⟩
  rintro _ _
  simp(disch:=first|omega|exact PairsOK.mk rfl|(simp only[lenW]<;>omega)) only[wW,wV,simprocAttr]
  exact⟨.inr trivial,_,rfl,Rn.same (Qar _)⟩
theorem _root_.Go.AM.au21 {p:Prop} (h:p:=by repeat' (first|exact RB.nil|(refine RnL.same ?_;first|rfl|(simp only[noRef,noRefs,Qah,Bool.and_self,Bool.and_true,Bool.true_and,Qaa,Qat,Qaf,Qbz,Qav];done))|exact RnM.keyM rfl|exact RnL.nil|exact(True.intro:RnM _ _ _ [] [])|refine RnL.cons ?_ ?_|(refine Rn.same ?_;first|rfl|(simp only[noRef,noRefs,Qah,Bool.and_self,Bool.and_true,Bool.true_and,Qaa,Qat,Qaf,Qbz,Qav];done))|exact Rn.x1 rfl rfl|exact Rn.x2 rfl rfl|exact Rn.x3 rfl rfl|exact Rn.x4 rfl rfl|exact Rn.x5 rfl|exact Rn.x6 rfl|exact Rn.x7 rfl|refine RB.newnil rfl rfl ?_|refine RB.cells rfl rfl rfl ?_ ?_|refine RB.map rfl rfl rfl ?_ ?_|refine RB.cellsB rfl rfl ?_ ?_|refine RB.mapB rfl rfl ?_ ?_)):p:=h
theorem size43 (c:Cel) (h:WfCel c):PSpec Tryz.prog 43 [celV c] (.int .i64 (szV 1 (vrsL c))):=by
  have hv:=vars12 c h
  refine PSpec.Qas 64 UK.ok43 rfl (by rw[noRefs,SU.Qbb];rfl) rfl ?_
  have hin:=QdI h
  have h5:=Qce h
  generalize vrsL c=v at*
  simp(disch:=first|omega|exact PairsOK.mk rfl|(simp only[lenW]<;>omega)) only[UK.s43,wW,wV,simprocAttr]
  refine cp hv ?_
  simp(disch:=first|omega|exact PairsOK.mk rfl|(simp only[lenW]<;>omega)) only[wW,wV,simprocAttr]
  refine QaJ 100 (fun i:Nat=>[(3,.int .i64 (szV 1 (v.take i))),(4,vrsV v),(5,.int .i64 i)]) (fun _=>[]) (fun i=>i<=v.length) (fun i=>v.length-i) 0 ⟨[],rfl,au0,au21,au20⟩ (Nat.zero_le _) ?_
  rintro i hi
  by_cases hlt:i<v.length
  · obtain ⟨x, hx⟩ := Qaj hlt
    have hdr:=QbO hx
    have hdl:4<=((v.flatMap vrC).drop (i*4)).length:=by rw[hdr];simp
    have b1:=Qcq hin h5 i
    have b2:=hin x (List.mem_of_getElem? hx)
    have b3:=Qcq hin h5 (i+1)
    have e3:=QeX hx
    rw[e3]at b3
    generalize szV 1 (v.take i)=S at*
    simp(disch:=first|omega|exact PairsOK.mk rfl|(simp only[lenW]<;>omega)) only[hlt,hdr,hdl,wW,wV,simprocAttr]
    refine⟨i+1,by omega,by omega,?_⟩
    rw[e3]
    exact⟨[],rfl,au0,au21,au20⟩
  · have e : i = v.length := by omega
    subst e
    simp(disch:=first|omega|exact PairsOK.mk rfl|(simp only[lenW]<;>omega)) only[hlt,List.take_length,wW,wV,simprocAttr]
    exact⟨.inr trivial,_,rfl,rfl⟩
theorem small10 (c:Cel) (h:WfCel c) (C:List AV) (hlen:C.length=152) (hone:C.all AV.one=true) (hnr:noRefs C=true) (hM:PSpec Tryz.prog 42 [.agg C] (celV c)):PSpec Tryz.prog 10 [.agg C] (.tup [celV c,.bool true]):=by
 have hs:=size43 c h
 have hb:=QpN h
 have htk:C.take 152=C:=by rw[<-hlen,List.take_length]
 refine PSpec.Qas 64 UK.ok10 rfl (by rw[noRefs,noRef,hnr];rfl) (by rw[noRef,noRefs,SU.Qbb];rfl) ?_
 generalize szV 1 (vrsL c)=S at*
 simp(disch:=first|omega|exact PairsOK.mk rfl|(simp only[lenW]<;>omega)) only[UK.s10,hlen,hone,htk,wW,wV,simprocAttr]
 refine cp hM ?_
 simp(disch:=first|omega|exact PairsOK.mk rfl|(simp only[lenW]<;>omega)) only[wW,wV,simprocAttr]
 refine cp hs ?_
 have h4:S<=400:=by omega
 simp(disch:=first|omega|exact PairsOK.mk rfl|(simp only[lenW]<;>omega)) only[h4,wW,wV,simprocAttr]
 exact⟨.inr trivial,_,rfl,rfl⟩
end Go.AM.SO
namespace Go.AM.VK
open Go.Proofs
set_option maxHeartbeats 4000000
noncomputable section
def cf:YA.Cf:={most:= .pure,always:=[84].map fun k=>(k,.heap),value:= .pure}
def s18:SFn:=by
 refine(?f:YA.Yt Tryz.prog cf 18 [[0,1,6],[16,17],[],[],[18,19,20,21,22,23],[26,29,30,31,32,33,34,35,36],[43,44,45],[46,47,48],[49,50,51,52,53,54,55],[10,11,58,59,60,61,62,63,64,65],[11,58],[66,67,68,69,70,71,72,73],[74],[],[77,78,79,80,81],[84,87,88,89,90,91,92,93,94,95,96,97,98,99,100,101,102,103],[15,104,105,106,107,108,109,110,111,112,113,114,115,116,117,118,119,120,121,122,123,124,125,126,127,128,129,130,131,132,133,134,135],[85,86],[13,14,136,137,138,139,140,141],[75,76],[10,12,142,143,144,145],[27,28],[2,3,4,7,8,9,83,82,57,56,42,41,40,39,38,37,25,24,146]] [(6,[(3,6),(4,6),(3,16),(4,16),(3,22),(4,22),(4,28)])]) ?s ?h
 case h=>exact YA.rr
 exact fun s _=>s
def s61:SFn:=by
 refine(?f:YA.Yt Tryz.prog cf 61 [[4],[],[6,7,8],[9,12,13,14,15,16,17],[0,1,5,18,19],[4,18,10,11],[0,1,5]]) ?s ?h
 case h=>exact YA.rr
 exact fun s _=>s
theorem ok18:okFn Tryz.prog 18 s18=true:=by kernel_rfl
theorem ok61:okFn Tryz.prog 61 s61=true:=by kernel_rfl
end
end Go.AM.VK
namespace Go.AM.SO
open Go.Proofs Go.AM.SD Go.AM.SE
theorem fstG' {l:List Gdn}:∀(i:Nat) {x:Gdn},l[i]?=some x->∃f g,l[f]?=some g/\g.ev=x.ev/\f<=i/\∀(j:Nat) y,j<f->l[j]?=some y->y.ev≠x.ev
 | i, x, hx => by
  by_cases h:∃j y,j<i/\l[j]?=some y/\y.ev=x.ev
  ·obtain ⟨j, y, hj, hy, he⟩ := h
   obtain⟨f,g,h1,h2,h3,h4⟩:=fstG' j hy
   exact⟨f,g,h1,by rw[h2,he],by omega,fun k z hk hz=>by rw[<-he];exact h4 k z hk hz⟩
  ·exact⟨i,x,hx,rfl,Nat.le_refl _,fun j y hj hy he=>h ⟨j,y,hj,hy,he⟩⟩
theorem _root_.Go.AM.au22 {p:Prop} (h:p:=by repeat' (first|exact RB.nil|(refine RnL.same ?_;first|rfl|(simp only[noRef,noRefs,Qah,Bool.and_self,Bool.and_true,Bool.true_and,Qaa,Qat,Qaf,Qax,QaD,Qav,Qbs,Qcr];done))|exact RnM.keyM rfl|exact RnL.nil|exact(True.intro:RnM _ _ _ [] [])|refine RnL.cons ?_ ?_|(refine Rn.same ?_;first|rfl|(simp only[noRef,noRefs,Qah,Bool.and_self,Bool.and_true,Bool.true_and,Qaa,Qat,Qaf,Qax,QaD,Qav,Qbs,Qcr];done))|exact Rn.x1 rfl rfl|exact Rn.x2 rfl rfl|exact Rn.x3 rfl rfl|exact Rn.x4 rfl rfl|exact Rn.x5 rfl|exact Rn.x6 rfl|exact Rn.x7 rfl|refine RB.newnil rfl rfl ?_|refine RB.cells rfl rfl rfl ?_ ?_|refine RB.map rfl rfl rfl ?_ ?_|refine RB.cellsB rfl rfl ?_ ?_|refine RB.mapB rfl rfl ?_ ?_)):p:=h
theorem _root_.Go.AM.au23 {p:Prop} (h:p:=by repeat (first|exact RT.nil|(refine RT.cons ?_ ?_; · (first|exact Rn.any|exact Rn.x1 rfl rfl|exact Rn.x2 rfl rfl|exact Rn.x3 rfl rfl|exact Rn.x4 rfl rfl|exact Rn.x5 rfl|exact Rn.x6 rfl|exact Rn.x7 rfl|(refine Rn.slot ?_ ?_;(first|rfl|(rw[Int.natCast_add];rfl));(first|rfl|(simp only[noRef,noRefs,Qah,Bool.and_self,Bool.and_true,Bool.true_and,Qaa,Qat,Qaf,Qax,QaD,Qav,Qbs,Qcr];done)))|(refine Rn.fn ?_ ?_<;>(repeat' (first|exact RnL.nil|refine RnL.cons ?_ ?_|exact Rn.same rfl|exact Rn.x6 rfl|exact Rn.x2 rfl rfl|exact Rn.x5 rfl|exact Rn.x1 rfl rfl))))))):p:=h
theorem find61 (l:List Gdn) (ev:Int) (hl:l.length<=1000):∃k:Int,PSpec Tryz.prog 61 [gdsV l,.int .i64 ev] (.int .i64 k)/\((k= -1/\∀g∈l,g.ev≠ev)\/∃(f:Nat) (g:Gdn),k=f/\l[f]?=some g/\g.ev=ev/\∀(j:Nat) y,j<f->l[j]?=some y->y.ev≠ev):=by
  by_cases h:∃f g,l[f]?=some g/\g.ev=ev/\∀(j:Nat) y,j<f->l[j]?=some y->y.ev≠ev
  · obtain ⟨f, g, hf, he, hb⟩ := h
    refine⟨f,?_,.inr ⟨f,g,rfl,hf,he,hb⟩⟩
    refine PSpec.Qas 64 VK.ok61 rfl (by simp only[noRefs,noRef,QaD];rfl) rfl ?_
    have hfl:=(List.getElem?_eq_some_iff.1 hf).1
    simp(disch:=first|omega|exact PairsOK.mk rfl|(simp only[lenW]<;>omega)) only[VK.s61,wW,wV,simprocAttr]
    refine QaJ 100 (fun i:Nat=>[(0,gdsV l),(1,.int .i64 ev),(5,.int .i64 i)]) (fun _=>[]) (fun i=>i<=f) (fun i=>l.length-i) 0 ⟨[],rfl,au0,au22,au23⟩ (Nat.zero_le _) ?_
    rintro i hi
    have hlt:i<l.length:=by omega
    obtain⟨x,hx⟩:=Qaj hlt
    have hdr:=QcM hx
    have hdl:2<=((l.flatMap gdC).drop (i*2)).length:=by rw[hdr];simp
    by_cases e:i=f
    · subst e
      rw[hf]at hx;cases hx
      simp(disch:=first|omega|exact PairsOK.mk rfl|(simp only[lenW]<;>omega)) only[hlt,hdr,hdl,he,wW,wV,simprocAttr]
      exact⟨.inr trivial,_,rfl,rfl⟩
    · have hne := hb i x (by omega) hx
      simp(disch:=first|omega|exact PairsOK.mk rfl|(simp only[lenW]<;>omega)) only[hlt,hdr,hdl,hne,wW,wV,simprocAttr]
      exact⟨i+1,by omega,by omega,⟨[],rfl,au0,au22,au23⟩⟩
  · have hno : ∀ g ∈ l, g.ev ≠ ev := by
      intro g hg he
      obtain⟨i,hi,rfl⟩:=List.getElem_of_mem hg
      obtain⟨f,y,h1,h2,_,h4⟩:=fstG' i (List.getElem?_eq_getElem hi)
      exact h ⟨f,y,h1,by rw[h2,he],fun j z hj hz=>by rw[<-he];exact h4 j z hj hz⟩
    refine⟨-1,?_,.inl ⟨rfl,hno⟩⟩
    refine PSpec.Qas 64 VK.ok61 rfl (by simp only[noRefs,noRef,QaD];rfl) rfl ?_
    simp(disch:=first|omega|exact PairsOK.mk rfl|(simp only[lenW]<;>omega)) only[VK.s61,wW,wV,simprocAttr]
    refine QaJ 100 (fun i:Nat=>[(0,gdsV l),(1,.int .i64 ev),(5,.int .i64 i)]) (fun _=>[]) (fun i=>i<=l.length) (fun i=>l.length-i) 0 ⟨[],rfl,au0,au22,au23⟩ (Nat.zero_le _) ?_
    rintro i hi
    by_cases hlt:i<l.length
    · obtain ⟨x, hx⟩ := Qaj hlt
      have hdr:=QcM hx
      have hdl:2<=((l.flatMap gdC).drop (i*2)).length:=by rw[hdr];simp
      have hne:=hno x (List.mem_of_getElem? hx)
      simp(disch:=first|omega|exact PairsOK.mk rfl|(simp only[lenW]<;>omega)) only[hlt,hdr,hdl,hne,wW,wV,simprocAttr]
      exact⟨i+1,by omega,by omega,⟨[],rfl,au0,au22,au23⟩⟩
    · simp (disch := first | omega | exact PairsOK.mk rfl | (simp only [lenW] <;> omega)) only [hlt, wW, wV, simprocAttr]
      exact⟨.inr trivial,_,rfl,rfl⟩
end Go.AM.SO
set_option linter.unusedSectionVars false
namespace Go.AM
variable {P:Program} {α:Type} [DecidableEq α]
abbrev fmapG (c f:α->AV) (l:List α):AV:= .fmap (l.map c) (l.map f)
section
variable {N:NM} {d:Option Nat} {r:List SOper} {dead:List Nat} {fs:List Fr} {n:Nat} {T:Tmps} {h:Heap} {Q:QC} {row:Bool} {ks:List LK} {c f:α->AV} {x:α} {l:List α} {b g:Nat} {z v:AV} {ok:Bool}
end
abbrev kP (x:Nat×Nat):AV:= .agg [.int .i64 (x.1:Int),.int .i64 (x.2:Int)]
end Go.AM
namespace Go.AM
end Go.AM
namespace Go.AM.SO
open Go.Proofs Go.AM.SD Go.AM.SE
def auC (a:Aut):List AV:=[sliN a.al,.int .i64 (a.n:Int),sliN a.ms,egsN a.es]
theorem Qi0 (l:List Aut):noRefs (l.flatMap auC)=true:=Qa3 (fun x=>by simp only[auC,noRefs,noRef,Qaa,Qaq];rfl) l
end Go.AM.SO
namespace Go.AM.SO
open Go.Proofs Go.AM.SD Go.AM.SE
theorem Qeh {α:Type} {f:α->AV} (h:∀x,noRef (f x)=true) (l:List α):noRefs (l.map f)=true:=by
 induction l with
 |nil=>rfl
 |cons x l ih=>simp only[List.map_cons,noRefs,h,ih];rfl
def pE (e:Ed):Nat×Nat:=(e.1,e.2.1)
def vE (es:List Ed) (p:Nat×Nat):AV:= .int .i64 (((stepA es p.1 p.2).getD 0:Nat):Int)
abbrev emV (a:Aut):AV:=fmapG kP (vE a.es) (a.es.map pE)
theorem QoW (a:Aut):noRef (emV a)=true:=by
 rw[emV,fmapG,noRef,Qeh (fun _=>rfl),Qeh (fun _=>rfl)];rfl
theorem QaC {x y:List AV}:(AV.fmap x y).cells=[.fmap x y]:=rfl
theorem QaN {x y:List AV}:(AV.fmap x y).one=true:=rfl
theorem QaO {x y:List AV}:(AV.fmap x y).boxable=true:=rfl
end Go.AM.SO
namespace Go.AM.SO
open Go.Proofs Go.AM.SD Go.AM.SE
abbrev tuV (T:List (List Nat)):AV:= .fsl (T.map sliN) T.length 1
theorem Qi1 (T:List (List Nat)):noRef (tuV T)=true:=by rw[tuV,noRef];exact Qeh Qaf _
end Go.AM.SO
namespace Go.AM
variable {P:Program}
theorem HRel.give {ok : Okc} {c : Ctx ok} {h : Heap} {w : World} (H : HRel c h w) {b g len sz : Nat} {ds : List AV} (hb : h.get b = some (.cells g ds)) (hr : noRefs ds = true) (hl : ds.length = len * sz) (hlim : Nat.blt b 1099511627775 = true) :
    ∃c2,Evo c w c2 w/\HRel c2 (h.set b (.dead g)) w/\(∀v,VRel c w (.sl b g 0 len sz) v->VRel c2 w (.fsl ds len sz) v)/\∀x v,noRef x=true->VRel c w x v->VRel c2 w x v:=by
  have hlim':b<1099511627775:=by simp_all
  have hlive:Live h b g:=⟨_,hb,rfl,fun _=>by simp⟩
  let c2:Ctx ok:={c with F:=fun k=>c.F k\/∃base,c.ρ b g=some (.loc k base),O:=fun k=>c.O k/\¬∃base,c.ρ b g=some (.loc k base)}
  have hset:∀k,(h.set b (.dead g)).get k=if k=b then some (.dead g)else h.get k:=fun k=>by
    by_cases e:k=b
    · subst e;rw[Qbj hlim',if_pos rfl]
    simp_all [Qbt]
  have hlv:∀k y,Live (h.set b (.dead g)) k y->k≠b/\Live h k y:=by
    rintro k y ⟨x,hk,hg,hd⟩
    rw[hset]at hk
    split at hk
    · grind
    · rename_i e;exact⟨e,x,hk,hg,hd⟩
  have E:=Evo.refl c w
  have E2:Evo c w c2 w:=⟨E.os,E.tape,E.output,E.size,E.shape,E.keep,E.rho,fun k hk=> .inl (E.frz k hk),fun k hk=>by
    rcases hk with hk|⟨base,hk⟩
    · simp_all
    · exact .inr (.inl (H.owned hlive hk)),fun k hk=>E.own k hk.1,E.base⟩
  refine⟨c2,E2,⟨fun k hk y=>?_,fun k x hk y hlt=>?_,fun k x hk=>?_,fun k y k' y' cb base base' l1 l2 p1 p2=>H.inj k y k' y' cb base base' (hlv _ _ l1).2 (hlv _ _ l2).2 p1 p2,fun k hF hO=>?_,fun k hF=>?_,fun k hO=>H.inO k hO.1⟩,fun v V=>?_,fun x v hn hv=>VRel.noRef (c:=c) (c':=c2) (fun _ h=> .inl h) _ _ hn hv⟩
  · rw [hset] at hk
    split at hk
    · cases hk
    · exact H.fresh k hk y
  · rw [hset] at hk
    split at hk
    · rename_i e; subst e; cases hk
      exact H.later k _ hb y hlt
    · exact H.later k x hk y hlt
  · rw [hset] at hk
    split at hk
    · cases hk;trivial
    · rename_i e
      refine BRel.mono (c:=c) (c':=c2) (w:=w) (w':=w) ⟨fun _ _ _ h=>h,fun _ h=> .inl h,fun _ _ _ h=>h,fun _ C _ fr h=>⟨C,fr,h,rfl⟩⟩ (fun cb base hd hp=>?_) (H.blk k x hk)
      have hlk:Live h k x.gen:=⟨x,hk,rfl,hd⟩
      exact⟨⟨H.owned hlk hp,fun⟨base',hp'⟩=>e (H.inj _ _ _ _ _ _ _ hlk hlive hp hp')⟩,rfl⟩
  · rcases hF with hF | hF
    · exact H.disj k hF hO.1
    grind
  · rcases hF with hF | ⟨base, hF⟩
    · exact H.inF k hF
    · exact H.inO k (H.owned hlive hF)
  · simp only [VRel] at V
    rcases V with⟨hp,rfl,_,rfl⟩|⟨cb,base,o,cap,C,e,fr,hp,rfl,hlc,hC,hcap⟩
    · simp_all [VRel]
    · obtain ⟨C', e', fr', hO, hC', hfr, hbs, hpre⟩ := H.here hb hp
      rw[hC]at hC';cases hC'
      have hF:c2.F cb:= .inr ⟨base,hp⟩
      by_cases h0:cap=0
      · have hl0 : len = 0 := by omega
        subst hl0
        have:ds=[]:=List.eq_nil_of_length_eq_zero (by rw[hl];simp)
        subst this
        simp only[VRel]
        simp_all
      · obtain ⟨rfl, hbd⟩ := hcap.resolve_left h0
        have hp2:=VPre.noRef2 (c:=c) (c':=c2) (fun _ h=> .inl h) hr hpre
        simp only[VRel]
        grind
theorem HSpec.give1 {f b g len sz:Nat} {ds:List AV} {h:Heap} {v:AV} (S:PSpec P f [.fsl ds len sz] v) (hb:h.get b=some (.cells g ds)) (hr:noRefs ds=true) (hl:ds.length=len*sz) (hlim:Nat.blt b 1099511627775=true):
  HSpec P f [.sl b g 0 len sz] h v (h.set b (.dead g)):=by
 have hS:=S
 obtain⟨_,_,h',hc,_⟩:=S
 refine⟨hc,fun c w cargs H ha=>?_⟩
 obtain⟨c2,E2,H2,V2,_⟩:=H.give hb hr hl hlim
 have ha2:VRels c2 w [.fsl ds len sz] cargs.toList:=by
  grind [VRels]
 refine((hS.pure H2 ha2).2).mono ?_
 rintro e w' ⟨cv,c',rfl,E,H',V⟩
 exact⟨cv,c',rfl,E2.trans E,H',V⟩
end Go.AM
namespace Go.AM.SO
open Go.Proofs Go.AM.SD Go.AM.SE
theorem QiS (x:Aut):autB x x=true:=by simp[autB]
end Go.AM.SO
namespace Go.AM
variable {P:Program}
section
variable {k m n:Nat} {T:Tmps} {h:Heap} {Q:QC} {fs:List Fr}
theorem cy {N:NM} {b g:Nat} {args:List AV} {v:AV} {h1:Heap} {d:Option Nat} {ops:List SOper} {dead:List Nat} (hR:RSpec P b g args h v h1) (hk:wR P N ops dead fs (n+1) (putD T d v) h1 Q):wCall P N .heap (.yld b g) args d ops dead fs n T h Q:=⟨_,_,hR,hk⟩
section
variable {α:Type} {env:α->Tmps} {H:α->Heap} {I:α->Prop} {μ:α->Nat} {a:α}
end
end
end Go.AM
namespace Go.AM.SO
open Go.Proofs Go.AM.SD Go.AM.SE
def rsC (x:Nat×Int×Int×Int):List AV:=[.int .i64 (x.1:Int),.int .i64 x.2.1,.int .i64 x.2.2.1,.int .i64 x.2.2.2]
theorem Qi2 (l:List (Nat×Int×Int×Int)):noRefs (l.flatMap rsC)=true:=by
 induction l with
 |nil=>rfl
 |cons x l ih=>rw[List.flatMap_cons];exact SU.QaT rfl ih
end Go.AM.SO
namespace Go.AM
variable {P:Program} {N:NM} {r:List SOper} {dead:List Nat} {d:Option Nat} {fs:List Fr} {n:Nat} {T:Tmps} {h:Heap} {Q:QC}
theorem Qjd {k sz bytes:Nat} {zero:List AV} (hk:0<k) (h1:k*bytes<=140737488355328) (h2:k<=140737488355328) (h3:0<sz):
  wM P N (aAppendZ .dyn n sz bytes zero .nilsl (.int .i64 (k:Int))) d r dead fs n T h Q=wN P N (List.replicate k zero).flatten (.sl n 0 0 k sz) d r dead fs n T h Q:=by
 obtain⟨j,rfl⟩:∃j,k=j+1:=⟨k-1,by omega⟩
 show wM P N (aAppendZ .dyn n sz bytes zero .nilsl (.int .i64 (.ofNat (j+1)))) d r dead fs n T h Q=_
 simp only[aAppendZ]
 rw[if_pos ⟨h1,h2,h3⟩]
 exact Qep (x:=fun g=> .cells g _) rfl
theorem HSpec.give2 {f b g len sz:Nat} {x:AV} {ds:List AV} {h:Heap} {v:AV} (S:PSpec P f [x,.fsl ds len sz] v) (hb:h.get b=some (.cells g ds)) (hr:noRefs ds=true) (hl:ds.length=len*sz) (hlim:Nat.blt b 1099511627775=true):
  HSpec P f [x,.sl b g 0 len sz] h v (h.set b (.dead g)):=by
 have hS:=S
 have hn:noRef x=true:=by
  have:=S.1
  simp only[noRefs,Bool.and_eq_true]at this
  exact this.1
 obtain⟨_,_,h',hc,_⟩:=S
 refine⟨hc,fun c w cargs H ha=>?_⟩
 obtain⟨c2,E2,H2,V2,V3⟩:=H.give hb hr hl hlim
 have V4:=fun v=>V3 x v hn
 have ha2:VRels c2 w [x,.fsl ds len sz] cargs.toList:=by
  simp only[VRels]at ha⊢
  obtain⟨p,l1,e1,hp,q,l2,e2,hq,e3⟩:=ha
  exact⟨p,l1,e1,V4 p hp,q,l2,e2,V2 q hq,e3⟩
 refine((hS.pure H2 ha2).2).mono ?_
 rintro e w' ⟨cv,c',rfl,E,H',V⟩
 exact⟨cv,c',rfl,E2.trans E,H',V⟩
end Go.AM
namespace Go.AM.SO
open Go.Proofs Go.AM.SD Go.AM.SE
abbrev zIt:List AV:=[.str [],.nilsl,.int .i64 0,.nilsl,.nilsl]
theorem QkA (k:Nat):noRefs (List.replicate k zIt).flatten=true:=by
 induction k with
 |zero=>rfl
 |succ k ih=>rw[List.replicate_succ,List.flatten_cons];exact SU.QaT rfl ih
theorem capN:aCap .nilsl=some (.int .i64 0):=rfl
theorem sliceN {sz:Nat}:aSliceC (some sz) .nilsl none (some (.int .i64 0)) none=some .nilsl:=rfl
theorem _root_.Go.AM.au24 {p:Prop} (h:p:=by repeat (first|exact RT.nil|(refine RT.cons ?_ ?_; · (first|exact Rn.any|exact Rn.x1 rfl rfl|exact Rn.x2 rfl rfl|exact Rn.x3 rfl rfl|exact Rn.x4 rfl rfl|exact Rn.x5 rfl|exact Rn.x6 rfl|exact Rn.x7 rfl|(refine Rn.slot ?_ ?_;(first|rfl|(rw[Int.natCast_add];rfl));(first|rfl|(simp only[noRef,noRefs,Qah,Bool.and_self,Bool.and_true,Bool.true_and,Qaa,Qat,Qaf,Qav,Qbz,Qcz];done)))|(refine Rn.fn ?_ ?_<;>(repeat' (first|exact RnL.nil|refine RnL.cons ?_ ?_|exact Rn.same rfl|exact Rn.x6 rfl|exact Rn.x2 rfl rfl|exact Rn.x5 rfl|exact Rn.x1 rfl rfl))))))):p:=h
theorem grow203 (k:Nat) (h0:0<k) (hk:k<=1000000):HSpec Tryz.prog 203 [.nilsl,.int .i64 (k:Int)] .e (.sl 90 0 0 0 5) (hp [(90,.cells 0 (List.replicate k zIt).flatten)]):=by
 refine HSpec.Qer 100 UK.ok203 rfl ?_
 have h1:¬(k:Int)<0:=by omega
 have h2:(0:Int)<(k:Int):=by omega
 simp(disch:=first|omega|exact PairsOK.mk rfl|(simp only[lenW]<;>omega)) only[UK.s203,Qp0,Qmm,capN,sliceN,Qjd,Int.sub_zero,h1,h2,wW,wV,simprocAttr]
 refine⟨.inr trivial,_,rfl,?_⟩
 refine⟨[(90,.blk 118 0)],rfl,au0,?_,au24⟩
 exact RB.cells rfl rfl gg (RnL.same (QkA k)) RB.nil
def catX (z:List AV) (S:List (List (List UInt8×Aut))) (i:Nat):List AV:=if i=0 then z else((S.take i).flatten).flatMap itN
theorem QoX {z:List AV} {S:List (List (List UInt8×Aut))} {i g:Nat}:srcB (some (.cells g (catX z S i))) g 0 ((S.take i).flatten.length) 5=some (((S.take i).flatten).flatMap itN):=by
 unfold catX
 split
 ·rename_i h;subst h;simp[Qcn]
 ·exact QgA (Qfy _)
theorem Qn7 {z:List AV} {S:List (List (List UInt8×Aut))} {i:Nat} {A:List (List UInt8×Aut)} (h:S[i]?=some A):((S.take i).flatten).flatMap itN++A.flatMap itN=catX z S (i+1):=by
 unfold catX
 rw[if_neg (by omega),take_succ' h,List.flatten_append,List.flatMap_append]
 simp
theorem Qi3 {S:List (List (List UInt8×Aut))} {i:Nat} {A:List (List UInt8×Aut)} (h:S[i]?=some A):(S.take (i+1)).flatten.length=(S.take i).flatten.length+A.length:=by
 rw[take_succ' h,List.flatten_append,List.length_append];simp
theorem QfL {S:List (List (List UInt8×Aut))} (i:Nat):(S.take i).flatten.length<=S.flatten.length:=by
 have h:(S.take i).flatten.length+(S.drop i).flatten.length=S.flatten.length:=by
  rw[<-List.length_append,<-List.flatten_append,List.take_append_drop]
 omega
theorem QpQ {S:List (List (List UInt8×Aut))} {k i:Nat}:noRefs (catX (List.replicate k zIt).flatten S i)=true:=by
 unfold catX
 split
 ·exact QkA k
 ·exact Qbz _
abbrev itss (S:List (List (List UInt8×Aut))):AV:= .fsl (S.map itsN) S.length 1
theorem Qcz (S:List (List (List UInt8×Aut))):noRefs (S.map itsN)=true:=by
 induction S with
 |nil=>rfl
 |cons x S ih=>rw[List.map_cons,noRefs,QcX,ih];rfl
theorem Qi4 {S:List (List (List UInt8×Aut))} {i:Nat} {A:List (List UInt8×Aut)} (h:S[i]?=some A):((S.map itsN).drop i).head?=some (itsN A):=by
 rw[List.head?_drop,List.getElem?_map,h];rfl
theorem _root_.Go.AM.au25 {p:Prop} (h:p:=by repeat' (first|exact RB.nil|(refine RnL.same ?_;first|rfl|(simp only[noRef,noRefs,Qah,Bool.and_self,Bool.and_true,Bool.true_and,Qaa,Qat,Qaf,Qav,Qbz,Qcz];done))|exact RnM.keyM rfl|exact RnL.nil|exact(True.intro:RnM _ _ _ [] [])|refine RnL.cons ?_ ?_|(refine Rn.same ?_;first|rfl|(simp only[noRef,noRefs,Qah,Bool.and_self,Bool.and_true,Bool.true_and,Qaa,Qat,Qaf,Qav,Qbz,Qcz];done))|exact Rn.x1 rfl rfl|exact Rn.x2 rfl rfl|exact Rn.x3 rfl rfl|exact Rn.x4 rfl rfl|exact Rn.x5 rfl|exact Rn.x6 rfl|exact Rn.x7 rfl|refine RB.newnil rfl rfl ?_|refine RB.cells rfl rfl rfl ?_ ?_|refine RB.map rfl rfl rfl ?_ ?_|refine RB.cellsB rfl rfl ?_ ?_|refine RB.mapB rfl rfl ?_ ?_)):p:=h
theorem concat158 (S : List (List (List UInt8 × Aut))) (hS : S.length <= 1000) (h0 : 0 < S.flatten.length) (hk : S.flatten.length <= 1000000) : PSpec Tryz.prog 158 [itss S] (itsN S.flatten) := by
  refine PSpec.of_rn 64 UK.ok158 rfl (by rw[noRefs,noRef,Qcz];rfl) (QcX _) ?_
  have hnr:=Qcz S
  simp(disch:=first|omega|exact PairsOK.mk rfl|(simp only[lenW]<;>omega)) only[UK.s158,wW,wV,simprocAttr]
  refine QaJ 100 (fun i:Nat=>[(0,itss S),(3,.int .i64 ((S.take i).flatten.length:Nat)),(9,itss S),(10,.int .i64 S.length),(11,.int .i64 i)]) (fun _=>[]) (fun i=>i<=S.length) (fun i=>S.length-i) 0 ?_ (Nat.zero_le _) ?_
  · exact⟨[],rfl,au0,au25,au24⟩
  rintro i hi
  by_cases hlt:i<S.length
  · obtain ⟨A, hx⟩ := Qaj hlt
    have hh:=Qi4 hx
    have b1:=@QfL S i
    have b2:=@QfL S (i+1)
    have e2:=Qi3 hx
    rw[e2]at b2
    have hng:¬((S.take i).flatten.length:Int)+(A.length:Int)<0:=by omega
    simp(disch:=first|omega|exact PairsOK.mk rfl|(simp only[lenW]<;>omega)) only[hlt,hh,hng,wW,wV,simprocAttr]
    refine⟨i+1,by omega,by omega,?_⟩
    rw[e2]
    exact⟨[],rfl,au0,au25,au24⟩
  have e:i=S.length:=by omega
  subst e
  simp(disch:=first|omega|exact PairsOK.mk rfl|(simp only[lenW]<;>omega)) only[hlt,List.take_length,wW,wV,simprocAttr]
  refine ch (HSpec.of_O (b:=90) (by(try simp only[noRefs,Qaa,noRef,noRefs,Qav,SU.Qbb,Bool.and_self,Bool.and_true])<;>rfl) (grow203 _ h0 hk) (by repeat (first|exact Fresh.e|exact Fresh.le (by assumption) (by omega)|refine Fresh.set ?_ (by omega) (by omega))) rfl) ?_
  simp(disch:=first|omega|exact PairsOK.mk rfl|(simp only[lenW]<;>omega)) only[wW,wV,simprocAttr]
  generalize hz:(List.replicate S.flatten.length zIt).flatten=z
  have hzn:∀i,noRefs (catX z S i)=true:=fun i=>by rw[<-hz];exact QpQ
  refine Qaz 200 (fun i:Nat=>[(6,.sl 91 0 0 (S.take i).flatten.length 5),(25,itss S),(26,.int .i64 S.length),(27,.int .i64 i)]) (fun i=>[(91,.cells 0 (catX z S i))]) (fun i=>i<=S.length) (fun i=>S.length-i) 0 2 260 (fun _:Unit=>[(6,itsN S.flatten)]) (fun _=>[]) (fun _=>True) ?_ (Nat.zero_le _) ?_ ?_
  · refine ⟨[(91, .blk 90 0)], rfl, au0, ?_, au24⟩
    exact RB.cells rfl rfl gg (RnL.same (by rw[<-hz];exact QkA _)) RB.nil
  · rintro i hi
    by_cases hlt:i<S.length
    · obtain ⟨A, hx⟩ := Qaj hlt
      have hh:=Qi4 hx
      have b1:=@QfL S i
      have b2:=@QfL S (i+1)
      have e2:=Qi3 hx
      rw[e2]at b2
      have hs:=@QoX z S i
      have hone:(A.flatMap itN).all AV.one=true:=Qde (fun _=>rfl) _
      have hX:=Qn7 (z:=z) hx
      simp(disch:=first|omega|exact PairsOK.mk rfl|(simp only[lenW]<;>omega)) only[hlt,hh,hs,hone,hX,wW,wV,simprocAttr]
      refine⟨i+1,by omega,by omega,?_⟩
      rw[e2]
      refine⟨[(91,.blk 91 1)],rfl,au0,?_,au24⟩
      exact RB.cells rfl rfl gg (RnL.same (hzn _)) RB.nil
    · have e : i = S.length := by omega
      subst e
      have hX:catX z S S.length=S.flatten.flatMap itN:=by
        unfold catX
        rw[if_neg (fun h=>by rw[List.length_eq_zero_iff]at h;subst h;simp at h0),List.take_length]
      simp(disch:=first|omega|exact PairsOK.mk rfl|(simp only[lenW]<;>omega)) only[hlt,hX,List.take_length,wW,wV,simprocAttr]
      exact⟨(),[],rfl,RO.zero,RB.nil,RT.cons (Rn.fzm (b:=91) (g:=0) gg rfl rfl rfl (Qfy _) (RnL.same (Qbz _))) RT.nil⟩
  rintro _ _
  simp(disch:=first|omega|exact PairsOK.mk rfl|(simp only[lenW]<;>omega)) only[wW,wV,simprocAttr]
  exact⟨.inr trivial,_,rfl,Rn.same (QcX _)⟩
end Go.AM.SO
namespace Go.AM.SO
open Go.Proofs Go.AM.SD Go.AM.SE
theorem bx_at {v:List (List UInt8×Int)} {l:List Bxn} {i:Nat} {b:Bxn} {e:Int} (hb:l[i]?=some b) (he:bxE v b=e) (h0:e≠0) (hc:∀j,j<i->bxE v (l.getD j bx0)=0):bxsE v l=e:=
 fe_at (f:=fun i=>bxE v (l.getD i bx0)) (by rw[QaB hb];exact he) h0 hc (List.getElem?_eq_some_iff.1 hb).1
theorem vr_at {v:List (List UInt8×Int)} {b:Bxn} (h1:b.lo.length=v.length) (h2:b.hi.length=v.length) {j:Nat} (hj:j<v.length) (he:vrE v b j=2) (hc:∀k,k<j->vrE v b k=0):bxE v b=2:=by
 unfold bxE
 rw[if_pos ⟨h1,h2⟩]
 exact fe_at he (by decide) hc hj
theorem _root_.Go.AM.au26 {p:Prop} (h:p:=by repeat' (first|exact RB.nil|(refine RnL.same ?_;first|rfl|(simp only[noRef,noRefs,Qah,Bool.and_self,Bool.and_true,Bool.true_and,Qaa,Qat,Qaf,QaD,Qax,Qav];done))|exact RnM.keyM rfl|exact RnL.nil|exact(True.intro:RnM _ _ _ [] [])|refine RnL.cons ?_ ?_|(refine Rn.same ?_;first|rfl|(simp only[noRef,noRefs,Qah,Bool.and_self,Bool.and_true,Bool.true_and,Qaa,Qat,Qaf,QaD,Qax,Qav];done))|exact Rn.x1 rfl rfl|exact Rn.x2 rfl rfl|exact Rn.x3 rfl rfl|exact Rn.x4 rfl rfl|exact Rn.x5 rfl|exact Rn.x6 rfl|exact Rn.x7 rfl|refine RB.newnil rfl rfl ?_|refine RB.cells rfl rfl rfl ?_ ?_|refine RB.map rfl rfl rfl ?_ ?_|refine RB.cellsB rfl rfl ?_ ?_|refine RB.mapB rfl rfl ?_ ?_)):p:=h
theorem _root_.Go.AM.au27 {p:Prop} (h:p:=by repeat (first|exact RT.nil|(refine RT.cons ?_ ?_; · (first|exact Rn.any|exact Rn.x1 rfl rfl|exact Rn.x2 rfl rfl|exact Rn.x3 rfl rfl|exact Rn.x4 rfl rfl|exact Rn.x5 rfl|exact Rn.x6 rfl|exact Rn.x7 rfl|(refine Rn.slot ?_ ?_;(first|rfl|(rw[Int.natCast_add];rfl));(first|rfl|(simp only[noRef,noRefs,Qah,Bool.and_self,Bool.and_true,Bool.true_and,Qaa,Qat,Qaf,QaD,Qax,Qav];done)))|(refine Rn.fn ?_ ?_<;>(repeat' (first|exact RnL.nil|refine RnL.cons ?_ ?_|exact Rn.same rfl|exact Rn.x6 rfl|exact Rn.x2 rfl rfl|exact Rn.x5 rfl|exact Rn.x1 rfl rfl))))))):p:=h
theorem cbx139 (v : List (List UInt8 × Int)) (l : List Bxn) (hv : v.length <= 1000) (hl : l.length <= 9223372036854775807) (hll : ∀ b ∈ l, b.lo.length <= 9223372036854775807 /\ b.hi.length <= 9223372036854775807) :
    PSpec Tryz.prog 139 [vrsV v,bxsV l] (.int .i64 (bxsE v l)):=by
  refine PSpec.Qas 64 UK.ok139 rfl (by rw[noRefs,Qar,noRefs,Qfs];rfl) rfl ?_
  simp(disch:=first|omega|exact PairsOK.mk rfl|(simp only[lenW]<;>omega)) only[UK.s139,wW,wV,simprocAttr]
  refine QaJ 100 (fun i:Nat=>[(0,vrsV v),(9,bxsV l),(10,.int .i64 l.length),(11,.int .i64 i)]) (fun _=>[]) (fun i=>i<=l.length/\∀j,j<i->bxE v (l.getD j bx0)=0) (fun i=>l.length-i) 0 ⟨[],rfl,au0,au26,au27⟩ ⟨Nat.zero_le _,fun j hj=>absurd hj (Nat.not_lt_zero _)⟩ ?_
  rintro i ⟨hi,hb⟩
  by_cases hlt:i<l.length
  · obtain ⟨b, hx⟩ := Qaj hlt
    have hdr:=QdG hx
    have hdl:2<=((l.flatMap bxC).drop (i*2)).length:=by rw[hdr];simp
    obtain⟨hl1,hl2⟩:=hll b (List.mem_of_getElem? hx)
    by_cases a1:(b.lo.length:Int)=(v.length:Int)
    · by_cases a2 : (b.hi.length : Int) = (v.length : Int)
      · simp (disch := first | omega | exact PairsOK.mk rfl | (simp only [lenW] <;> omega)) only [hlt, hdr, hdl, a1, a2, wW, wV, simprocAttr]
        have e1:b.lo.length=v.length:=by omega
        have e2:b.hi.length=v.length:=by omega
        refine QaJ 140 (fun j:Nat=>[(0,vrsV v),(9,bxsV l),(10,.int .i64 l.length),(11,.int .i64 i),(6,.ptr 51 0 0),(29,vrsV v),(30,.int .i64 v.length),(31,.int .i64 j)]) (fun _=>[(51,.cells 0 [sli b.lo,sli b.hi])]) (fun j=>j<=v.length/\∀k,k<j->vrE v b k=0) (fun j=>v.length-j) 0 ⟨[(51,.blk 103 0)],rfl,au0,au26,au27⟩ ⟨Nat.zero_le _,fun j hj=>absurd hj (Nat.not_lt_zero _)⟩ ?_
        rintro j ⟨hj,hc⟩
        by_cases hlj:j<v.length
        · obtain ⟨x, hvx⟩ := Qaj hlj
          obtain⟨p,hp⟩:=Qaj (l:=b.lo) (i:=j) (by omega)
          obtain⟨q,hq⟩:=Qaj (l:=b.hi) (i:=j) (by omega)
          have hlp:j<b.lo.length:=by omega
          have hlq:j<b.hi.length:=by omega
          have hdv:=QbO hvx
          have hdw:4<=((v.flatMap vrC).drop (j*4)).length:=by rw[hdv];simp
          have hve:∀e,(if p<0\/x.2<q\/q<p then(2:Int)else 0)=e->vrE v b j=e:=fun e h=>by unfold vrE;rw[QaB hvx,QaB hp,QaB hq];exact h
          by_cases b1:p<0
          · simp (disch := first | omega | exact PairsOK.mk rfl | (simp only [lenW] <;> omega)) only [hlj, hlp, hlq, hdv, hdw, QaR hp, QaR hq, b1, wW, wV, simprocAttr]
            exact⟨.inr trivial,_,rfl,by rw[bx_at hx (vr_at e1 e2 hlj (hve 2 (if_pos (.inl b1))) hc) (by decide) hb];rfl⟩
          by_cases b2:x.2<q
          · simp (disch := first | omega | exact PairsOK.mk rfl | (simp only [lenW] <;> omega)) only [hlj, hlp, hlq, hdv, hdw, QaR hp, QaR hq, b1, b2, wW, wV, simprocAttr]
            exact⟨.inr trivial,_,rfl,by rw[bx_at hx (vr_at e1 e2 hlj (hve 2 (if_pos (.inr (.inl b2)))) hc) (by decide) hb];rfl⟩
          by_cases b3:q<p
          · simp (disch := first | omega | exact PairsOK.mk rfl | (simp only [lenW] <;> omega)) only [hlj, hlp, hlq, hdv, hdw, QaR hp, QaR hq, b1, b2, b3, wW, wV, simprocAttr]
            exact⟨.inr trivial,_,rfl,by rw[bx_at hx (vr_at e1 e2 hlj (hve 2 (if_pos (.inr (.inr b3)))) hc) (by decide) hb];rfl⟩
          simp(disch:=first|omega|exact PairsOK.mk rfl|(simp only[lenW]<;>omega)) only[hlj,hlp,hlq,hdv,hdw,QaR hp,QaR hq,b1,b2,b3,wW,wV,simprocAttr]
          exact⟨j+1,by omega,⟨by omega,fe_up hc (hve 0 (if_neg (by omega)))⟩,⟨[(51,.blk 51 0)],rfl,au0,au26,au27⟩⟩
        · simp (disch := first | omega | exact PairsOK.mk rfl | (simp only [lenW] <;> omega)) only [hlj, wW, wV, simprocAttr]
          exact⟨i+1,by omega,⟨by omega,fe_up hb (by rw[QaB hx];unfold bxE;rw[if_pos ⟨e1,e2⟩];exact Qeu fun k hk=>hc k (by omega))⟩,⟨[],rfl,au0,au26,au27⟩⟩
      · simp (disch := first | omega | exact PairsOK.mk rfl | (simp only [lenW] <;> omega)) only [hlt, hdr, hdl, a1, a2, wW, wV, simprocAttr]
        exact⟨.inr trivial,_,rfl,by rw[bx_at hx (e:=4) (by unfold bxE;rw[if_neg (by omega)]) (by decide) hb];rfl⟩
    · simp (disch := first | omega | exact PairsOK.mk rfl | (simp only [lenW] <;> omega)) only [hlt, hdr, hdl, a1, wW, wV, simprocAttr]
      exact⟨.inr trivial,_,rfl,by rw[bx_at hx (e:=4) (by unfold bxE;rw[if_neg (by omega)]) (by decide) hb];rfl⟩
  · simp (disch := first | omega | exact PairsOK.mk rfl | (simp only [lenW] <;> omega)) only [hlt, wW, wV, simprocAttr]
    exact⟨.inr trivial,_,rfl,by rw[bxsE,Qeu fun j hj=>hb j (by omega)];rfl⟩
end Go.AM.SO
namespace Go.AM.SO
open Go.Proofs Go.AM.SD Go.AM.SE
abbrev ctC (c:Cel) (k:Nat):Bool:=(c.ev k).c
def gF (ct:Nat->Bool) (v:List (List UInt8×Int)) (l:List Gdn) (i:Nat):Int:=gdE ct v (decide (i=0)) (l.getD (i-1) gd0) (l.getD i gd0)
theorem QeA {ct:Nat->Bool} {v:List (List UInt8×Int)} {l:List Gdn} {i:Nat} {e:Int} (hi:i<l.length) (he:gF ct v l i=e) (h0:e≠0) (hc:∀j,j<i->gF ct v l j=0):gdsE ct v l=e:=fe_at (f:=gF ct v l) he h0 hc hi
theorem gF_2 {ct:Nat->Bool} {v:List (List UInt8×Int)} {l:List Gdn} {i:Nat} {g:Gdn} (hg:l[i]?=some g) (h:g.ev<0\/5<=g.ev):gF ct v l i=2:=by
 unfold gF gdE;rw[QaB hg,if_pos h]
theorem gF_11 {ct:Nat->Bool} {v:List (List UInt8×Int)} {l:List Gdn} {i:Nat} {g:Gdn} (hg:l[i]?=some g) (h:¬(g.ev<0\/5<=g.ev)) (h1:ct g.ev.toNat=false):gF ct v l i=11:=by
 unfold gF gdE;rw[QaB hg,if_neg h,if_pos h1]
theorem gF_5 {ct:Nat->Bool} {v:List (List UInt8×Int)} {l:List Gdn} {i:Nat} {g y:Gdn} (hg:l[i]?=some g) (hy:l[i-1]?=some y) (h:¬(g.ev<0\/5<=g.ev)) (h1:ct g.ev.toNat=true) (h2:0<i) (h3:g.ev<=y.ev):gF ct v l i=5:=by
 unfold gF gdE;rw[QaB hg,QaB hy,if_neg h,if_neg (by rw[h1];decide),if_pos ⟨decide_eq_false (by omega),h3⟩]
theorem gF_b {ct:Nat->Bool} {v:List (List UInt8×Int)} {l:List Gdn} {i:Nat} {g:Gdn} (hg:l[i]?=some g) (h:¬(g.ev<0\/5<=g.ev)) (h1:ct g.ev.toNat=true) (h2:i=0\/∀y,l[i-1]?=some y->¬g.ev<=y.ev):gF ct v l i=bxsE v g.bs:=by
 unfold gF gdE
 rw[QaB hg,if_neg h,if_neg (by rw[h1];decide),if_neg]
 rintro⟨h3,h4⟩
 have h3:¬i=0:=of_decide_eq_false h3
 rcases h2 with h2|h2
 ·exact h3 h2
 ·have hl := (List.getElem?_eq_some_iff.1 hg).1
  obtain⟨y,hy⟩:=Qaj (l:=l) (i:=i-1) (by omega)
  rw[QaB hy]at h4
  exact h2 y hy h4
theorem ev_at (e:Nat->Evt) {k:Nat} (hk:k<5):(evl e)[k]?=some ([UInt8.ofNat (97+k)],e k):=by
 unfold evl
 rw[List.getElem?_map,List.getElem?_range hk];rfl
theorem QeY (e:Nat->Evt) {k:Nat} (hk:k<5):(evsC e).drop (k*5)= .str [UInt8.ofNat (97+k)]:: .bool (e k).c:: .bool (e k).o:: .bool (e k).f:: .int .i64 ((e k).flt:Int)::((evl e).drop (k+1)).flatMap evN:=QoR (ev_at e hk)
theorem QpR (e:Nat->Evt):(evsC e).length=25:=QpM (evl e)
end Go.AM.SO
namespace Go.AM.SO
open Go.Proofs Go.AM.SD Go.AM.SE
theorem _root_.Go.AM.au28 {p:Prop} (h:p:=by repeat (first|exact RT.nil|(refine RT.cons ?_ ?_; · (first|exact Rn.any|exact Rn.x1 rfl rfl|exact Rn.x2 rfl rfl|exact Rn.x3 rfl rfl|exact Rn.x4 rfl rfl|exact Rn.x5 rfl|exact Rn.x6 rfl|exact Rn.x7 rfl|(refine Rn.slot ?_ ?_;(first|rfl|(rw[Int.natCast_add];rfl));(first|rfl|(simp only[noRef,noRefs,Qah,Bool.and_self,Bool.and_true,Bool.true_and,Qaa,Qat,Qaf,Qav,Qbz];done)))|(refine Rn.fn ?_ ?_<;>(repeat' (first|exact RnL.nil|refine RnL.cons ?_ ?_|exact Rn.same rfl|exact Rn.x6 rfl|exact Rn.x2 rfl rfl|exact Rn.x5 rfl|exact Rn.x1 rfl rfl))))))):p:=h
theorem vars99 (c:Cel) (h:WfCel c):PSpec Tryz.prog 99 [celV c] (vrsV (vrsL c)):=by
  have h0:=h.c0
  have h3:=h.c3
  have h2:=h.r2
  have hn3:=Qn5 h
  rw[vrs_N]
  have hLl:=Qkz c
  refine PSpec.of_rn 64 UK.ok99 rfl (by rw[noRefs,SU.Qbb];rfl) (Qar _) ?_
  have hla:(nmL' 99 c.cs).length=c.cs.length:=by simp[nmL']
  have hlb:(nmL' 114 c.rs).length=c.rs.length:=by simp[nmL']
  rw[show celV c= .agg [evsV c.ev,itsN (nmL' 99 c.cs),itsN (nmL' 114 c.rs),exs c.xs,cos c.ks] from by rw[celV,Qhv,Qhv]]
  unfold itsL at*
  generalize nmL' 99 c.cs=A at*
  generalize nmL' 114 c.rs=B at*
  have hfl:[A,B].flatten=A++B:=by simp
  have hC:=concat158 [A,B] (by show 2<=1000;decide) (by rw[hfl];omega) (by rw[hfl];omega)
  rw[hfl]at hC
  simp(disch:=first|omega|exact PairsOK.mk rfl|(simp only[lenW]<;>omega)) only[UK.s99,wW,wV,simprocAttr]
  refine ch (HSpec.give1 (g:=0) (ds:=[itsN A,itsN B]) hC gg (by rw[noRefs,QcX,noRefs,QcX];rfl) rfl rfl) ?_
  generalize A++B=L at*
  have hL5:L.length<=5:=by omega
  simp(disch:=first|omega|exact PairsOK.mk rfl|(simp only[lenW]<;>omega)) only[wW,wV,simprocAttr]
  refine Qaz 100 (fun i:Nat=>[(3,.sl 60 0 0 i 4),(11,itsN L),(12,.int .i64 L.length),(13,.int .i64 i)]) (fun i=>[(60,.cells 0 (((L.take i).map vrN).flatMap vrC))]) (fun i=>i<=L.length) (fun i=>L.length-i) 0 0 160 (fun _:Unit=>[(3,vrsV (L.map vrN))]) (fun _=>[]) (fun _=>True) ?_ (Nat.zero_le _) ?_ ?_
  · refine ⟨[(60, .nil)], rfl, au0, ?_, au28⟩
    exact RB.newnil rfl rfl RB.nil
  · rintro i hi
    by_cases hlt:i<L.length
    · obtain ⟨x, hx⟩ := Qaj hlt
      have hdr:=Ql2 hx
      have hdl:5<=((L.flatMap itN).drop (i*5)).length:=by rw[hdr];simp
      have htl:((L.take i).map vrN).length=i:=by rw[List.length_map,List.length_take];omega
      have htm:(((L.take i).map vrN).flatMap vrC).length=i*4:=by rw[Qft,htl]
      have hn:=hn3 x (List.mem_of_getElem? hx)
      simp(disch:=first|omega|exact PairsOK.mk rfl|(simp only[lenW]<;>omega)) only[hlt,hdr,hdl,htm,wW,wV,simprocAttr]
      refine⟨i+1,by omega,by omega,?_⟩
      rw[take_succ' hx,List.map_append,List.flatMap_append,Qn6]
      refine⟨[(60,.blk 60 1)],rfl,au0,?_,au28⟩
      exact RB.cells rfl rfl gg (RnL.same (SU.QaT (Qav _) (Qav [vrN x]))) RB.nil
    · have e : i = L.length := by omega
      subst e
      simp(disch:=first|omega|exact PairsOK.mk rfl|(simp only[lenW]<;>omega)) only[hlt,List.take_length,wW,wV,simprocAttr]
      exact⟨(),[],rfl,RO.zero,RB.nil,RT.cons (Rn.fzm (b:=60) (g:=0) gg rfl rfl (List.length_map ..) (by rw[Qft,List.length_map]) (RnL.same (Qav _))) RT.nil⟩
  rintro _ _
  simp(disch:=first|omega|exact PairsOK.mk rfl|(simp only[lenW]<;>omega)) only[wW,wV,simprocAttr]
  exact⟨.inr trivial,_,rfl,Rn.same (Qar _)⟩
theorem _root_.Go.AM.au29 {p:Prop} (h:p:=by repeat' (first|exact RB.nil|(refine RnL.same ?_;first|rfl|(simp only[noRef,noRefs,Qah,Bool.and_self,Bool.and_true,Bool.true_and,Qaa,Qat,Qaf,Qav,Qbz];done))|exact RnM.keyM rfl|exact RnL.nil|exact(True.intro:RnM _ _ _ [] [])|refine RnL.cons ?_ ?_|(refine Rn.same ?_;first|rfl|(simp only[noRef,noRefs,Qah,Bool.and_self,Bool.and_true,Bool.true_and,Qaa,Qat,Qaf,Qav,Qbz];done))|exact Rn.x1 rfl rfl|exact Rn.x2 rfl rfl|exact Rn.x3 rfl rfl|exact Rn.x4 rfl rfl|exact Rn.x5 rfl|exact Rn.x6 rfl|exact Rn.x7 rfl|refine RB.newnil rfl rfl ?_|refine RB.cells rfl rfl rfl ?_ ?_|refine RB.map rfl rfl rfl ?_ ?_|refine RB.cellsB rfl rfl ?_ ?_|refine RB.mapB rfl rfl ?_ ?_)):p:=h
theorem first44 (c:Cel) (h:WfCel c):PSpec Tryz.prog 44 [celV c] (.tup [vrsV (vrsL c),.int .i64 0]):=by
  have hv:=vars99 c h
  have hC:=check21 c h
  refine PSpec.Qas 64 UK.ok44 rfl (by rw[noRefs,SU.Qbb];rfl) (by rw[noRef,noRefs,Qar];rfl) ?_
  have hin:=QdI h
  have h5:=Qce h
  generalize vrsL c=v at*
  simp(disch:=first|omega|exact PairsOK.mk rfl|(simp only[lenW]<;>omega)) only[UK.s44,wW,wV,simprocAttr]
  refine cp hC ?_
  simp(disch:=first|omega|exact PairsOK.mk rfl|(simp only[lenW]<;>omega)) only[wW,wV,simprocAttr]
  refine cp hv ?_
  simp(disch:=first|omega|exact PairsOK.mk rfl|(simp only[lenW]<;>omega)) only[wW,wV,simprocAttr]
  refine QaJ 100 (fun i:Nat=>[(5,vrsV v),(6,.int .i64 (szV 1 (v.take i))),(16,vrsV v),(17,.int .i64 v.length),(18,.int .i64 i)]) (fun _=>[]) (fun i=>i<=v.length) (fun i=>v.length-i) 0 ⟨[],rfl,au0,au29,au28⟩ (Nat.zero_le _) ?_
  rintro i hi
  by_cases hlt:i<v.length
  · obtain ⟨x, hx⟩ := Qaj hlt
    have hdr:=QbO hx
    have hdl:4<=((v.flatMap vrC).drop (i*4)).length:=by rw[hdr];simp
    have b1:=Qcq hin h5 i
    have b2:=hin x (List.mem_of_getElem? hx)
    have b3:=Qcq hin h5 (i+1)
    have e3:=QeX hx
    rw[e3]at b3
    generalize szV 1 (v.take i)=S at*
    have b4:¬(4096:Int)<S*(x.2+1):=by omega
    simp(disch:=first|omega|exact PairsOK.mk rfl|(simp only[lenW]<;>omega)) only[hlt,hdr,hdl,b4,wW,wV,simprocAttr]
    refine⟨i+1,by omega,by omega,?_⟩
    rw[e3]
    exact⟨[],rfl,au0,au29,au28⟩
  · simp (disch := first | omega | exact PairsOK.mk rfl | (simp only [lenW] <;> omega)) only [hlt, wW, wV, simprocAttr]
    exact⟨.inr trivial,_,rfl,rfl⟩
end Go.AM.SO
namespace Go.AM.SO
open Go.Proofs Go.AM.SD Go.AM.SE
def ckA (e:Int) (v:List (List UInt8×Int)):AV:=if e=0 then vrsV v else .nilsl
abbrev ckV (e:Int) (v:List (List UInt8×Int)):AV:= .tup [ckA e v,.int .i64 e]
theorem QoY (e:Int) (v:List (List UInt8×Int)):noRef (ckV e v)=true:=by
 unfold ckV ckA
 split
 ·rw[noRef,noRefs,Qar];rfl
 ·rfl
theorem ckA_0 {v:List (List UInt8×Int)}:ckA 0 v=vrsV v:=if_pos rfl
theorem Qn8 {e:Int} {v:List (List UInt8×Int)} (h:e≠0):ckA e v= .nilsl:=if_neg h
theorem _root_.Go.AM.au30 {p:Prop} (h:p:=by repeat (first|exact RT.nil|(refine RT.cons ?_ ?_; · (first|exact Rn.any|exact Rn.x1 rfl rfl|exact Rn.x2 rfl rfl|exact Rn.x3 rfl rfl|exact Rn.x4 rfl rfl|exact Rn.x5 rfl|exact Rn.x6 rfl|exact Rn.x7 rfl|(refine Rn.slot ?_ ?_;(first|rfl|(rw[Int.natCast_add];rfl));(first|rfl|(simp only[noRef,noRefs,Qah,Bool.and_self,Bool.and_true,Bool.true_and,Qaa,Qat,Qaf,QaD,Qax,Qav,SU.QbG,SU.Qbd,SU.QbY];done)))|(refine Rn.fn ?_ ?_<;>(repeat' (first|exact RnL.nil|refine RnL.cons ?_ ?_|exact Rn.same rfl|exact Rn.x6 rfl|exact Rn.x2 rfl rfl|exact Rn.x5 rfl|exact Rn.x1 rfl rfl))))))):p:=h
theorem _root_.Go.AM.au31 {p:Prop} (h:p:=by repeat' (first|exact RB.nil|(refine RnL.same ?_;first|rfl|(simp only[noRef,noRefs,Qah,Bool.and_self,Bool.and_true,Bool.true_and,Qaa,Qat,Qaf,QaD,Qax,Qav,SU.QbG,SU.Qbd,SU.QbY];done))|exact RnM.keyM rfl|exact RnL.nil|exact(True.intro:RnM _ _ _ [] [])|refine RnL.cons ?_ ?_|(refine Rn.same ?_;first|rfl|(simp only[noRef,noRefs,Qah,Bool.and_self,Bool.and_true,Bool.true_and,Qaa,Qat,Qaf,QaD,Qax,Qav,SU.QbG,SU.Qbd,SU.QbY];done))|exact Rn.x1 rfl rfl|exact Rn.x2 rfl rfl|exact Rn.x3 rfl rfl|exact Rn.x4 rfl rfl|exact Rn.x5 rfl|exact Rn.x6 rfl|exact Rn.x7 rfl|refine RB.newnil rfl rfl ?_|refine RB.cells rfl rfl rfl ?_ ?_|refine RB.map rfl rfl rfl ?_ ?_|refine RB.cellsB rfl rfl ?_ ?_|refine RB.mapB rfl rfl ?_ ?_)):p:=h
theorem checked71 (c : Cel) (h : WfCel c) (l : List Gdn) (hr : GdsR l) : PSpec Tryz.prog 71 [celV c, gdsV l] (ckV (gdsE (ctC c) (vrsL c) l) (vrsL c)) := by
  have hv:=first44 c h
  have hnr:=Qb1 c
  refine PSpec.Qas 64 UK.ok71 rfl (by rw[noRefs,SU.Qbb,noRefs,Qby];rfl) (QoY _ _) ?_
  have h5:=Qce h
  have hel:=QpR c.ev
  generalize vrsL c=v at*
  simp(disch:=first|omega|exact PairsOK.mk rfl|(simp only[lenW]<;>omega)) only[UK.s71,wW,wV,simprocAttr]
  refine cp hv ?_
  simp(disch:=first|omega|exact PairsOK.mk rfl|(simp only[lenW]<;>omega)) only[wW,wV,simprocAttr]
  refine QaJ 100 (fun i:Nat=>[(1,gdsV l),(2,.ptr 50 0 0),(6,vrsV v),(19,gdsV l),(20,.int .i64 l.length),(21,.int .i64 i)]) (fun _=>[(50,.cells 0 [evsV c.ev,its 99 c.cs,its 114 c.rs,exs c.xs,cos c.ks])]) (fun i=>i<=l.length/\∀j,j<i->gF (ctC c) v l j=0) (fun i=>l.length-i) 0 ?_ ⟨Nat.zero_le _,fun j hj=>absurd hj (Nat.not_lt_zero _)⟩ ?_
  · refine ⟨[(50, .blk 64 0)], rfl, au0, ?_, au30⟩
    exact RB.cells rfl rfl gg (RnL.same hnr) RB.nil
  rintro i ⟨hi,hb⟩
  have hrl:=hr.len
  by_cases hlt:i<l.length
  · obtain ⟨g, hg⟩ := Qaj hlt
    have hdr:=QcM hg
    have hdl:2<=((l.flatMap gdC).drop (i*2)).length:=by rw[hdr];simp
    have hrb:=hr.bl g (List.mem_of_getElem? hg)
    by_cases a1:g.ev<0
    · simp (disch := first | omega | exact PairsOK.mk rfl | (simp only [lenW] <;> omega)) only [hlt, hdr, hdl, a1, wW, wV, simprocAttr]
      exact⟨.inr trivial,_,rfl,by rw[QeA hlt (gF_2 hg (.inl a1)) (by decide) hb];rfl⟩
    by_cases a2:5<=g.ev
    · simp (disch := first | omega | exact PairsOK.mk rfl | (simp only [lenW] <;> omega)) only [hlt, hdr, hdl, a1, a2, wW, wV, simprocAttr]
      exact⟨.inr trivial,_,rfl,by rw[QeA hlt (gF_2 hg (.inr a2)) (by decide) hb];rfl⟩
    have a12:¬(g.ev<0\/5<=g.ev):=by omega
    obtain⟨K,hK⟩:∃K:Nat,g.ev=(K:Int):=⟨g.ev.toNat,by omega⟩
    have hK5:K<5:=by omega
    have hdK:=QeY c.ev hK5
    have hdL:5<=((evsC c.ev).drop (K*5)).length:=by rw[hdK];simp
    have hKn:g.ev.toNat=K:=by omega
    have g1:¬(K:Int)<0:=by omega
    have g2:¬(5:Int)<=(K:Int):=by omega
    by_cases a3:(c.ev K).c=true
    · have hct : ctC c g.ev.toNat = true := by rw [hKn]; exact a3
      by_cases i0:i=0
      · have hG : gF (ctC c) v l i = bxsE v g.bs := gF_b hg a12 hct (.inl i0)
        have a4:¬(0:Int)<(i:Int):=by omega
        have hcb:=cbx139 v g.bs (by omega) hrb (hr.ll g (List.mem_of_getElem? hg))
        rw[<-hG]at hcb
        simp(disch:=first|omega|exact PairsOK.mk rfl|(simp only[lenW]<;>omega)) only[hlt,hdr,hdl,hK,g1,g2,hK5,hdK,hdL,a3,a4,wW,wV,simprocAttr]
        refine cp hcb ?_
        by_cases h0:gF (ctC c) v l i=0
        · simp (disch := first | omega | exact PairsOK.mk rfl | (simp only [lenW] <;> omega)) only [h0, wW, wV, simprocAttr]
          exact⟨i+1,by omega,⟨by omega,fe_up hb h0⟩,⟨[(50,.blk 50 0)],rfl,au0,au31,au30⟩⟩
        · simp (disch := first | omega | exact PairsOK.mk rfl | (simp only [lenW] <;> omega)) only [h0, wW, wV, simprocAttr]
          exact⟨.inr trivial,_,rfl,by rw[QeA hlt rfl h0 hb,ckV,Qn8 h0];rfl⟩
      · obtain ⟨y, hy⟩ := Qaj (l := l) (i := i - 1) (by omega)
        have a4:(0:Int)<(i:Int):=by omega
        have q5:(i:Int)-1=((i-1:Nat):Int):=by omega
        have q6:((i-1:Nat):Int)<l.length:=by omega
        have q7:i-1<l.length:=by omega
        have hdy:=QcM hy
        have hdm:2<=((l.flatMap gdC).drop ((i-1)*2)).length:=by rw[hdy];simp
        by_cases a5:g.ev<=y.ev
        · have a6 : (K : Int) <= y.ev := by omega
          simp(disch:=first|omega|exact PairsOK.mk rfl|(simp only[lenW]<;>omega)) only[hlt,hdr,hdl,hK,g1,g2,hK5,hdK,hdL,a3,a4,q5,q6,q7,hdy,hdm,a6,wW,wV,simprocAttr]
          exact⟨.inr trivial,_,rfl,by rw[QeA hlt (gF_5 hg hy a12 hct (by omega) a5) (by decide) hb];rfl⟩
        have hG:gF (ctC c) v l i=bxsE v g.bs:=gF_b hg a12 hct (.inr fun z hz=>by rw[hy]at hz;cases hz;exact a5)
        have a6:¬(K:Int)<=y.ev:=by omega
        have hcb:=cbx139 v g.bs (by omega) hrb (hr.ll g (List.mem_of_getElem? hg))
        rw[<-hG]at hcb
        simp(disch:=first|omega|exact PairsOK.mk rfl|(simp only[lenW]<;>omega)) only[hlt,hdr,hdl,hK,g1,g2,hK5,hdK,hdL,a3,a4,q5,q6,q7,hdy,hdm,a6,wW,wV,simprocAttr]
        refine cp hcb ?_
        by_cases h0:gF (ctC c) v l i=0
        · simp (disch := first | omega | exact PairsOK.mk rfl | (simp only [lenW] <;> omega)) only [h0, wW, wV, simprocAttr]
          exact⟨i+1,by omega,⟨by omega,fe_up hb h0⟩,⟨[(50,.blk 50 0)],rfl,au0,au31,au30⟩⟩
        · simp (disch := first | omega | exact PairsOK.mk rfl | (simp only [lenW] <;> omega)) only [h0, wW, wV, simprocAttr]
          exact⟨.inr trivial,_,rfl,by rw[QeA hlt rfl h0 hb,ckV,Qn8 h0];rfl⟩
    · have a3 : (c.ev K).c = false := by simpa using a3
      simp(disch:=first|omega|exact PairsOK.mk rfl|(simp only[lenW]<;>omega)) only[hlt,hdr,hdl,hK,g1,g2,hK5,hdK,hdL,a3,wW,wV,simprocAttr]
      exact⟨.inr trivial,_,rfl,by rw[QeA hlt (gF_11 hg a12 (by rw[hKn];exact a3)) (by decide) hb];rfl⟩
  · simp (disch := first | omega | exact PairsOK.mk rfl | (simp only [lenW] <;> omega)) only [hlt, wW, wV, simprocAttr]
    exact⟨.inr trivial,_,rfl,by rw[show gdsE (ctC c) v l=0 from Qeu (f:=gF (ctC c) v l) fun j hj=>hb j (by omega),ckV,ckA_0];rfl⟩
end Go.AM.SO
namespace Go.AM.SO
open Go.Proofs Go.AM.SD Go.AM.SE
theorem cloneI86 (l:List Int) (hl:l.length<=1000000):HSpec Tryz.prog 86 [sli l] .e (.sl 83 0 0 l.length 1) (hp [(83,.cells 0 (ints l))]):=by
 cases l with
 |nil=>exact HSpec.empty QiL QiM
 |cons x l=>
  refine HSpec.Qer 100 ok86 rfl ?_
  have hq:aEq (.nil 2) false (sli (x::l)) .nilsl=some (.bool false):=rfl
  have hone:(ints (x::l)).all AV.one=true:=by simp[ints,AV.one]
  generalize x::l=q at*
  simp(disch:=first|omega|exact PairsOK.mk rfl|(simp only[lenW]<;>omega)) only[s86,hq,hone,wW,wV,simprocAttr]
  exact⟨.inr trivial,_,rfl,⟨[(83,.blk 103 1)],rfl,au0,au26,au27⟩⟩
end Go.AM.SO
namespace Go.AM.SO
open Go.Proofs Go.AM.SD Go.AM.SE
structure VOk (v:List (List UInt8×Int)):Prop where
 l5:v.length<=5
 hin:∀x∈v,0<=x.2/\x.2<=2
 nm:∀x∈v,PSpec Tryz.prog 165 [.str x.1] (.bool true)
 ne:v.Pairwise fun x y=>x.1≠y.1
theorem vok_c {c : Cel} (h : WfCel c) : VOk (vrsL c) := by
  have hb:∀{i j:Nat},i<10->j<10->UInt8.ofNat (48+i)=UInt8.ofNat (48+j)->i=j:=by
    intro i j hi hj he
    have:=congrArg UInt8.toNat he
    simp only[UInt8.toNat_ofNat']at this
    omega
  have hcn:∀x∈c.cs,x.1<3:=fun x hx=>by
    have h1:x.1∈c.cs.map (·.1):=List.mem_map_of_mem hx
    rw[h.cn]at h1
    have:=List.mem_range.1 h1
    have:=h.c3;omega
  have hrn:∀x∈c.rs,x.1<2:=fun x hx=>by
    have h1:x.1∈c.rs.map (·.1):=List.mem_map_of_mem hx
    rw[h.rn]at h1
    have:=List.mem_range.1 h1
    have:=h.r2;omega
  refine⟨Qce h,QdI h,fun x hx=>?_,?_⟩
  · unfold vrsL at hx
    rcases List.mem_append.1 hx with hx|hx
    · obtain ⟨y, hy, rfl⟩ := List.mem_map.1 hx
      exact Qhp (hcn y hy)
    · obtain ⟨y, hy, rfl⟩ := List.mem_map.1 hx
      exact Qn0 (hrn y hy)
  · unfold vrsL
    rw[List.pairwise_append,List.pairwise_map,List.pairwise_map]
    refine⟨?_,?_,fun x hx y hy=>?_⟩
    · have h1 : (c.cs.map (·.1)).Pairwise (· < ·) := by rw [h.cn]; exact List.pairwise_lt_range
      rw[List.pairwise_map]at h1
      refine h1.imp_of_mem fun{x y} hx hy hxy he=>?_
      have e:UInt8.ofNat (48+x.1)=UInt8.ofNat (48+y.1):=by
        have:([99,UInt8.ofNat (48+x.1)]:List UInt8)=[99,UInt8.ofNat (48+y.1)]:=he
        simpa using this
      have:=hb (by have:=hcn x hx;omega) (by have:=hcn y hy;omega) e
      omega
    · have h1 : (c.rs.map (·.1)).Pairwise (· < ·) := by rw [h.rn]; exact List.pairwise_lt_range
      rw[List.pairwise_map]at h1
      refine h1.imp_of_mem fun{x y} hx hy hxy he=>?_
      have e:UInt8.ofNat (48+x.1)=UInt8.ofNat (48+y.1):=by
        have:([114,UInt8.ofNat (48+x.1)]:List UInt8)=[114,UInt8.ofNat (48+y.1)]:=he
        simpa using this
      have:=hb (by have:=hrn x hx;omega) (by have:=hrn y hy;omega) e
      omega
    · obtain ⟨a, _, rfl⟩ := List.mem_map.1 hx
      obtain⟨b,_,rfl⟩:=List.mem_map.1 hy
      intro he
      have he:([99,UInt8.ofNat (48+a.1)]:List UInt8)=[114,UInt8.ofNat (48+b.1)]:=he
      simp at he
theorem large142 (x:Int) (h:0<=x/\x<=2):PSpec Tryz.prog 142 [.int .i64 x,.int .i64 65536] (.bool false):=by
 refine PSpec.Qas 64 WB.ok142 rfl rfl rfl ?_
 have h1:¬65536<x:=by omega
 have h2:¬x< -65536:=by omega
 simp(disch:=first|omega|exact PairsOK.mk rfl|(simp only[lenW]<;>omega)) only[WB.s142,h1,h2,wW,wV,simprocAttr]
 exact⟨.inr trivial,_,rfl,rfl⟩
theorem same208 (x y:List UInt8×Int) (h:x.1≠y.1):PSpec Tryz.prog 208 [.agg (vrC x),.fptr (vrC y)] (.bool false):=by
 refine PSpec.Qas 64 WB.ok208 rfl rfl rfl ?_
 have hq:aBin BinOp.eql (.str x.1) (.str y.1)=some (.bool false):=by simp[aBin,h]
 simp(disch:=first|omega|exact PairsOK.mk rfl|(simp only[lenW]<;>omega)) only[WB.s208,vrC,hq,wW,wV,simprocAttr]
 exact⟨.inr trivial,_,rfl,rfl⟩
theorem index255 (l:List (List UInt8×Int)) (y:List UInt8×Int) (hl:l.length<=1000) (h:∀x∈l,x.1≠y.1):PSpec Tryz.prog 255 [vrsV l,.fn 208 [] [.fptr (vrC y)]] (.int .i64 (-1)):=by
  refine PSpec.Qas 64 WB.ok255 rfl (by rw[noRefs,Qar];rfl) rfl ?_
  simp(disch:=first|omega|exact PairsOK.mk rfl|(simp only[lenW]<;>omega)) only[WB.s255,wW,wV,simprocAttr]
  refine QaJ 100 (fun i:Nat=>[(0,vrsV l),(1,.fn 208 [] [.fptr (vrC y)]),(7,.int .i64 l.length),(8,.int .i64 i)]) (fun _=>[]) (fun i=>i<=l.length) (fun i=>l.length-i) 0 ?_ (Nat.zero_le _) ?_
  · exact⟨[],rfl,RO.zero,RB.nil,RT.cons (Rn.same (Qar _)) (RT.cons (Rn.same rfl) (RT.cons (Rn.same rfl) (RT.cons (Rn.same rfl) RT.nil)))⟩
  rintro i hi
  by_cases hlt:i<l.length
  · obtain ⟨x, hx⟩ := Qaj hlt
    have hdr:=QbO hx
    have hdl:4<=((l.flatMap vrC).drop (i*4)).length:=by rw[hdr];simp
    have hw:=same208 x y (h x (List.mem_of_getElem? hx))
    unfold vrC at hw
    simp(disch:=first|omega|exact PairsOK.mk rfl|(simp only[lenW]<;>omega)) only[hlt,hdr,hdl,wW,wV,simprocAttr]
    refine cpcP hw ?_
    simp(disch:=first|omega|exact PairsOK.mk rfl|(simp only[lenW]<;>omega)) only[wW,wV,simprocAttr]
    refine⟨i+1,by omega,by omega,?_⟩
    exact⟨[],rfl,RO.zero,RB.nil,RT.cons (Rn.same (Qar _)) (RT.cons (Rn.same rfl) (RT.cons (Rn.same rfl) (RT.cons (Rn.same rfl) RT.nil)))⟩
  · simp (disch := first | omega | exact PairsOK.mk rfl | (simp only [lenW] <;> omega)) only [hlt, wW, wV, simprocAttr]
    exact⟨.inr trivial,_,rfl,rfl⟩
theorem contains207 (l:List (List UInt8×Int)) (y:List UInt8×Int) (hl:l.length<=1000) (h:∀x∈l,x.1≠y.1):PSpec Tryz.prog 207 [vrsV l,.fn 208 [] [.fptr (vrC y)]] (.bool false):=by
 have hi:=index255 l y hl h
 refine PSpec.Qas 64 WB.ok207 rfl (by rw[noRefs,Qar];rfl) rfl ?_
 simp(disch:=first|omega|exact PairsOK.mk rfl|(simp only[lenW]<;>omega)) only[WB.s207,wW,wV,simprocAttr]
 refine cp hi ?_
 simp(disch:=first|omega|exact PairsOK.mk rfl|(simp only[lenW]<;>omega)) only[wW,wV,simprocAttr]
 exact⟨.inr trivial,_,rfl,rfl⟩
theorem check167 (v:List (List UInt8×Int)) (h:VOk v):PSpec Tryz.prog 167 [vrsV v] (.int .i64 0):=by
  have h5:=h.l5
  refine PSpec.Qas 64 WA.ok167 rfl (by rw[noRefs,Qar];rfl) rfl ?_
  have h16:¬(16:Int)<(v.length:Int):=by omega
  simp(disch:=first|omega|exact PairsOK.mk rfl|(simp only[lenW]<;>omega)) only[WA.s167,h16,wW,wV,simprocAttr]
  refine QaJ 100 (fun i:Nat=>[(0,vrsV v),(8,vrsV v),(9,.int .i64 v.length),(10,.int .i64 i)]) (fun _=>[]) (fun i=>i<=v.length) (fun i=>v.length-i) 0 ?_ (Nat.zero_le _) ?_
  · exact⟨[],rfl,RO.zero,RB.nil,RT.cons (Rn.same (Qar _)) (RT.cons (Rn.same (Qar _)) (RT.cons (Rn.same rfl) (RT.cons (Rn.same rfl) RT.nil)))⟩
  rintro i hi
  by_cases hlt:i<v.length
  · obtain ⟨x, hx⟩ := Qaj hlt
    have hdr:=QbO hx
    have hdl:4<=((v.flatMap vrC).drop (i*4)).length:=by rw[hdr];simp
    have hxm:=List.mem_of_getElem? hx
    have hN:=h.nm x hxm
    have x2:=h.hin x hxm
    have hL0:=large142 0 (by decide)
    have hL1:=large142 x.2 x2
    have hne:∀y∈v.take i,y.1≠x.1:=by
      intro y hy
      obtain⟨j,hj,rfl⟩:=List.getElem_of_mem hy
      have hj2:=hj
      rw[List.length_take]at hj2
      have:=List.pairwise_iff_getElem.1 h.ne j i (by omega) hlt (by omega)
      rw[List.getElem_take]
      rw[(List.getElem?_eq_some_iff.1 hx).2]at this
      exact this
    have hC:=contains207 (v.take i) x (by rw[List.length_take];omega) hne
    have htk:(v.flatMap vrC).take (i*4)=(v.take i).flatMap vrC:=by
      have e:(v.take i).length=i:=by rw[List.length_take];omega
      have e2:v.flatMap vrC=(v.take i).flatMap vrC++(v.drop i).flatMap vrC:=by rw[<-List.flatMap_append,List.take_append_drop]
      rw[e2,List.take_left' (by rw[Qft,e])]
    have htl:(v.take i).length=i:=by rw[List.length_take];omega
    have hC':PSpec Tryz.prog 207 [.fsl ((v.flatMap vrC).take (i*4)) i 4,.fn 208 [] [.fptr [.str x.1,.int .i64 0,.int .i64 x.2,.int .i64 0]]] (.bool false):=by
      rw[htk]
      have e:vrsV (v.take i)= .fsl ((v.take i).flatMap vrC) i 4:=by rw[vrsV,htl]
      rw[<-e];exact hC
    have n1:¬x.2<0:=by omega
    simp(disch:=first|omega|exact PairsOK.mk rfl|(simp only[lenW]<;>omega)) only[hlt,hdr,hdl,wW,wV,simprocAttr]
    refine cp hN ?_
    simp(disch:=first|omega|exact PairsOK.mk rfl|(simp only[lenW]<;>omega)) only[hlt,wW,wV,simprocAttr]
    refine ch (HSpec.lend (FrzL.cons (FrzTo.same _) (FrzL.cons (FrzTo.fn FrzL.nil (FrzL.cons (FrzTo.ptr gg (FrzL.same _)) FrzL.nil)) FrzL.nil)) hC' rfl) ?_
    simp(disch:=first|omega|exact PairsOK.mk rfl|(simp only[lenW]<;>omega)) only[wW,wV,simprocAttr]
    refine cp hL0 ?_
    simp(disch:=first|omega|exact PairsOK.mk rfl|(simp only[lenW]<;>omega)) only[wW,wV,simprocAttr]
    refine cp hL1 ?_
    simp(disch:=first|omega|exact PairsOK.mk rfl|(simp only[lenW]<;>omega)) only[n1,wW,wV,simprocAttr]
    refine⟨i+1,by omega,by omega,?_⟩
    exact⟨[],rfl,RO.zero,RB.nil,RT.cons (Rn.same (Qar _)) (RT.cons (Rn.same (Qar _)) (RT.cons (Rn.same rfl) (RT.cons (Rn.same rfl) RT.nil)))⟩
  · simp (disch := first | omega | exact PairsOK.mk rfl | (simp only [lenW] <;> omega)) only [hlt, wW, wV, simprocAttr]
    exact⟨.inr trivial,_,rfl,rfl⟩
theorem _root_.Go.AM.au32 {p:Prop} (h:p:=by repeat (first|exact RT.nil|(refine RT.cons ?_ ?_; · (first|exact Rn.any|exact Rn.x1 rfl rfl|exact Rn.x2 rfl rfl|exact Rn.x3 rfl rfl|exact Rn.x4 rfl rfl|exact Rn.x5 rfl|exact Rn.x6 rfl|exact Rn.x7 rfl|(refine Rn.slot ?_ ?_;(first|rfl|(rw[Int.natCast_add];rfl));(first|rfl|(simp only[noRef,noRefs,Qah,Bool.and_self,Bool.and_true,Bool.true_and,Qaa,Qat,Qaf,QaD,Qax,Qav,Qbs,Qcr];done)))|(refine Rn.fn ?_ ?_<;>(repeat' (first|exact RnL.nil|refine RnL.cons ?_ ?_|exact Rn.same rfl|exact Rn.x6 rfl|exact Rn.x2 rfl rfl|exact Rn.x5 rfl|exact Rn.x1 rfl rfl))))))):p:=h
theorem all111 (v : List (List UInt8 × Int)) (h : VOk v) : PSpec Tryz.prog 111 [vrsV v] (.tup [liV (dom v), .int .i64 0]) := by
  have h5:=h.l5
  have hin:=h.hin
  have hck:=check167 v h
  refine PSpec.of_rn 64 WA.ok111 rfl (by rw[noRefs,Qar];rfl) (by simp only[noRef,noRefs,Qbs];rfl) ?_
  simp(disch:=first|omega|exact PairsOK.mk rfl|(simp only[lenW]<;>omega)) only[WA.s111,wW,wV,simprocAttr]
  refine cp hck ?_
  simp(disch:=first|omega|exact PairsOK.mk rfl|(simp only[lenW]<;>omega)) only[wW,wV,simprocAttr]
  refine QaJ 100 (fun i:Nat=>[(0,vrsV v),(5,.int .i64 (szV 1 (v.take i))),(20,vrsV v),(21,.int .i64 v.length),(22,.int .i64 i)]) (fun _=>[]) (fun i=>i<=v.length) (fun i=>v.length-i) 0 ?_ (Nat.zero_le _) ?_
  · exact⟨[],rfl,RO.zero,RB.nil,RT.cons (Rn.same (Qar _)) (RT.cons (Rn.same rfl) (RT.cons (Rn.same (Qar _)) (RT.cons (Rn.same rfl) (RT.cons (Rn.same rfl) RT.nil))))⟩
  rintro i hi
  by_cases hlt:i<v.length
  · obtain ⟨x, hx⟩ := Qaj hlt
    have hdr:=QbO hx
    have hdl:4<=((v.flatMap vrC).drop (i*4)).length:=by rw[hdr];simp
    have x2:=hin x (List.mem_of_getElem? hx)
    have b1:=Qcq hin h5 i
    have b2:=Qcq hin h5 (i+1)
    have es:=QeX hx
    rw[es]at b2
    generalize szV 1 (v.take i)=S at*
    have b3:¬4096<S*(x.2+1):=by omega
    have e0:x.2-0=x.2:=by omega
    simp(disch:=first|omega|exact PairsOK.mk rfl|(simp only[lenW]<;>omega)) only[hlt,hdr,hdl,b3,e0,wW,wV,simprocAttr]
    refine⟨i+1,by omega,by omega,?_⟩
    rw[es]
    exact⟨[],rfl,RO.zero,RB.nil,RT.cons (Rn.same (Qar _)) (RT.cons (Rn.same rfl) (RT.cons (Rn.same (Qar _)) (RT.cons (Rn.same rfl) (RT.cons (Rn.same rfl) RT.nil))))⟩
  simp(disch:=first|omega|exact PairsOK.mk rfl|(simp only[lenW]<;>omega)) only[hlt,wW,wV,simprocAttr]
  refine QaJ 120 (fun i:Nat=>[(8,liV (dom (v.take i))),(38,vrsV v),(39,.int .i64 v.length),(40,.int .i64 i)]) (fun _=>[]) (fun i=>i<=v.length) (fun i=>v.length-i) 0 ?_ (Nat.zero_le _) ?_
  · refine⟨[],rfl,RO.zero,RB.nil,RT.cons (Rn.fz (b:=101) (g:=0) gg rfl rfl rfl (RnL.cons Rn.nilK RnL.nil)) (RT.cons (Rn.same (Qar v)) au32)⟩
  rintro i hi
  by_cases hlt:i<v.length
  · obtain ⟨x, hx⟩ := Qaj hlt
    have hdr:=QbO hx
    have hdl:4<=((v.flatMap vrC).drop (i*4)).length:=by rw[hdr];simp
    have hx2:=hin x (List.mem_of_getElem? hx)
    have hdS:=QgN hx
    have hLl:(dom (v.take i)).length<=243:=by
      have h1:=QpP hin i hi
      have h2:=Qcq hin h5 i
      omega
    have hel:∀t∈dom (v.take i),t.length<=5:=fun t ht=>by rw[Qn4 i hi t ht];omega
    generalize dom (v.take i)=L at*
    simp(disch:=first|omega|exact PairsOK.mk rfl|(simp only[lenW]<;>omega)) only[hlt,hdr,hdl,wW,wV,simprocAttr]
    refine Qaz 140 (fun k:Nat=>[(10,.ptr 53 0 0),(11,.sl 76 0 0 (domP L x.2 k 0).length 1),(38,vrsV v),(39,.int .i64 v.length),(40,.int .i64 i),(44,liV L),(45,.int .i64 L.length),(46,.int .i64 k)]) (fun k=>[(53,.cells 0 [.str x.1,.int .i64 0,.int .i64 x.2,.int .i64 0]),(76,.cells 0 ((domP L x.2 k 0).map sli))]) (fun k=>k<=L.length) (fun k=>L.length-k) 0 4 300 (fun _:Unit=>[(11,liV (domS L x.2)),(38,vrsV v),(39,.int .i64 v.length),(40,.int .i64 i)]) (fun _=>[]) (fun _=>True) ?_ (Nat.zero_le _) ?_ ?_
    · refine ⟨[(53, .blk 123 0), (76, .nil)], rfl, au0, ?_, au32⟩
      exact RB.cells rfl rfl gg (RnL.same rfl) (RB.newnil rfl rfl RB.nil)
    · rintro k hk
      by_cases hlk:k<L.length
      · obtain ⟨t, ht⟩ := Qaj hlk
        have htl:=hel t (List.mem_of_getElem? ht)
        have hcl:=cloneI86 t (by omega)
        simp(disch:=first|omega|exact PairsOK.mk rfl|(simp only[lenW]<;>omega)) only[hlk,QpO ht,wW,wV,simprocAttr]
        refine QaJ 200 (fun n:Nat=>[(10,.ptr 53 0 0),(11,.sl 76 0 0 (domP L x.2 k n).length 1),(13,sli t),(14,.int .i64 n),(38,vrsV v),(39,.int .i64 v.length),(40,.int .i64 i),(44,liV L),(45,.int .i64 L.length),(46,.int .i64 k)]) (fun n=>[(53,.cells 0 [.str x.1,.int .i64 0,.int .i64 x.2,.int .i64 0]),(76,.cells 0 ((domP L x.2 k n).map sli))]) (fun n=>n<=(x.2+1).toNat) (fun n=>(x.2+1).toNat-n) 0 ?_ (Nat.zero_le _) ?_
        · refine ⟨[(53, .blk 53 0), (76, .blk 76 0)], rfl, au0, ?_, au32⟩
          exact RB.cells rfl rfl gg (RnL.same rfl) (RB.cells rfl rfl gg (RnL.same (Qbs _)) RB.nil)
        rintro n hn
        have hPl:=QoV (L:=L) (k:=k) hx2 hn
        by_cases hln:(n:Int)<=x.2
        · have hone : (ints t).all AV.one = true := by simp [ints, AV.one]
          have htI:(ints t).length=t.length:=by simp[ints]
          have hPm:((domP L x.2 k n).map sli).length=(domP L x.2 k n).length*1:=by simp
          simp(disch:=first|omega|exact PairsOK.mk rfl|(simp only[lenW]<;>omega)) only[hln,wW,wV,simprocAttr]
          refine ch (HSpec.of_O (b:=83) (by(try simp only[noRefs,Qaa,noRef,noRefs,QaD,Qax,Qav,Qbs,Qcr,Bool.and_self,Bool.and_true])<;>rfl) hcl (by repeat (first|exact Fresh.e|exact Fresh.le (by assumption) (by omega)|refine Fresh.set ?_ (by omega) (by omega))) rfl) ?_
          simp(disch:=first|omega|exact PairsOK.mk rfl|(simp only[lenW]<;>omega)) only[hone,htI,hPm,wW,wV,simprocAttr]
          refine⟨n+1,by omega,by omega,?_⟩
          rw[Qn3 ht,List.length_append,List.map_append]
          refine⟨[(53,.blk 53 0),(76,.blk 76 1)],rfl,au0,?_,au32⟩
          exact RB.cells rfl rfl gg (RnL.same rfl) (RB.cells rfl rfl gg (RnL.append (RnL.same (Qbs _)) (RnL.one (Rn.fzm (b:=83) (g:=1) gg rfl rfl (by simp) (by simp[ints]) (RnL.eq (by simp[ints]) (Qaa _))))) RB.nil)
        · have en : n = (x.2 + 1).toNat := by omega
          have hP:=QoU (h:=x.2) ht
          simp(disch:=first|omega|exact PairsOK.mk rfl|(simp only[lenW]<;>omega)) only[hln,wW,wV,simprocAttr]
          refine⟨k+1,by omega,by omega,?_⟩
          rw[Qn2,<-hP,<-en]
          refine⟨[(53,.blk 53 0),(76,.blk 76 0)],rfl,au0,?_,au32⟩
          exact RB.cells rfl rfl gg (RnL.same rfl) (RB.cells rfl rfl gg (RnL.same (Qbs _)) RB.nil)
      · have ek : k = L.length := by omega
        subst ek
        have hP:domP L x.2 L.length 0=domS L x.2:=by rw[Qn2,List.take_length]
        simp(disch:=first|omega|exact PairsOK.mk rfl|(simp only[lenW]<;>omega)) only[hlk,wW,wV,simprocAttr]
        rw[hP]
        refine⟨(),?_⟩
        exact⟨[],rfl,RO.zero,RB.nil,RT.cons (Rn.fzm (b:=76) (g:=0) gg rfl rfl rfl (by simp) (RnL.same (Qbs _))) (RT.cons (Rn.same (Qar _)) (RT.cons (Rn.same rfl) (RT.cons (Rn.same rfl) RT.nil)))⟩
    · rintro _ _
      simp(disch:=first|omega|exact PairsOK.mk rfl|(simp only[lenW]<;>omega)) only[wW,wV,simprocAttr]
      refine⟨i+1,by omega,by omega,?_⟩
      rw[hdS]
      exact⟨[],rfl,RO.zero,RB.nil,RT.cons (Rn.same (QoT _)) (RT.cons (Rn.same (Qar _)) (RT.cons (Rn.same rfl) (RT.cons (Rn.same rfl) RT.nil)))⟩
  · have ei : i = v.length := by omega
    subst ei
    rw[List.take_length]
    simp(disch:=first|omega|exact PairsOK.mk rfl|(simp only[lenW]<;>omega)) only[hlt,wW,wV,simprocAttr]
    exact⟨.inr trivial,_,rfl,Rn.same (by simp only[noRef,noRefs,Qbs];rfl)⟩
end Go.AM.SO
namespace Go.AM.SO
open Go.Proofs Go.AM.SD Go.AM.SE
theorem text146 (v:List (List UInt8×Int)) (hn:∀x∈v,x.1.length=2) (x:Lt) (h:LtOk v x):PSpec Tryz.prog 146 [.agg (ltC x),vrsV v] (.str (ltT v x)):=by
 obtain⟨y,hy⟩:=Qaj h.i
 have hdv:=QbO hy
 have hdw:4<=((v.flatMap vrC).drop (x.i*4)).length:=by rw[hdv];simp
 have hnl:=hn y (List.mem_of_getElem? hy)
 have hi:=h.i
 obtain⟨nm,m⟩:=y
 obtain⟨n0,n1,rfl⟩:∃a b,nm=[a,b]:=by
  match nm,hnl with
  |[a,b],_=>exact⟨a,b,rfl⟩
 have il:=itoa155 (x:=x.lo.toNat) (by have:=h.l2;omega)
 have ih:=itoa155 (x:=x.hi.toNat) (by have:=h.h2;omega)
 have e1:((x.lo.toNat:Nat):Int)=x.lo:=by have:=h.l0;omega
 have e2:((x.hi.toNat:Nat):Int)=x.hi:=by have:=h.h0;omega
 rw[e1]at il
 rw[e2]at ih
 unfold ltT
 rw[QaB hy]
 obtain⟨i,lo,hi',fr,to⟩:=x
 refine PSpec.Qas 64 XI.ok146 rfl (by simp only[noRefs,noRef,ltC,Qav];rfl) rfl ?_
 dsimp only at hdv hdw hi il ih⊢
 unfold ltC
 cases fr with
 | true =>
  cases to with
  |true=>
   simp(disch:=first|omega|exact PairsOK.mk rfl|(simp only[lenW]<;>omega)) only[XI.s146,hi,hdv,hdw,wW,wV,simprocAttr]
   refine cp il ?_
   simp(disch:=first|omega|exact PairsOK.mk rfl|(simp only[lenW]<;>omega)) only[wW,wV,simprocAttr]
   exact⟨.inr trivial,_,rfl,rfl⟩
  |false=>
   simp(disch:=first|omega|exact PairsOK.mk rfl|(simp only[lenW]<;>omega)) only[XI.s146,hi,hdv,hdw,wW,wV,simprocAttr]
   refine cp il ?_
   simp(disch:=first|omega|exact PairsOK.mk rfl|(simp only[lenW]<;>omega)) only[wW,wV,simprocAttr]
   exact⟨.inr trivial,_,rfl,rfl⟩
 |false=>
  simp(disch:=first|omega|exact PairsOK.mk rfl|(simp only[lenW]<;>omega)) only[XI.s146,hi,hdv,hdw,wW,wV,simprocAttr]
  refine cp ih ?_
  simp(disch:=first|omega|exact PairsOK.mk rfl|(simp only[lenW]<;>omega)) only[wW,wV,simprocAttr]
  exact⟨.inr trivial,_,rfl,rfl⟩
theorem _root_.Go.AM.au33 {p:Prop} (h:p:=by repeat' (first|exact RB.nil|(refine RnL.same ?_;first|rfl|(simp only[noRef,noRefs,Qah,Bool.and_self,Bool.and_true,Bool.true_and,QaY,QaS,Qav,Qax,Qa1,Qaa];done))|exact RnM.keyM rfl|exact RnL.nil|exact(True.intro:RnM _ _ _ [] [])|refine RnL.cons ?_ ?_|(refine Rn.same ?_;first|rfl|(simp only[noRef,noRefs,Qah,Bool.and_self,Bool.and_true,Bool.true_and,QaY,QaS,Qav,Qax,Qa1,Qaa];done))|exact Rn.x1 rfl rfl|exact Rn.x2 rfl rfl|exact Rn.x3 rfl rfl|exact Rn.x4 rfl rfl|exact Rn.x5 rfl|exact Rn.x6 rfl|exact Rn.x7 rfl|refine RB.newnil rfl rfl ?_|refine RB.cells rfl rfl rfl ?_ ?_|refine RB.map rfl rfl rfl ?_ ?_|refine RB.cellsB rfl rfl ?_ ?_|refine RB.mapB rfl rfl ?_ ?_)):p:=h
theorem cbx69 (v:List (List UInt8×Int)) (hv:VOk v) (l:List Bxn) (hl:l.length<=9223372036854775807) (hb:∀b∈l,BxOk v b):PSpec Tryz.prog 69 [vrsV v,bxsV l] (.int .i64 0):=by
  have hA:=all111 v hv
  have h5:=hv.l5
  refine PSpec.Qas 64 XI.ok69 rfl (by rw[noRefs,Qar,noRefs,Qfs];rfl) rfl ?_
  simp(disch:=first|omega|exact PairsOK.mk rfl|(simp only[lenW]<;>omega)) only[XI.s69,wW,wV,simprocAttr]
  refine cp hA ?_
  simp(disch:=first|omega|exact PairsOK.mk rfl|(simp only[lenW]<;>omega)) only[wW,wV,simprocAttr]
  refine QaJ 100 (fun i:Nat=>[(0,vrsV v),(19,bxsV l),(20,.int .i64 l.length),(21,.int .i64 i)]) (fun _=>[]) (fun i=>i<=l.length) (fun i=>l.length-i) 0 ⟨[],rfl,au0,au33,au5⟩ (Nat.zero_le _) ?_
  rintro i hi
  by_cases hlt:i<l.length
  · obtain ⟨b, hx⟩ := Qaj hlt
    have hdr:=QdG hx
    have hdl:2<=((l.flatMap bxC).drop (i*2)).length:=by rw[hdr];simp
    obtain⟨e1,e2,hbb⟩:=hb b (List.mem_of_getElem? hx)
    have a1:(b.lo.length:Int)=(v.length:Int):=by omega
    have a2:(b.hi.length:Int)=(v.length:Int):=by omega
    simp(disch:=first|omega|exact PairsOK.mk rfl|(simp only[lenW]<;>omega)) only[hlt,hdr,hdl,a1,a2,wW,wV,simprocAttr]
    refine QaJ 140 (fun j:Nat=>[(0,vrsV v),(19,bxsV l),(20,.int .i64 l.length),(21,.int .i64 i),(8,.ptr 51 0 0),(39,vrsV v),(40,.int .i64 v.length),(41,.int .i64 j)]) (fun _=>[(51,.cells 0 [sli b.lo,sli b.hi])]) (fun j=>j<=v.length) (fun j=>v.length-j) 0 ⟨[(51,.blk 103 0)],rfl,au0,?_,au5⟩ (Nat.zero_le _) ?_
    · exact RB.cells rfl rfl gg (RnL.same (by simp only[noRefs,noRef,Qaa];rfl)) RB.nil
    rintro j hj
    by_cases hlj:j<v.length
    · obtain ⟨x, hvx⟩ := Qaj hlj
      obtain⟨p,hp⟩:=Qaj (l:=b.lo) (i:=j) (by omega)
      obtain⟨q,hq⟩:=Qaj (l:=b.hi) (i:=j) (by omega)
      have hlp:j<b.lo.length:=by omega
      have hlq:j<b.hi.length:=by omega
      have hdv:=QbO hvx
      have hdw:4<=((v.flatMap vrC).drop (j*4)).length:=by rw[hdv];simp
      have hbj:=hbb j x hvx
      rw[QaB hp,QaB hq]at hbj
      have b1:¬p<0:=by omega
      have b2:¬x.2<q:=by omega
      have b3:¬q<p:=by omega
      simp(disch:=first|omega|exact PairsOK.mk rfl|(simp only[lenW]<;>omega)) only[hlj,hlp,hlq,hdv,hdw,QaR hp,QaR hq,b1,b2,b3,wW,wV,simprocAttr]
      exact⟨j+1,by omega,by omega,⟨[(51,.blk 51 0)],rfl,au0,au33,au5⟩⟩
    · simp (disch := first | omega | exact PairsOK.mk rfl | (simp only [lenW] <;> omega)) only [hlj, wW, wV, simprocAttr]
      exact⟨i+1,by omega,by omega,⟨[],rfl,au0,au33,au5⟩⟩
  · simp (disch := first | omega | exact PairsOK.mk rfl | (simp only [lenW] <;> omega)) only [hlt, wW, wV, simprocAttr]
    exact⟨.inr trivial,_,rfl,rfl⟩
theorem QoZ {v:List (List UInt8×Int)} {bs:List Bxn} {i:Nat} {b:Bxn} (h:bs[i]?=some b):ltsN v bs (i+1)=ltsN v bs i+(lits v b).length:=by rw[ltsN,QaB h]
theorem lits27 (v:List (List UInt8×Int)) (hv:VOk v) (l:List Bxn) (hl:l.length<=1000) (hb:∀b∈l,BxOk v b):PSpec Tryz.prog 27 [vrsV v,bxsV l] (.tup [.int .i64 (ltsN v l l.length:Nat),.int .i64 0]):=by
  have hc:=cbx69 v hv l (by omega) hb
  have h5:=hv.l5
  refine PSpec.Qas 64 XI.ok27 rfl (by rw[noRefs,Qar,noRefs,Qfs];rfl) rfl ?_
  simp(disch:=first|omega|exact PairsOK.mk rfl|(simp only[lenW]<;>omega)) only[XI.s27,wW,wV,simprocAttr]
  refine cp hc ?_
  simp(disch:=first|omega|exact PairsOK.mk rfl|(simp only[lenW]<;>omega)) only[wW,wV,simprocAttr]
  refine QaJ 100 (fun i:Nat=>[(0,vrsV v),(7,.int .i64 (ltsN v l i:Nat)),(16,bxsV l),(17,.int .i64 l.length),(18,.int .i64 i)]) (fun _=>[]) (fun i=>i<=l.length) (fun i=>l.length-i) 0 ⟨[],rfl,au0,au33,au5⟩ (Nat.zero_le _) ?_
  rintro i hi
  by_cases hlt:i<l.length
  · obtain ⟨b, hx⟩ := Qaj hlt
    have hdr:=QdG hx
    have hdl:2<=((l.flatMap bxC).drop (i*2)).length:=by rw[hdr];simp
    have hbo:=hb b (List.mem_of_getElem? hx)
    have h70:=lits70 v b (by omega) hbo.1 hbo.2.1
    have hs:=@QoZ v l i b hx
    have hn:=@QgF v l i
    have hn2:=@Qcc v b v.length
    have hn3:(lits v b).length<=2*v.length:=hn2
    have hn4:2*v.length*i<=10*1000:=Nat.mul_le_mul (by omega) (by omega)
    simp(disch:=first|omega|exact PairsOK.mk rfl|(simp only[lenW]<;>omega)) only[hlt,hdr,hdl,wW,wV,simprocAttr]
    refine cp h70 ?_
    simp(disch:=first|omega|exact PairsOK.mk rfl|(simp only[lenW]<;>omega)) only[wW,wV,simprocAttr]
    refine⟨i+1,by omega,by omega,?_⟩
    rw[hs,Int.natCast_add]
    exact⟨[],rfl,au0,au33,au5⟩
  · have e : i = l.length := by omega
    subst e
    simp(disch:=first|omega|exact PairsOK.mk rfl|(simp only[lenW]<;>omega)) only[hlt,wW,wV,simprocAttr]
    exact⟨.inr trivial,_,rfl,rfl⟩
end Go.AM.SO
namespace Go.AM.SO
open Go.Proofs Go.AM.SD Go.AM.SE
theorem ne145 (k x:Nat):PSpec Tryz.prog 145 [.int .i64 (x:Int),.fptr [.int .i64 (k:Int)]] (.bool (decide (x≠k))):=by
 refine PSpec.Qas 64 XG.ok145 rfl rfl rfl ?_
 simp(disch:=first|omega|exact PairsOK.mk rfl|(simp only[lenW]<;>omega)) only[XG.s145,wW,wV,simprocAttr]
 refine⟨.inr trivial,_,rfl,?_⟩
 by_cases h:x=k
 ·subst h;simp[resOf];rfl
 ·simp[h,resOf];rfl
theorem all143 (k:Nat):PSpec Tryz.prog 143 [.int .i64 (k:Int),.fptr [.fsl [.int .i64 (k:Int),.int .i64 (k:Int)] 2 1]] (.bool true):=by
 have hc:=contains36 (K:=145) (cap:=[.fptr [.int .i64 (k:Int)]]) (fun x=>decide (x≠k)) [k,k] (by simp) rfl fun x _=>ne145 k x
 have e:[k,k].any (fun x=>decide (x≠k))=false:=by simp
 rw[e]at hc
 refine PSpec.Qas 64 XG.ok143 rfl rfl rfl ?_
 simp(disch:=first|omega|exact PairsOK.mk rfl|(simp only[lenW]<;>omega)) only[XG.s143,wW,wV,simprocAttr]
 refine ch (HSpec.lend (FrzL.cons (FrzTo.same _) (FrzL.cons (FrzTo.fn FrzL.nil (FrzL.cons (FrzTo.ptr gg (FrzL.same _)) FrzL.nil)) FrzL.nil)) hc rfl) ?_
 simp(disch:=first|omega|exact PairsOK.mk rfl|(simp only[lenW]<;>omega)) only[wW,wV,simprocAttr]
 exact⟨.inr trivial,_,rfl,rfl⟩
abbrev kdS (x:Xp) (k:Nat):Prop:=PSpec Tryz.prog 74 [.agg (xpC x)] (.int .i64 (k:Int))
theorem Ql3 {o v i:Int} (ho:o=0\/o=1):kdS (.mk o v i []) 1:=by
  unfold kdS
  rw[at_C]
  refine PSpec.Qas 64 XH.ok74 rfl rfl rfl ?_
  rcases ho with rfl|rfl
  · simp (disch := first | omega | exact PairsOK.mk rfl | (simp only [lenW] <;> omega)) only [XH.s74, wW, wV, simprocAttr]
    refine QbF (Qbc ?_)
    simp(disch:=first|omega|exact PairsOK.mk rfl|(simp only[lenW]<;>omega)) only[wW,wV,simprocAttr]
    exact⟨.inr trivial,_,rfl,rfl⟩
  · simp (disch := first | omega | exact PairsOK.mk rfl | (simp only [lenW] <;> omega)) only [XH.s74, wW, wV, simprocAttr]
    refine QbF (Qbc ?_)
    simp(disch:=first|omega|exact PairsOK.mk rfl|(simp only[lenW]<;>omega)) only[wW,wV,simprocAttr]
    exact⟨.inr trivial,_,rfl,rfl⟩
theorem Qn9 {o:Int} {k:Nat} {a b:Xp} (ho:(o=6\/o=7\/o=9)/\k=1\/(o=11\/o=12)/\k=2) (ha:kdS a k) (hb:kdS b k):kdS (.mk o 0 0 [a,b]) 2:=by
  have hA:=all143 k
  have la:=Qa8 a
  have lb:=Qa8 b
  have nX:noRefs (xpC a++xpC b)=true:=Qa6 (QaM a) (QaM b)
  have oa:=Qbu a
  have ob:=Qbu b
  have k0:¬(k:Int)=0:=by omega
  unfold kdS at ha hb⊢
  rw[xp2_C]
  generalize xpC a=A at*
  generalize xpC b=B at*
  obtain⟨p0,p1,p2,p3,rfl⟩:=four A la
  obtain⟨q0,q1,q2,q3,rfl⟩:=four B lb
  have r1:putR [.int .i64 0,.int .i64 0,.int .i64 0,.nilsl] 0 [p0,p1,p2,p3]=[p0,p1,p2,p3]:=rfl
  have r2:putR [.int .i64 0,.int .i64 0,.int .i64 0,.nilsl] 0 [q0,q1,q2,q3]=[q0,q1,q2,q3]:=rfl
  refine PSpec.Qas 64 XH.ok74 rfl (by simp only[noRefs,noRef,nX];rfl) rfl ?_
  simp(disch:=first|omega|exact PairsOK.mk rfl|(simp only[lenW]<;>omega)) only[XH.s74,wW,wV,simprocAttr]
  refine QbF (Qbc ?_)
  simp(disch:=first|omega|exact PairsOK.mk rfl|(simp only[lenW]<;>omega)) only[oa,r1,wW,wV,simprocAttr]
  refine cp ha ?_
  simp(disch:=first|omega|exact PairsOK.mk rfl|(simp only[lenW]<;>omega)) only[k0,Qd2,QgG,wW,wV,simprocAttr]
  refine Qbc ?_
  simp(disch:=first|omega|exact PairsOK.mk rfl|(simp only[lenW]<;>omega)) only[ob,r2,wW,wV,simprocAttr]
  refine cp hb ?_
  simp(disch:=first|omega|exact PairsOK.mk rfl|(simp only[lenW]<;>omega)) only[k0,wW,wV,simprocAttr]
  refine Qbc ?_
  rcases ho with⟨rfl|rfl|rfl,rfl⟩|⟨rfl|rfl,rfl⟩
  iterate 3
    · simp (disch := first | omega | exact PairsOK.mk rfl | (simp only [lenW] <;> omega)) only [wW, wV, simprocAttr]
      refine SU.chc (HSpec.lend (FrzL.cons (FrzTo.same _) (FrzL.cons (FrzTo.ptr (g:=0) (cs:=[.sl 84 1 0 2 1]) gg (FrzL.cons (FrzTo.sl (g:=1) (cs:=[.int .i64 1,.int .i64 1]) gg (Nat.le_refl 2) (FrzL.same _)) FrzL.nil)) FrzL.nil)) hA rfl) ?_
      simp(disch:=first|omega|exact PairsOK.mk rfl|(simp only[lenW]<;>omega)) only[wW,wV,simprocAttr]
      exact⟨.inr trivial,_,rfl,rfl⟩
  iterate 2
    · simp (disch := first | omega | exact PairsOK.mk rfl | (simp only [lenW] <;> omega)) only [wW, wV, simprocAttr]
      refine SU.chc (HSpec.lend (FrzL.cons (FrzTo.same _) (FrzL.cons (FrzTo.ptr (g:=0) (cs:=[.sl 84 1 0 2 1]) gg (FrzL.cons (FrzTo.sl (g:=1) (cs:=[.int .i64 2,.int .i64 2]) gg (Nat.le_refl 2) (FrzL.same _)) FrzL.nil)) FrzL.nil)) hA rfl) ?_
      simp(disch:=first|omega|exact PairsOK.mk rfl|(simp only[lenW]<;>omega)) only[wW,wV,simprocAttr]
      exact⟨.inr trivial,_,rfl,rfl⟩
theorem kd_bt {n:Nat} {k:Int} {x:Xp} (h:BT n k x):kdS x k.toNat:=by
 induction h with
 |con=>exact Ql3 (.inl rfl)
 |var=>exact Ql3 (.inr rfl)
 |two o k a b ho _ _ iha ihb=>
  rcases ho with⟨ho,rfl⟩|⟨ho,rfl⟩
  ·exact Qn9 (k:=1) (.inl ⟨ho,rfl⟩) iha ihb
  ·exact Qn9 (k:=2) (.inr ⟨ho,rfl⟩) iha ihb
theorem Qoa {n:Nat} {x:Xp} {c e:Int} (hf:fmS x n 1 0 c e) (hk:kdS x 2) (hn:n<=16):PSpec Tryz.prog 29 [.agg (xpC x),.int .i64 n] (.tup [.int .i64 (if e=0 then 2 else 0),.int .i64 e]):=by
 have n1:¬(n:Int)<0:=by omega
 have n2:¬(16:Int)<(n:Int):=by omega
 have za:=@QhL x n 1
 have nX:=QaM x
 have l4:=Qa8 x
 have o4:=Qbu x
 unfold fmS at hf
 unfold kdS at hk
 generalize xpC x=A at*
 obtain⟨p0,p1,p2,p3,rfl⟩:=four A l4
 refine PSpec.Qas 61 XG.ok29 rfl (by simp only[noRefs,noRef]at nX⊢;rw[nX];rfl) rfl ?_
 simp(disch:=first|omega|exact PairsOK.mk rfl|(simp only[lenW]<;>omega)) only[XG.s29,n1,n2,o4,wW,wV,simprocAttr]
 refine ch (HSpec.frameA hf za (OnlyD.same rfl) rfl rfl gg rfl) ?_
 by_cases h0:e=0
 ·subst h0
  rw[if_pos rfl]
  simp(disch:=first|omega|exact PairsOK.mk rfl|(simp only[lenW]<;>omega)) only[o4,wW,wV,simprocAttr]
  refine cp hk ?_
  simp(disch:=first|omega|exact PairsOK.mk rfl|(simp only[lenW]<;>omega)) only[wW,wV,simprocAttr]
  exact⟨.inr trivial,_,rfl,rfl⟩
 ·rw [if_neg h0]
  simp(disch:=first|omega|exact PairsOK.mk rfl|(simp only[lenW]<;>omega)) only[h0,wW,wV,simprocAttr]
  exact⟨.inr trivial,_,rfl,rfl⟩
theorem chk29 {n:Nat} {x:Xp} (h:BT n 2 x) (hn:n<=16):∃e:Int,PSpec Tryz.prog 29 [.agg (xpC x),.int .i64 n] (.tup [.int .i64 (if e=0 then 2 else 0),.int .i64 e]):=by
 obtain⟨c,e,_,_,hf⟩:=fm_ex h 1 0 (by decide) (by decide) (by decide) (by decide)
 exact⟨e,Qoa hf (kd_bt h) hn⟩
theorem chkF29 {n:Nat} (hn:n<=16):PSpec Tryz.prog 29 [.agg (xpC falE),.int .i64 n] (.tup [.int .i64 2,.int .i64 0]):=Qoa (e:=0) Qp9 (kd_bt (n:=n) Qnv) hn
end Go.AM.SO
namespace Go.AM.SO
open Go.Proofs Go.AM.SD Go.AM.SE
def jnV (v:List (List UInt8×Int)) (bs:List Bxn) (e:Int):AV:=if bs.length=0\/e=0 then .tup [.agg (xpC (whE v bs)),.int .i64 0]else .tup [.agg [.int .i64 0,.int .i64 0,.int .i64 0,.nilsl],.int .i64 e]
theorem Qo0 {l:List Lt} {i:Nat} {x:Lt} (h:l[i]?=some x):((l.take (i+1)).map ltX).flatMap xpC=((l.take i).map ltX).flatMap xpC++xpC (ltX x):=by
 rw[show l.take (i+1)=l.take i++[x] by rw[List.take_add_one,h];rfl,List.map_append,List.flatMap_append]
 show _++([ltX x].flatMap xpC)=_
 rw[List.flatMap_cons,List.flatMap_nil,List.append_nil]
abbrev trC:List AV:=[.int .i64 6,.int .i64 0,.int .i64 0,.fsl [.int .i64 0,.int .i64 0,.int .i64 0,.nilsl,.int .i64 0,.int .i64 0,.int .i64 0,.nilsl] 2 4]
theorem join1:HSpec Tryz.prog 186 [.int .i64 11,.sl 218 0 0 1 4] (hp [(218,.cells 0 trC)]) (.agg trC) (hp [(218,.cells 0 trC)]):=by
 refine HSpec.QbB (m:=219) 300 XA.ok186 rfl rfl rfl ?_
 simp(disch:=first|omega|exact PairsOK.mk rfl|(simp only[lenW]<;>omega)) only[XA.s186,wW,wV,simprocAttr]
 refine⟨.inr trivial,_,rfl,rfl,?_⟩
 refine⟨[(218,.nil)],rfl,au0,?_,au5⟩
 exact RB.cellsB rfl gg (RnL.same rfl) RB.nil
theorem joined140 (v : List (List UInt8 × Int)) (bs : List Bxn) (h5 : v.length <= 5) (hin : ∀ x ∈ v, 0 <= x.2 /\ x.2 <= 2) (hl : bs.length <= 1000) (hb : ∀ b ∈ bs, BxOk v b) {k e : Int} (hck : PSpec Tryz.prog 29 [.agg (xpC (whE v bs)), .int .i64 v.length] (.tup [.int .i64 k, .int .i64 e])) : PSpec Tryz.prog 140 [vrsV v, bxsV bs] (jnV v bs e) := by
  have hnz:noRef (jnV v bs e)=true:=by
    unfold jnV
    split
    · simp only[noRef,noRefs,QaM];rfl
    · rfl
  refine PSpec.of_rn 64 XN.ok140 rfl (by simp only[noRefs,noRef,Qav,Qax];rfl) hnz ?_
  have hbl:=Qd1 bs
  unfold jnV
  unfold whE at hck⊢
  by_cases h0:bs.length=0
  · rw [if_pos (.inl h0), if_pos h0]
    have hf:=false135
    rw[xp2_C,at_C]at hf⊢
    simp(disch:=first|omega|exact PairsOK.mk rfl|(simp only[lenW]<;>omega)) only[XN.s140,h0,wW,wV,simprocAttr]
    refine cp hf ?_
    simp(disch:=first|omega|exact PairsOK.mk rfl|(simp only[lenW]<;>omega)) only[wW,wV,simprocAttr]
    exact⟨.inr trivial,_,rfl,Rn.same rfl⟩
  rw[if_neg h0]at hck⊢
  have h0':¬(bs.length:Int)=0:=by omega
  simp(disch:=first|omega|exact PairsOK.mk rfl|(simp only[lenW]<;>omega)) only[XN.s140,h0',wW,wV,simprocAttr]
  refine Qaz 200 (fun i:Nat=>[(0,vrsV v),(4,.ptr 52 0 0),(6,.sl 60 0 0 i 4),(19,bxsV bs),(20,.int .i64 bs.length),(21,.int .i64 i)]) (fun i=>[(52,.cells 0 [.int .i64 0,.int .i64 0,.int .i64 0,.nilsl]),(60,.cells 0 (((bs.take i).map (bxE' v)).flatMap xpC))]) (fun i=>i<=bs.length) (fun i=>bs.length-i) 0 0 500 (fun _:Unit=>[(0,vrsV v),(4,.ptr 52 0 0),(6,.fsl ((bs.map (bxE' v)).flatMap xpC) bs.length 4)]) (fun _=>[(52,.cells 0 [.int .i64 0,.int .i64 0,.int .i64 0,.nilsl])]) (fun _=>True) ?_ (Nat.zero_le _) ?_ ?_
  · refine ⟨[(52, .blk 64 0), (60, .nil)], rfl, au0, ?_, au5⟩
    exact RB.cells rfl rfl gg (RnL.same rfl) (RB.newnil rfl rfl RB.nil)
  · rintro i hi
    have hXl:=QbU ((bs.take i).map (bxE' v))
    rw[List.length_map,List.length_take,Nat.min_eq_left hi]at hXl
    have hXn:=QaS ((bs.take i).map (bxE' v))
    by_cases hlt:i<bs.length
    · obtain ⟨b, hx⟩ := Qaj hlt
      have hdb:=QdG hx
      have hdl:2<=((bs.flatMap bxC).drop (i*2)).length:=by rw[hdb];simp
      have hbo:=hb b (List.mem_of_getElem? hx)
      have hL:=lits70 v b (by omega) hbo.1 hbo.2.1
      have hcs:=@Qkj v bs i b hx
      have hll:(lits v b).length<=2*v.length:=Qcc v.length
      have hbx:bxE' v b=if(lits v b).length=0 then truE else joinE 11 (lits v b).length ((lits v b).map ltX):=rfl
      generalize ((bs.take i).map (bxE' v)).flatMap xpC=X at*
      generalize lits v b=L at*
      simp(disch:=first|omega|exact PairsOK.mk rfl|(simp only[lenW]<;>omega)) only[hlt,hdb,hdl,wW,wV,simprocAttr]
      refine cp hL ?_
      by_cases hK:L.length=0
      · rw [if_pos hK] at hbx
        have ht:=true137
        rw[xp2_C,at_C]at ht
        simp(disch:=first|omega|exact PairsOK.mk rfl|(simp only[lenW]<;>omega)) only[hK,wW,wV,simprocAttr]
        refine QbF (Qbc ?_)
        simp(disch:=first|omega|exact PairsOK.mk rfl|(simp only[lenW]<;>omega)) only[wW,wV,simprocAttr]
        refine cp ht ?_
        simp(disch:=first|omega|exact PairsOK.mk rfl|(simp only[lenW]<;>omega)) only[Qd2,QgG,wW,wV,simprocAttr]
        refine ch (HSpec.frameA join1 (OnlyD.cons (OnlyD.same rfl) (OnlyD.cons (OnlyD.sl rfl) OnlyD.nil)) (OnlyD.same rfl) rfl rfl gg rfl) ?_
        rw[hbx,xp2_C,at_C]at hcs
        simp(disch:=first|omega|exact PairsOK.mk rfl|(simp only[lenW]<;>omega)) only[hXl,wW,wV,simprocAttr]
        refine⟨i+1,by omega,by omega,?_⟩
        rw[hcs]
        refine⟨[(52,.blk 52 0),(60,.blk 60 1)],rfl,au0,?_,au5⟩
        exact RB.cells rfl rfl gg (RnL.same rfl) (RB.cells rfl rfl gg (RnL.same (Qa6 hXn rfl)) RB.nil)
      · rw [if_neg hK] at hbx
        have hj:=join186 11 L.length (L.map ltX) (by rw[List.length_map];omega) (by rw[List.length_map];exact Nat.le_refl _) (by rw[List.length_map];omega)
        rw[List.length_map]at hj
        have hK':¬(L.length:Int)=0:=by omega
        simp(disch:=first|omega|exact PairsOK.mk rfl|(simp only[lenW]<;>omega)) only[wW,wV,simprocAttr]
        refine Qaz 400 (fun k:Nat=>[(0,vrsV v),(4,.ptr 52 0 0),(6,.sl 60 0 0 i 4),(9,.sl 61 0 0 k 4),(19,bxsV bs),(20,.int .i64 bs.length),(21,.int .i64 i),(27,ltsV L),(28,.int .i64 L.length),(29,.int .i64 k)]) (fun k=>[(52,.cells 0 [.int .i64 0,.int .i64 0,.int .i64 0,.nilsl]),(60,.cells 0 X),(61,.cells 0 (((L.take k).map ltX).flatMap xpC))]) (fun k=>k<=L.length) (fun k=>L.length-k) 0 2 600 (fun _:Unit=>[(0,vrsV v),(4,.ptr 52 0 0),(6,.sl 60 0 0 i 4),(9,.fsl ((L.map ltX).flatMap xpC) L.length 4),(19,bxsV bs),(20,.int .i64 bs.length),(21,.int .i64 i)]) (fun _=>[(52,.cells 0 [.int .i64 0,.int .i64 0,.int .i64 0,.nilsl]),(60,.cells 0 X)]) (fun _=>True) ?_ (Nat.zero_le _) ?_ ?_
        · refine ⟨[(52, .blk 52 0), (60, .blk 60 0), (61, .nil)], rfl, au0, ?_, au5⟩
          exact RB.cells rfl rfl gg (RnL.same rfl) (RB.cells rfl rfl gg (RnL.same hXn) (RB.newnil rfl rfl RB.nil))
        · rintro k hk
          have hZl:=QbU ((L.take k).map ltX)
          rw[List.length_map,List.length_take,Nat.min_eq_left hk]at hZl
          have hZn:=QaS ((L.take k).map ltX)
          by_cases hlk:k<L.length
          · obtain ⟨y, hy⟩ := Qaj hlk
            have hdy:=QhJ hy
            have hdz:5<=((L.flatMap ltC).drop (k*5)).length:=by rw[hdy];simp
            have hE:=expr185 y
            have hzs:=@Qo0 L k y hy
            have m1:=QaM (ltX y)
            have m2:=Qa8 (ltX y)
            have m3:=Qbu (ltX y)
            generalize ((L.take k).map ltX).flatMap xpC=Z at*
            generalize xpC (ltX y)=W at*
            obtain⟨p0,p1,p2,p3,rfl⟩:=four W m2
            unfold ltC at hE
            simp(disch:=first|omega|exact PairsOK.mk rfl|(simp only[lenW]<;>omega)) only[hlk,hdy,hdz,wW,wV,simprocAttr]
            refine cp hE ?_
            simp(disch:=first|omega|exact PairsOK.mk rfl|(simp only[lenW]<;>omega)) only[hZl,m3,wW,wV,simprocAttr]
            refine⟨k+1,by omega,by omega,?_⟩
            rw[hzs]
            refine⟨[(52,.blk 52 0),(60,.blk 60 0),(61,.blk 61 1)],rfl,au0,?_,au5⟩
            exact RB.cells rfl rfl gg (RnL.same rfl) (RB.cells rfl rfl gg (RnL.same hXn) (RB.cells rfl rfl gg (RnL.same (Qa6 hZn m1)) RB.nil))
          · have e : k = L.length := by omega
            subst e
            rw[List.take_length]at hZl
            simp(disch:=first|omega|exact PairsOK.mk rfl|(simp only[lenW]<;>omega)) only[hlk,wW,wV,simprocAttr]
            refine⟨(),[(52,.blk 52 0),(60,.blk 60 0)],rfl,RO.zero,RB.cells rfl rfl gg (RnL.same rfl) (RB.cells rfl rfl gg (RnL.same hXn) RB.nil),RT.cons (Rn.same (Qar _)) (RT.cons (Rn.x2 rfl rfl) (RT.cons (Rn.x1 rfl rfl) (RT.cons (Rn.fz (b:=61) (g:=0) gg rfl rfl hZl (RnL.same (QaS _))) au5)))⟩
        · rintro _ _
          have m1:=QaM (joinE 11 L.length (L.map ltX))
          have m2:=Qa8 (joinE 11 L.length (L.map ltX))
          have m3:=Qbu (joinE 11 L.length (L.map ltX))
          rw[hbx]at hcs
          generalize xpC (joinE 11 L.length (L.map ltX))=W at*
          obtain⟨p0,p1,p2,p3,rfl⟩:=four W m2
          simp(disch:=first|omega|exact PairsOK.mk rfl|(simp only[lenW]<;>omega)) only[hK',wW,wV,simprocAttr]
          refine ch (PSpec.toH hj _) ?_
          simp(disch:=first|omega|exact PairsOK.mk rfl|(simp only[lenW]<;>omega)) only[hXl,m3,wW,wV,simprocAttr]
          refine⟨i+1,by omega,by omega,?_⟩
          rw[hcs]
          refine⟨[(52,.blk 52 0),(60,.blk 60 1)],rfl,au0,?_,au5⟩
          exact RB.cells rfl rfl gg (RnL.same rfl) (RB.cells rfl rfl gg (RnL.same (Qa6 hXn m1)) RB.nil)
    · have e : i = bs.length := by omega
      subst e
      rw[List.take_length]at hXl
      simp(disch:=first|omega|exact PairsOK.mk rfl|(simp only[lenW]<;>omega)) only[hlt,wW,wV,simprocAttr]
      refine⟨(),[(52,.blk 52 0)],rfl,RO.zero,RB.cells rfl rfl gg (RnL.same rfl) RB.nil,RT.cons (Rn.same (Qar _)) (RT.cons (Rn.x2 rfl rfl) (RT.cons (Rn.fz (b:=60) (g:=0) gg rfl rfl hXl (RnL.same (QaS _))) RT.nil))⟩
  rintro _ _
  have hj:=join186 12 bs.length (bs.map (bxE' v)) (by rw[List.length_map];omega) (by rw[List.length_map];exact Nat.le_refl _) (by rw[List.length_map];omega)
  rw[List.length_map]at hj
  have n1:=QaM (joinE 12 bs.length (bs.map (bxE' v)))
  have n2:=Qa8 (joinE 12 bs.length (bs.map (bxE' v)))
  have n3:=Qbu (joinE 12 bs.length (bs.map (bxE' v)))
  generalize xpC (joinE 12 bs.length (bs.map (bxE' v)))=W at*
  obtain⟨p0,p1,p2,p3,rfl⟩:=four W n2
  have r1:putR [.int .i64 0,.int .i64 0,.int .i64 0,.nilsl] 0 [p0,p1,p2,p3]=[p0,p1,p2,p3]:=rfl
  simp(disch:=first|omega|exact PairsOK.mk rfl|(simp only[lenW]<;>omega)) only[wW,wV,simprocAttr]
  refine ch (PSpec.toH hj _) ?_
  simp(disch:=first|omega|exact PairsOK.mk rfl|(simp only[lenW]<;>omega)) only[n3,r1,wW,wV,simprocAttr]
  refine cp hck ?_
  by_cases he:e=0
  · subst he
    rw[if_pos (.inr rfl)]
    simp(disch:=first|omega|exact PairsOK.mk rfl|(simp only[lenW]<;>omega)) only[n3,r1,wW,wV,simprocAttr]
    exact⟨.inr trivial,_,rfl,Rn.same (by simp only[noRefs,noRef]at n1⊢;rw[n1];rfl)⟩
  · rw [if_neg (by rintro (h | h) <;> contradiction)]
    simp(disch:=first|omega|exact PairsOK.mk rfl|(simp only[lenW]<;>omega)) only[he,wW,wV,simprocAttr]
    exact⟨.inr trivial,_,rfl,Rn.same rfl⟩
end Go.AM.SO
namespace Go.AM.SO
open Go.Proofs Go.AM.SD Go.AM.SE
theorem expr72 (v:List (List UInt8×Int)) (hv:VOk v) (bs:List Bxn) (hl:bs.length<=1000) (hb:∀b∈bs,BxOk v b) {k e:Int} (hck:PSpec Tryz.prog 29 [.agg (xpC (whE v bs)),.int .i64 v.length] (.tup [.int .i64 k,.int .i64 e])):PSpec Tryz.prog 72 [vrsV v,bxsV bs] (jnV v bs e):=by
 have hc:=cbx69 v hv bs (by omega) hb
 have hj:=joined140 v bs hv.l5 hv.hin hl hb hck
 have n1:=QaM (whE v bs)
 have n2:=Qa8 (whE v bs)
 have n3:=Qbu (whE v bs)
 unfold jnV at hj⊢
 generalize xpC (whE v bs)=W at*
 obtain⟨p0,p1,p2,p3,rfl⟩:=four W n2
 have r1:putR [.int .i64 0,.int .i64 0,.int .i64 0,.nilsl] 0 [p0,p1,p2,p3]=[p0,p1,p2,p3]:=rfl
 by_cases hq:bs.length=0\/e=0
 ·rw [if_pos hq] at hj ⊢
  refine PSpec.of_rn 64 XI.ok72 rfl (by simp only[noRefs,noRef,Qav,Qax];rfl) (by simp only[noRefs,noRef]at n1⊢;rw[n1];rfl) ?_
  simp(disch:=first|omega|exact PairsOK.mk rfl|(simp only[lenW]<;>omega)) only[XI.s72,Qag,Qac,Qal,Qad,Qam,Qai,Qab,Qan,tNil,tFA,tEq0,tEq1,tConv,tExt,tEqP,Qae,Qao,Qap,tUsd,tLen,wW,wV,simprocAttr]
  refine cp hc ?_
  simp(disch:=first|omega|exact PairsOK.mk rfl|(simp only[lenW]<;>omega)) only[Qag,Qac,Qal,Qad,Qam,Qai,Qab,Qan,tNil,tFA,tEq0,tEq1,tConv,tExt,tEqP,Qae,Qao,Qap,tUsd,tLen,wW,wV,simprocAttr]
  refine cp hj ?_
  simp(disch:=first|omega|exact PairsOK.mk rfl|(simp only[lenW]<;>omega)) only[n3,r1,Qag,Qac,Qal,Qad,Qam,Qai,Qab,Qan,tNil,tFA,tEq0,tEq1,tConv,tExt,tEqP,Qae,Qao,Qap,tUsd,tLen,wW,wV,simprocAttr]
  exact⟨.inr trivial,_,rfl,Rn.same (by simp only[noRefs,noRef]at n1⊢;rw[n1];rfl)⟩
 ·rw [if_neg hq] at hj ⊢
  refine PSpec.of_rn 64 XI.ok72 rfl (by simp only[noRefs,noRef,Qav,Qax];rfl) rfl ?_
  simp(disch:=first|omega|exact PairsOK.mk rfl|(simp only[lenW]<;>omega)) only[XI.s72,Qag,Qac,Qal,Qad,Qam,Qai,Qab,Qan,tNil,tFA,tEq0,tEq1,tConv,tExt,tEqP,Qae,Qao,Qap,tUsd,tLen,wW,wV,simprocAttr]
  refine cp hc ?_
  simp(disch:=first|omega|exact PairsOK.mk rfl|(simp only[lenW]<;>omega)) only[Qag,Qac,Qal,Qad,Qam,Qai,Qab,Qan,tNil,tFA,tEq0,tEq1,tConv,tExt,tEqP,Qae,Qao,Qap,tUsd,tLen,wW,wV,simprocAttr]
  refine cp hj ?_
  simp(disch:=first|omega|exact PairsOK.mk rfl|(simp only[lenW]<;>omega)) only[Qag,Qac,Qal,Qad,Qam,Qai,Qab,Qan,tNil,tFA,tEq0,tEq1,tConv,tExt,tEqP,Qae,Qao,Qap,tUsd,tLen,wW,wV,simprocAttr]
  exact⟨.inr trivial,_,rfl,Rn.same rfl⟩
def bldL (u:List UInt8):HL:=if u=[]then[(50,.cells 0 [.nilptr,.nilsl])]else[(50,.cells 0 [bldP,bufV u.length]),(60,.cells 0 (byV u))]
theorem Qb2:bldL []=[(50,.cells 0 [.nilptr,.nilsl])]:=if_pos rfl
theorem QaX {u:List UInt8} (h:0<u.length):bldL u=[(50,.cells 0 [bldP,bufV u.length]),(60,.cells 0 (byV u))]:=if_neg (fun e=>by subst e;cases h)
theorem text76 (v : List (List UInt8 × Int)) (hv : VOk v) (hn : ∀ x ∈ v, x.1.length = 2) (bs : List Bxn) (hl : bs.length <= 1000) (hb : ∀ b ∈ bs, BxOk v b) : PSpec Tryz.prog 76 [vrsV v, bxsV bs] (.tup [.str (whT v bs), .int .i64 0]) := by
  have hc:=cbx69 v hv bs (by omega) hb
  have h5:=hv.l5
  have hin:=hv.hin
  refine PSpec.of_rn 47 XI.ok76 rfl (by simp only[noRefs,noRef,Qav,Qax];rfl) rfl ?_
  have hbl:=Qd1 bs
  unfold whT
  by_cases h0:bs.length=0
  · rw [if_pos h0]
    simp(disch:=first|omega|exact PairsOK.mk rfl|(simp only[lenW]<;>omega)) only[XI.s76,h0,Qag,Qac,Qal,Qad,Qam,Qai,Qab,Qan,tNil,tFA,tEq0,tEq1,tConv,tExt,tEqP,Qae,Qao,Qap,tUsd,tLen,wW,wV,simprocAttr]
    refine cp hc ?_
    simp(disch:=first|omega|exact PairsOK.mk rfl|(simp only[lenW]<;>omega)) only[h0,Qag,Qac,Qal,Qad,Qam,Qai,Qab,Qan,tNil,tFA,tEq0,tEq1,tConv,tExt,tEqP,Qae,Qao,Qap,tUsd,tLen,wW,wV,simprocAttr]
    exact⟨.inr trivial,_,rfl,Rn.same rfl⟩
  rw[if_neg h0]
  have h0':¬(bs.length:Int)=0:=by omega
  simp(disch:=first|omega|exact PairsOK.mk rfl|(simp only[lenW]<;>omega)) only[XI.s76,Qag,Qac,Qal,Qad,Qam,Qai,Qab,Qan,tNil,tFA,tEq0,tEq1,tConv,tExt,tEqP,Qae,Qao,Qap,tUsd,tLen,wW,wV,simprocAttr]
  refine cp hc ?_
  simp(disch:=first|omega|exact PairsOK.mk rfl|(simp only[lenW]<;>omega)) only[h0',Qag,Qac,Qal,Qad,Qam,Qai,Qab,Qan,tNil,tFA,tEq0,tEq1,tConv,tExt,tEqP,Qae,Qao,Qap,tUsd,tLen,wW,wV,simprocAttr]
  refine Qaz 296 (fun i:Nat=>[(0,vrsV v),(7,bldP),(22,bxsV bs),(23,.int .i64 bs.length),(24,.int .i64 i)]) (fun i=>bldL (orT v bs i)) (fun i=>i<=bs.length) (fun i=>bs.length-i) 0 0 900 (fun _:Unit=>[(7,bldP)]) (fun _=>bldL (orT v bs bs.length)) (fun _=>True) ?_ (Nat.zero_le _) ?_ ?_
  · rw [show orT v bs 0 = [] from rfl, Qb2]
    exact⟨[(50,.blk 58 0)],rfl,RO.zero,RB.cells rfl rfl gg (RnL.same rfl) RB.nil,RT.cons (Rn.same (Qar _)) (RT.cons (Rn.typed (Rn.x2 rfl rfl)) au5)⟩
  · rintro i hi
    have hTl:=Qew hn h5 hin hb i hi
    by_cases hlt:i<bs.length
    · obtain ⟨b, hx⟩ := Qaj hlt
      have hdb:=QdG hx
      have hdl:2<=((bs.flatMap bxC).drop (i*2)).length:=by rw[hdb];simp
      have hbo:=hb b (List.mem_of_getElem? hx)
      have hL:=lits70 v b (by omega) hbo.1 hbo.2.1
      have hor:orT v bs (i+1)=orT v bs i++(if 0<i then[32,111,114,32]else[])++bxT v b:=by rw[orT,QaB hx]
      have hlo:=QfD hin hbo
      have hll:(lits v b).length<=2*v.length:=Qcc v.length
      have hbt:bxT v b=if(lits v b).length=0 then[116,114,117,101]else anT v (lits v b) (lits v b).length:=rfl
      have hAl:=QfF hn hlo
      have hCb:noRefs [sli b.lo,sli b.hi]=true:=by simp only[noRefs,noRef,Qaa];rfl
      generalize lits v b=L at*
      by_cases hi0:0<i
      · rw [if_pos hi0] at hor
        have hu:=hTl.2 hi0
        have hul:(orT v bs i).length<=124000:=by omega
        rw[QaX hu]
        generalize orT v bs i=O at*
        have w1:=wri1a _ [.nilsl,.nilsl] hCb 0 O.length O [32,111,114,32] rfl hu (by simp;omega)
        simp(disch:=first|omega|exact PairsOK.mk rfl|(simp only[lenW]<;>omega)) only[hlt,hdb,hdl,hi0,Qag,Qac,Qal,Qad,Qam,Qai,Qab,Qan,tNil,tFA,tEq0,tEq1,tConv,tExt,tEqP,Qae,Qao,Qap,tUsd,tLen,wW,wV,simprocAttr]
        refine ch w1 ?_
        simp(disch:=first|omega|exact PairsOK.mk rfl|(simp only[lenW]<;>omega)) only[Qag,Qac,Qal,Qad,Qam,Qai,Qab,Qan,tNil,tFA,tEq0,tEq1,tConv,tExt,tEqP,Qae,Qao,Qap,tUsd,tLen,wW,wV,simprocAttr]
        refine cp hL ?_
        by_cases hK:L.length=0
        · rw [if_pos hK] at hbt
          have w2:=wri1b _ hCb 1 (O.length+4) (O++[32,111,114,32]) [116,114,117,101] (by simp) (by omega) (by simp;omega)
          simp(disch:=first|omega|exact PairsOK.mk rfl|(simp only[lenW]<;>omega)) only[hK,Qag,Qac,Qal,Qad,Qam,Qai,Qab,Qan,tNil,tFA,tEq0,tEq1,tConv,tExt,tEqP,Qae,Qao,Qap,tUsd,tLen,wW,wV,simprocAttr]
          refine ch w2 ?_
          simp(disch:=first|omega|exact PairsOK.mk rfl|(simp only[lenW]<;>omega)) only[hK,Qag,Qac,Qal,Qad,Qam,Qai,Qab,Qan,tNil,tFA,tEq0,tEq1,tConv,tExt,tEqP,Qae,Qao,Qap,tUsd,tLen,wW,wV,simprocAttr]
          refine QbF (Qbc ?_)
          simp(disch:=first|omega|exact PairsOK.mk rfl|(simp only[lenW]<;>omega)) only[hK,Qag,Qac,Qal,Qad,Qam,Qai,Qab,Qan,tNil,tFA,tEq0,tEq1,tConv,tExt,tEqP,Qae,Qao,Qap,tUsd,tLen,wW,wV,simprocAttr]
          refine⟨i+1,by omega,by omega,?_⟩
          rw[hor,hbt,QaX (by simp),List.length_append,List.length_append]
          exact⟨[(50,.blk 50 0),(60,.blk 60 2)],rfl,RO.zero,RB.cells rfl rfl gg (RnL.cons (Rn.typed (Rn.x2 rfl rfl)) (RnL.cons (Rn.typed (Rn.x1 rfl rfl)) RnL.nil)) (RB.cells rfl rfl gg (RnL.same (QaP _)) RB.nil),RT.cons (Rn.same (Qar _)) (RT.cons (Rn.typed (Rn.x2 rfl rfl)) au5)⟩
        · rw [if_neg hK] at hbt
          have hK':¬(L.length:Int)=0:=by omega
          simp(disch:=first|omega|exact PairsOK.mk rfl|(simp only[lenW]<;>omega)) only[hK',Qag,Qac,Qal,Qad,Qam,Qai,Qab,Qan,tNil,tFA,tEq0,tEq1,tConv,tExt,tEqP,Qae,Qao,Qap,tUsd,tLen,wW,wV,simprocAttr]
          obtain⟨S,hS0⟩:∃S,O++[32,111,114,32]=S:=⟨_,rfl⟩
          have hSl:S.length=O.length+4:=by rw[<-hS0,List.length_append];rfl
          rw[hS0]at hor⊢
          refine Qaz 296 (fun k:Nat=>[(0,vrsV v),(7,bldP),(22,bxsV bs),(23,.int .i64 bs.length),(24,.int .i64 (i:Nat)),(39,ltsV L),(40,.int .i64 L.length),(41,.int .i64 k)]) (fun k=>bldL (S++anT v L k)) (fun k=>k<=L.length) (fun k=>L.length-k) 0 2 900 (fun _:Unit=>[(0,vrsV v),(7,bldP),(22,bxsV bs),(23,.int .i64 bs.length),(24,.int .i64 (i:Nat))]) (fun _=>bldL (S++anT v L L.length)) (fun _=>True) ?_ (Nat.zero_le _) ?_ ?_
          · rw [show S ++ anT v L 0 = S from List.append_nil _]
            first
              |(rw[<-hS0,Qb2];exact⟨[(50,.blk 50 0)],rfl,RO.zero,RB.cells rfl rfl gg (RnL.same rfl) RB.nil,RT.cons (Rn.same (Qar _)) (RT.cons (Rn.typed (Rn.x2 rfl rfl)) au5)⟩)
              |(rw[QaX (by omega),hSl];exact⟨[(50,.blk 50 0),(60,.blk 60 1)],rfl,RO.zero,RB.cells rfl rfl gg (RnL.cons (Rn.typed (Rn.x2 rfl rfl)) (RnL.cons (Rn.typed (Rn.x1 rfl rfl)) RnL.nil)) (RB.cells rfl rfl gg (RnL.same (QaP _)) RB.nil),RT.cons (Rn.same (Qar _)) (RT.cons (Rn.typed (Rn.x2 rfl rfl)) au5)⟩)
          · rintro k hk
            have ha:=(hAl k hk)
            by_cases hlk:k<L.length
            · obtain ⟨y, hy⟩ := Qaj hlk
              have hdy:=QhJ hy
              have hdz:5<=((L.flatMap ltC).drop (k*5)).length:=by rw[hdy];simp
              have hyo:=hlo y (List.mem_of_getElem? hy)
              have hy7:=Qev hn hyo
              have hT:=text146 v hn y hyo
              have han:anT v L (k+1)=anT v L k++(if 0<k then[32,97,110,100,32]else[])++ltT v y:=by rw[anT,QaB hy]
              have hCy:noRefs (ltC y)=true:=rfl
              unfold ltC at hT hCy
              by_cases hk0:0<k
              · rw [if_pos hk0] at han
                have hu:0<(S++anT v L k).length:=by rw[List.length_append];omega
                have hul:(S++anT v L k).length<=124500:=by rw[List.length_append];omega
                have e1:S++anT v L (k+1)=(S++anT v L k)++[32,97,110,100,32]++ltT v y:=by rw[han];simp only[List.append_assoc]
                rw[QaX hu]
                generalize S++anT v L k=u at*
                have w1:=wri1a _ [.int .i64 0,.int .i64 0,.int .i64 0,.bool false,.bool false] hCy 0 u.length u [32,97,110,100,32] rfl hu (by simp;omega)
                have w2:=wri1b _ hCy 1 (u.length+5) (u++[32,97,110,100,32]) (ltT v y) (by simp) (by omega) (by omega)
                simp(disch:=first|omega|exact PairsOK.mk rfl|(simp only[lenW]<;>omega)) only[hlk,hdy,hdz,hk0,Qag,Qac,Qal,Qad,Qam,Qai,Qab,Qan,tNil,tFA,tEq0,tEq1,tConv,tExt,tEqP,Qae,Qao,Qap,tUsd,tLen,wW,wV,simprocAttr]
                refine ch w1 ?_
                simp(disch:=first|omega|exact PairsOK.mk rfl|(simp only[lenW]<;>omega)) only[Qag,Qac,Qal,Qad,Qam,Qai,Qab,Qan,tNil,tFA,tEq0,tEq1,tConv,tExt,tEqP,Qae,Qao,Qap,tUsd,tLen,wW,wV,simprocAttr]
                refine cp hT ?_
                simp(disch:=first|omega|exact PairsOK.mk rfl|(simp only[lenW]<;>omega)) only[Qag,Qac,Qal,Qad,Qam,Qai,Qab,Qan,tNil,tFA,tEq0,tEq1,tConv,tExt,tEqP,Qae,Qao,Qap,tUsd,tLen,wW,wV,simprocAttr]
                refine ch w2 ?_
                simp(disch:=first|omega|exact PairsOK.mk rfl|(simp only[lenW]<;>omega)) only[Qag,Qac,Qal,Qad,Qam,Qai,Qab,Qan,tNil,tFA,tEq0,tEq1,tConv,tExt,tEqP,Qae,Qao,Qap,tUsd,tLen,wW,wV,simprocAttr]
                refine⟨k+1,by omega,by omega,?_⟩
                rw[e1,QaX (by simp;omega),List.length_append,List.length_append]
                exact⟨[(50,.blk 50 0),(60,.blk 60 2)],rfl,RO.zero,RB.cells rfl rfl gg (RnL.cons (Rn.typed (Rn.x2 rfl rfl)) (RnL.cons (Rn.typed (Rn.x1 rfl rfl)) RnL.nil)) (RB.cells rfl rfl gg (RnL.same (QaP _)) RB.nil),RT.cons (Rn.same (Qar _)) (RT.cons (Rn.typed (Rn.x2 rfl rfl)) au5)⟩
              · have ek : k = 0 := by omega
                subst ek
                rw[if_neg hk0,List.append_nil]at han
                rw[show anT v L 0=[] from rfl,List.nil_append]at han
                rw[show S++anT v L 0=S from List.append_nil _]
                by_cases hS:S=[]
                · subst hS
                  rw[Qb2]
                  have w0:=wri0 _ [.int .i64 0,.int .i64 0,.int .i64 0,.bool false,.bool false] hCy (ltT v y) hy7.2 (by omega)
                  simp(disch:=first|omega|exact PairsOK.mk rfl|(simp only[lenW]<;>omega)) only[hlk,hdy,hdz,Qag,Qac,Qal,Qad,Qam,Qai,Qab,Qan,tNil,tFA,tEq0,tEq1,tConv,tExt,tEqP,Qae,Qao,Qap,tUsd,tLen,wW,wV,simprocAttr]
                  refine cp hT ?_
                  simp(disch:=first|omega|exact PairsOK.mk rfl|(simp only[lenW]<;>omega)) only[Qag,Qac,Qal,Qad,Qam,Qai,Qab,Qan,tNil,tFA,tEq0,tEq1,tConv,tExt,tEqP,Qae,Qao,Qap,tUsd,tLen,wW,wV,simprocAttr]
                  refine ch w0 ?_
                  simp(disch:=first|omega|exact PairsOK.mk rfl|(simp only[lenW]<;>omega)) only[Qag,Qac,Qal,Qad,Qam,Qai,Qab,Qan,tNil,tFA,tEq0,tEq1,tConv,tExt,tEqP,Qae,Qao,Qap,tUsd,tLen,wW,wV,simprocAttr]
                  refine⟨0+1,by omega,by omega,?_⟩
                  rw[han,QaX hy7.2]
                  exact⟨[(50,.blk 50 0),(60,.blk 390 0)],rfl,RO.zero,RB.cells rfl rfl gg (RnL.cons (Rn.typed (Rn.x2 rfl rfl)) (RnL.cons (Rn.typed (Rn.x1 rfl rfl)) RnL.nil)) (RB.cells rfl rfl gg (RnL.same (QaP _)) RB.nil),RT.cons (Rn.same (Qar _)) (RT.cons (Rn.typed (Rn.x2 rfl rfl)) au5)⟩
                · have hu : 0 < S.length := List.length_pos_iff.2 hS
                  rw[QaX hu]
                  have w1:=wri1a _ [.int .i64 0,.int .i64 0,.int .i64 0,.bool false,.bool false] hCy 0 S.length S (ltT v y) rfl hu (by omega)
                  simp(disch:=first|omega|exact PairsOK.mk rfl|(simp only[lenW]<;>omega)) only[hlk,hdy,hdz,Qag,Qac,Qal,Qad,Qam,Qai,Qab,Qan,tNil,tFA,tEq0,tEq1,tConv,tExt,tEqP,Qae,Qao,Qap,tUsd,tLen,wW,wV,simprocAttr]
                  refine cp hT ?_
                  simp(disch:=first|omega|exact PairsOK.mk rfl|(simp only[lenW]<;>omega)) only[Qag,Qac,Qal,Qad,Qam,Qai,Qab,Qan,tNil,tFA,tEq0,tEq1,tConv,tExt,tEqP,Qae,Qao,Qap,tUsd,tLen,wW,wV,simprocAttr]
                  refine ch w1 ?_
                  simp(disch:=first|omega|exact PairsOK.mk rfl|(simp only[lenW]<;>omega)) only[Qag,Qac,Qal,Qad,Qam,Qai,Qab,Qan,tNil,tFA,tEq0,tEq1,tConv,tExt,tEqP,Qae,Qao,Qap,tUsd,tLen,wW,wV,simprocAttr]
                  refine⟨0+1,by omega,by omega,?_⟩
                  rw[han,QaX (by simp;omega),List.length_append]
                  exact⟨[(50,.blk 50 0),(60,.blk 60 1)],rfl,RO.zero,RB.cells rfl rfl gg (RnL.cons (Rn.typed (Rn.x2 rfl rfl)) (RnL.cons (Rn.typed (Rn.x1 rfl rfl)) RnL.nil)) (RB.cells rfl rfl gg (RnL.same (QaP _)) RB.nil),RT.cons (Rn.same (Qar _)) (RT.cons (Rn.typed (Rn.x2 rfl rfl)) au5)⟩
            · have e : k = L.length := by omega
              subst e
              have hu:0<(S++anT v L L.length).length:=by rw[List.length_append];omega
              generalize S++anT v L L.length=U at*
              rw[QaX hu]
              simp(disch:=first|omega|exact PairsOK.mk rfl|(simp only[lenW]<;>omega)) only[hlk,Qag,Qac,Qal,Qad,Qam,Qai,Qab,Qan,tNil,tFA,tEq0,tEq1,tConv,tExt,tEqP,Qae,Qao,Qap,tUsd,tLen,wW,wV,simprocAttr]
              exact⟨(),[(50,.blk 50 0),(60,.blk 60 0)],rfl,RO.zero,RB.cells rfl rfl gg (RnL.cons (Rn.typed (Rn.x2 rfl rfl)) (RnL.cons (Rn.typed (Rn.x1 rfl rfl)) RnL.nil)) (RB.cells rfl rfl gg (RnL.same (QaP _)) RB.nil),RT.cons (Rn.same (Qar _)) (RT.cons (Rn.typed (Rn.x2 rfl rfl)) au5)⟩
          · rintro _ _
            have ha:=(hAl L.length (Nat.le_refl _))
            have hu:0<(S++anT v L L.length).length:=by rw[List.length_append];omega
            have e2:orT v bs (i+1)=S++anT v L L.length:=by rw[hor,hbt]
            generalize S++anT v L L.length=U at*
            rw[QaX hu]
            simp(disch:=first|omega|exact PairsOK.mk rfl|(simp only[lenW]<;>omega)) only[Qag,Qac,Qal,Qad,Qam,Qai,Qab,Qan,tNil,tFA,tEq0,tEq1,tConv,tExt,tEqP,Qae,Qao,Qap,tUsd,tLen,wW,wV,simprocAttr]
            refine⟨i+1,by omega,by omega,?_⟩
            rw[e2,QaX hu]
            exact⟨[(50,.blk 50 0),(60,.blk 60 0)],rfl,RO.zero,RB.cells rfl rfl gg (RnL.cons (Rn.typed (Rn.x2 rfl rfl)) (RnL.cons (Rn.typed (Rn.x1 rfl rfl)) RnL.nil)) (RB.cells rfl rfl gg (RnL.same (QaP _)) RB.nil),RT.cons (Rn.same (Qar _)) (RT.cons (Rn.typed (Rn.x2 rfl rfl)) au5)⟩
      · have ei : i = 0 := by omega
        subst ei
        rw[if_neg hi0,List.append_nil]at hor
        rw[show orT v bs 0=[] from rfl]at hor⊢
        rw[Qb2]
        simp(disch:=first|omega|exact PairsOK.mk rfl|(simp only[lenW]<;>omega)) only[hlt,hdb,hdl,Qag,Qac,Qal,Qad,Qam,Qai,Qab,Qan,tNil,tFA,tEq0,tEq1,tConv,tExt,tEqP,Qae,Qao,Qap,tUsd,tLen,wW,wV,simprocAttr]
        refine cp hL ?_
        by_cases hK:L.length=0
        · rw [if_pos hK] at hbt
          have w2:=wri0 _ [.nilsl,.nilsl] hCb [116,114,117,101] (by decide) (by decide)
          simp(disch:=first|omega|exact PairsOK.mk rfl|(simp only[lenW]<;>omega)) only[hK,Qag,Qac,Qal,Qad,Qam,Qai,Qab,Qan,tNil,tFA,tEq0,tEq1,tConv,tExt,tEqP,Qae,Qao,Qap,tUsd,tLen,wW,wV,simprocAttr]
          refine ch w2 ?_
          simp(disch:=first|omega|exact PairsOK.mk rfl|(simp only[lenW]<;>omega)) only[hK,Qag,Qac,Qal,Qad,Qam,Qai,Qab,Qan,tNil,tFA,tEq0,tEq1,tConv,tExt,tEqP,Qae,Qao,Qap,tUsd,tLen,wW,wV,simprocAttr]
          refine QbF (Qbc ?_)
          simp(disch:=first|omega|exact PairsOK.mk rfl|(simp only[lenW]<;>omega)) only[hK,Qag,Qac,Qal,Qad,Qam,Qai,Qab,Qan,tNil,tFA,tEq0,tEq1,tConv,tExt,tEqP,Qae,Qao,Qap,tUsd,tLen,wW,wV,simprocAttr]
          refine⟨0+1,by omega,by omega,?_⟩
          rw[hor,hbt,QaX (by simp)]
          exact⟨[(50,.blk 50 0),(60,.blk 390 0)],rfl,RO.zero,RB.cells rfl rfl gg (RnL.cons (Rn.typed (Rn.x2 rfl rfl)) (RnL.cons (Rn.typed (Rn.x1 rfl rfl)) RnL.nil)) (RB.cells rfl rfl gg (RnL.same (QaP _)) RB.nil),RT.cons (Rn.same (Qar _)) (RT.cons (Rn.typed (Rn.x2 rfl rfl)) au5)⟩
        · rw [if_neg hK] at hbt
          have hK':¬(L.length:Int)=0:=by omega
          simp(disch:=first|omega|exact PairsOK.mk rfl|(simp only[lenW]<;>omega)) only[hK',Qag,Qac,Qal,Qad,Qam,Qai,Qab,Qan,tNil,tFA,tEq0,tEq1,tConv,tExt,tEqP,Qae,Qao,Qap,tUsd,tLen,wW,wV,simprocAttr]
          obtain⟨S,hS0⟩:∃S:List UInt8,[]=S:=⟨_,rfl⟩
          have hSl:S.length=0:=by rw[<-hS0];rfl
          rw[hS0]at hor
          refine Qaz 296 (fun k:Nat=>[(0,vrsV v),(7,bldP),(22,bxsV bs),(23,.int .i64 bs.length),(24,.int .i64 (0:Nat)),(39,ltsV L),(40,.int .i64 L.length),(41,.int .i64 k)]) (fun k=>bldL (S++anT v L k)) (fun k=>k<=L.length) (fun k=>L.length-k) 0 2 900 (fun _:Unit=>[(0,vrsV v),(7,bldP),(22,bxsV bs),(23,.int .i64 bs.length),(24,.int .i64 (0:Nat))]) (fun _=>bldL (S++anT v L L.length)) (fun _=>True) ?_ (Nat.zero_le _) ?_ ?_
          · rw [show S ++ anT v L 0 = S from List.append_nil _]
            first
              |(rw[<-hS0,Qb2];exact⟨[(50,.blk 50 0)],rfl,RO.zero,RB.cells rfl rfl gg (RnL.same rfl) RB.nil,RT.cons (Rn.same (Qar _)) (RT.cons (Rn.typed (Rn.x2 rfl rfl)) au5)⟩)
              |(rw[QaX (by omega),hSl];exact⟨[(50,.blk 50 0),(60,.blk 60 1)],rfl,RO.zero,RB.cells rfl rfl gg (RnL.cons (Rn.typed (Rn.x2 rfl rfl)) (RnL.cons (Rn.typed (Rn.x1 rfl rfl)) RnL.nil)) (RB.cells rfl rfl gg (RnL.same (QaP _)) RB.nil),RT.cons (Rn.same (Qar _)) (RT.cons (Rn.typed (Rn.x2 rfl rfl)) au5)⟩)
          · rintro k hk
            have ha:=(hAl k hk)
            by_cases hlk:k<L.length
            · obtain ⟨y, hy⟩ := Qaj hlk
              have hdy:=QhJ hy
              have hdz:5<=((L.flatMap ltC).drop (k*5)).length:=by rw[hdy];simp
              have hyo:=hlo y (List.mem_of_getElem? hy)
              have hy7:=Qev hn hyo
              have hT:=text146 v hn y hyo
              have han:anT v L (k+1)=anT v L k++(if 0<k then[32,97,110,100,32]else[])++ltT v y:=by rw[anT,QaB hy]
              have hCy:noRefs (ltC y)=true:=rfl
              unfold ltC at hT hCy
              by_cases hk0:0<k
              · rw [if_pos hk0] at han
                have hu:0<(S++anT v L k).length:=by rw[List.length_append];omega
                have hul:(S++anT v L k).length<=124500:=by rw[List.length_append];omega
                have e1:S++anT v L (k+1)=(S++anT v L k)++[32,97,110,100,32]++ltT v y:=by rw[han];simp only[List.append_assoc]
                rw[QaX hu]
                generalize S++anT v L k=u at*
                have w1:=wri1a _ [.int .i64 0,.int .i64 0,.int .i64 0,.bool false,.bool false] hCy 0 u.length u [32,97,110,100,32] rfl hu (by simp;omega)
                have w2:=wri1b _ hCy 1 (u.length+5) (u++[32,97,110,100,32]) (ltT v y) (by simp) (by omega) (by omega)
                simp(disch:=first|omega|exact PairsOK.mk rfl|(simp only[lenW]<;>omega)) only[hlk,hdy,hdz,hk0,Qag,Qac,Qal,Qad,Qam,Qai,Qab,Qan,tNil,tFA,tEq0,tEq1,tConv,tExt,tEqP,Qae,Qao,Qap,tUsd,tLen,wW,wV,simprocAttr]
                refine ch w1 ?_
                simp(disch:=first|omega|exact PairsOK.mk rfl|(simp only[lenW]<;>omega)) only[Qag,Qac,Qal,Qad,Qam,Qai,Qab,Qan,tNil,tFA,tEq0,tEq1,tConv,tExt,tEqP,Qae,Qao,Qap,tUsd,tLen,wW,wV,simprocAttr]
                refine cp hT ?_
                simp(disch:=first|omega|exact PairsOK.mk rfl|(simp only[lenW]<;>omega)) only[Qag,Qac,Qal,Qad,Qam,Qai,Qab,Qan,tNil,tFA,tEq0,tEq1,tConv,tExt,tEqP,Qae,Qao,Qap,tUsd,tLen,wW,wV,simprocAttr]
                refine ch w2 ?_
                simp(disch:=first|omega|exact PairsOK.mk rfl|(simp only[lenW]<;>omega)) only[Qag,Qac,Qal,Qad,Qam,Qai,Qab,Qan,tNil,tFA,tEq0,tEq1,tConv,tExt,tEqP,Qae,Qao,Qap,tUsd,tLen,wW,wV,simprocAttr]
                refine⟨k+1,by omega,by omega,?_⟩
                rw[e1,QaX (by simp;omega),List.length_append,List.length_append]
                exact⟨[(50,.blk 50 0),(60,.blk 60 2)],rfl,RO.zero,RB.cells rfl rfl gg (RnL.cons (Rn.typed (Rn.x2 rfl rfl)) (RnL.cons (Rn.typed (Rn.x1 rfl rfl)) RnL.nil)) (RB.cells rfl rfl gg (RnL.same (QaP _)) RB.nil),RT.cons (Rn.same (Qar _)) (RT.cons (Rn.typed (Rn.x2 rfl rfl)) au5)⟩
              · have ek : k = 0 := by omega
                subst ek
                rw[if_neg hk0,List.append_nil]at han
                rw[show anT v L 0=[] from rfl,List.nil_append]at han
                rw[show S++anT v L 0=S from List.append_nil _]
                by_cases hS:S=[]
                · subst hS
                  rw[Qb2]
                  have w0:=wri0 _ [.int .i64 0,.int .i64 0,.int .i64 0,.bool false,.bool false] hCy (ltT v y) hy7.2 (by omega)
                  simp(disch:=first|omega|exact PairsOK.mk rfl|(simp only[lenW]<;>omega)) only[hlk,hdy,hdz,Qag,Qac,Qal,Qad,Qam,Qai,Qab,Qan,tNil,tFA,tEq0,tEq1,tConv,tExt,tEqP,Qae,Qao,Qap,tUsd,tLen,wW,wV,simprocAttr]
                  refine cp hT ?_
                  simp(disch:=first|omega|exact PairsOK.mk rfl|(simp only[lenW]<;>omega)) only[Qag,Qac,Qal,Qad,Qam,Qai,Qab,Qan,tNil,tFA,tEq0,tEq1,tConv,tExt,tEqP,Qae,Qao,Qap,tUsd,tLen,wW,wV,simprocAttr]
                  refine ch w0 ?_
                  simp(disch:=first|omega|exact PairsOK.mk rfl|(simp only[lenW]<;>omega)) only[Qag,Qac,Qal,Qad,Qam,Qai,Qab,Qan,tNil,tFA,tEq0,tEq1,tConv,tExt,tEqP,Qae,Qao,Qap,tUsd,tLen,wW,wV,simprocAttr]
                  refine⟨0+1,by omega,by omega,?_⟩
                  rw[han,QaX hy7.2]
                  exact⟨[(50,.blk 50 0),(60,.blk 390 0)],rfl,RO.zero,RB.cells rfl rfl gg (RnL.cons (Rn.typed (Rn.x2 rfl rfl)) (RnL.cons (Rn.typed (Rn.x1 rfl rfl)) RnL.nil)) (RB.cells rfl rfl gg (RnL.same (QaP _)) RB.nil),RT.cons (Rn.same (Qar _)) (RT.cons (Rn.typed (Rn.x2 rfl rfl)) au5)⟩
                · have hu : 0 < S.length := List.length_pos_iff.2 hS
                  rw[QaX hu]
                  have w1:=wri1a _ [.int .i64 0,.int .i64 0,.int .i64 0,.bool false,.bool false] hCy 0 S.length S (ltT v y) rfl hu (by omega)
                  simp(disch:=first|omega|exact PairsOK.mk rfl|(simp only[lenW]<;>omega)) only[hlk,hdy,hdz,Qag,Qac,Qal,Qad,Qam,Qai,Qab,Qan,tNil,tFA,tEq0,tEq1,tConv,tExt,tEqP,Qae,Qao,Qap,tUsd,tLen,wW,wV,simprocAttr]
                  refine cp hT ?_
                  simp(disch:=first|omega|exact PairsOK.mk rfl|(simp only[lenW]<;>omega)) only[Qag,Qac,Qal,Qad,Qam,Qai,Qab,Qan,tNil,tFA,tEq0,tEq1,tConv,tExt,tEqP,Qae,Qao,Qap,tUsd,tLen,wW,wV,simprocAttr]
                  refine ch w1 ?_
                  simp(disch:=first|omega|exact PairsOK.mk rfl|(simp only[lenW]<;>omega)) only[Qag,Qac,Qal,Qad,Qam,Qai,Qab,Qan,tNil,tFA,tEq0,tEq1,tConv,tExt,tEqP,Qae,Qao,Qap,tUsd,tLen,wW,wV,simprocAttr]
                  refine⟨0+1,by omega,by omega,?_⟩
                  rw[han,QaX (by simp;omega),List.length_append]
                  exact⟨[(50,.blk 50 0),(60,.blk 60 1)],rfl,RO.zero,RB.cells rfl rfl gg (RnL.cons (Rn.typed (Rn.x2 rfl rfl)) (RnL.cons (Rn.typed (Rn.x1 rfl rfl)) RnL.nil)) (RB.cells rfl rfl gg (RnL.same (QaP _)) RB.nil),RT.cons (Rn.same (Qar _)) (RT.cons (Rn.typed (Rn.x2 rfl rfl)) au5)⟩
            · have e : k = L.length := by omega
              subst e
              have hu:0<(S++anT v L L.length).length:=by rw[List.length_append];omega
              generalize S++anT v L L.length=U at*
              rw[QaX hu]
              simp(disch:=first|omega|exact PairsOK.mk rfl|(simp only[lenW]<;>omega)) only[hlk,Qag,Qac,Qal,Qad,Qam,Qai,Qab,Qan,tNil,tFA,tEq0,tEq1,tConv,tExt,tEqP,Qae,Qao,Qap,tUsd,tLen,wW,wV,simprocAttr]
              exact⟨(),[(50,.blk 50 0),(60,.blk 60 0)],rfl,RO.zero,RB.cells rfl rfl gg (RnL.cons (Rn.typed (Rn.x2 rfl rfl)) (RnL.cons (Rn.typed (Rn.x1 rfl rfl)) RnL.nil)) (RB.cells rfl rfl gg (RnL.same (QaP _)) RB.nil),RT.cons (Rn.same (Qar _)) (RT.cons (Rn.typed (Rn.x2 rfl rfl)) au5)⟩
          · rintro _ _
            have ha:=(hAl L.length (Nat.le_refl _))
            have hu:0<(S++anT v L L.length).length:=by rw[List.length_append];omega
            have e2:orT v bs (0+1)=S++anT v L L.length:=by rw[hor,hbt]
            generalize S++anT v L L.length=U at*
            rw[QaX hu]
            simp(disch:=first|omega|exact PairsOK.mk rfl|(simp only[lenW]<;>omega)) only[Qag,Qac,Qal,Qad,Qam,Qai,Qab,Qan,tNil,tFA,tEq0,tEq1,tConv,tExt,tEqP,Qae,Qao,Qap,tUsd,tLen,wW,wV,simprocAttr]
            refine⟨0+1,by omega,by omega,?_⟩
            rw[e2,QaX hu]
            exact⟨[(50,.blk 50 0),(60,.blk 60 0)],rfl,RO.zero,RB.cells rfl rfl gg (RnL.cons (Rn.typed (Rn.x2 rfl rfl)) (RnL.cons (Rn.typed (Rn.x1 rfl rfl)) RnL.nil)) (RB.cells rfl rfl gg (RnL.same (QaP _)) RB.nil),RT.cons (Rn.same (Qar _)) (RT.cons (Rn.typed (Rn.x2 rfl rfl)) au5)⟩
    · have e : i = bs.length := by omega
      subst e
      have hu:=hTl.2 (by omega)
      rw[QaX hu]
      simp(disch:=first|omega|exact PairsOK.mk rfl|(simp only[lenW]<;>omega)) only[hlt,Qag,Qac,Qal,Qad,Qam,Qai,Qab,Qan,tNil,tFA,tEq0,tEq1,tConv,tExt,tEqP,Qae,Qao,Qap,tUsd,tLen,wW,wV,simprocAttr]
      exact⟨(),[(50,.blk 50 0),(60,.blk 60 0)],rfl,RO.zero,RB.cells rfl rfl gg (RnL.cons (Rn.typed (Rn.x2 rfl rfl)) (RnL.cons (Rn.typed (Rn.x1 rfl rfl)) RnL.nil)) (RB.cells rfl rfl gg (RnL.same (QaP _)) RB.nil),RT.cons (Rn.typed (Rn.x2 rfl rfl)) RT.nil⟩
  rintro _ _
  have hTl:=Qew hn h5 hin hb bs.length (Nat.le_refl _)
  have hu:=hTl.2 (by omega)
  have hs:=string1 (orT v bs bs.length) hu (by omega)
  rw[QaX hu]
  simp(disch:=first|omega|exact PairsOK.mk rfl|(simp only[lenW]<;>omega)) only[Qag,Qac,Qal,Qad,Qam,Qai,Qab,Qan,tNil,tFA,tEq0,tEq1,tConv,tExt,tEqP,Qae,Qao,Qap,tUsd,tLen,wW,wV,simprocAttr]
  refine ch hs ?_
  simp(disch:=first|omega|exact PairsOK.mk rfl|(simp only[lenW]<;>omega)) only[Qag,Qac,Qal,Qad,Qam,Qai,Qab,Qan,tNil,tFA,tEq0,tEq1,tConv,tExt,tEqP,Qae,Qao,Qap,tUsd,tLen,wW,wV,simprocAttr]
  exact⟨.inr trivial,_,rfl,Rn.same rfl⟩
end Go.AM.SO
namespace Go.AM.XY
open Go.Proofs
set_option maxHeartbeats 4000000
noncomputable section
def cf:YA.Cf:={always:=[27,72,76].map fun k=>(k,.pure)}
def s28:SFn:=by
 refine(?f:YA.Yt Tryz.prog cf 28 [[0,1,5],[2,9,10,11,12,8,13,14],[15],[3,6,7,16,17,18],[3,6,7,16,19,20,21,22,23,24]]) ?s ?h
 case h=>exact YA.rr
 exact fun s _=>s
def s31:SFn:=by
 refine(?f:YA.Yt Tryz.prog cf 31 [[0,4,5],[14,15,16,13,17,18],[19],[1,2,6,7,20,21],[4,5,7,20],[1],[],[25,26,27],[29,30,31,32,28,33,34],[35],[2,6,8,22,23,24,10,11,12,36,37],[4,5,10,11,12,36,38,39,40,41,42,43,44,45,46,47,48,49],[50],[2,6,8,22,23,24,51]]) ?s ?h
 case h=>exact YA.rr
 exact fun s _=>s
def s32:SFn:=by
 refine(?f:YA.Yt Tryz.prog cf 32 [[0,4,5],[2,14,15,16,13,17,18],[19],[1,6,7,20,21],[4,5,7,20],[1],[],[25,26,27],[10,29,30,31,32,28,33,34],[35],[6,8,22,23,24,11,12,36,37],[4,5,11,12,36,38,39,40],[41],[6,8,22,23,24,42]]) ?s ?h
 case h=>exact YA.rr
 exact fun s _=>s
theorem ok28:okFn Tryz.prog 28 s28=true:=by kernel_rfl
theorem ok31:okFn Tryz.prog 31 s31=true:=by kernel_rfl
theorem ok32:okFn Tryz.prog 32 s32=true:=by kernel_rfl
end
end Go.AM.XY
