/- A part of the proof of CellWordsCardSaid: lemmas on the way (AmHj, AmHm, AmHz, AmHn, AmHo, AmHp). Conditions: none of ours. -/
import Derived.Test.YtmoanlnleppcpaaGreatDoorProg
import Derived.KernelRfl
import Derived.Test.YtmoanlnleppcpaaGreatDoorAmZ12
set_option linter.unusedSectionVars false
set_option maxHeartbeats 32000000
set_option maxRecDepth 100000
set_option linter.unusedVariables false
set_option linter.unusedSimpArgs false
namespace Go.AM.SO
open Go.Proofs Go.AM.SD Go.AM.SE
theorem QkN {l:List Aut} {t:List Nat} {e:Nat}:∀{k:Nat},k<=l.length->((stp l t e k).isSome=true↔∀(i:Nat) a,i<k->l[i]?=some a->e∈a.al->(stepA a.es (t.getD i 0) e).isSome=true)
 |0,_=>by simp[stp]
 | k + 1, hk => by
  have ih:=QkN (l:=l) (t:=t) (e:=e) (k:=k) (by omega)
  obtain⟨a,ha⟩:=Qai (l:=l) (i:=k) (by omega)
  unfold stp
  rw[ha]
  cases hs:stp l t e k with
  | none =>
   rw[hs]at ih
   constructor
   ·intro h;simp at h
   ·intro h
    have:=ih.2 fun i a hi=>h i a (by omega)
    simp at this
  | some n =>
   rw[hs]at ih
   have ih1:=ih.1 rfl
   dsimp only
   by_cases he:e∈a.al
   ·rw [if_pos he]
    cases hst:stepA a.es (t.getD k 0) e with
    | none =>
     constructor
     ·intro h;simp at h
     ·intro h
      have:=h k a (Nat.lt_succ_self _) ha he
      rw[hst]at this;simp at this
    |some to=>
     refine⟨fun _ i b hi hb heb=>?_,fun _=>rfl⟩
     by_cases e2:i=k
     ·subst e2;rw[ha]at hb;cases hb;rw[hst];rfl
     ·exact ih1 i b (by omega) hb heb
   ·rw [if_neg he]
    refine⟨fun _ i b hi hb heb=>?_,fun _=>rfl⟩
    by_cases e2:i=k
    ·subst e2;rw[ha]at hb;cases hb;exact absurd heb he
    ·exact ih1 i b (by omega) hb heb
theorem QmO {l:List Aut} {t:List Nat} {e:Nat}:(stepT l t e).isSome=true↔∀(i:Nat) a,l[i]?=some a->e∈a.al->(stepA a.es (t.getD i 0) e).isSome=true:=by
 rw[stepT,QkN (Nat.le_refl _)]
 exact⟨fun h i a ha=>h i a (List.getElem?_eq_some_iff.1 ha).1 ha,fun h i a _ ha=>h i a ha⟩
end Go.AM.SO
namespace Go.AM.SO
open Go.Proofs Go.AM.SD Go.AM.SE
def runA (es:List Ed):Nat->List Nat->Option Nat
 |s,[]=>some s
 |s,x::w=>match stepA es s x with
  |some n=>runA es n w
  |none=>none
def gen (a:Aut) (w:List Nat):Bool:=(runA a.es 0 w).isSome
def runT (l:List Aut):List Nat->List Nat->Option (List Nat)
 |t,[]=>some t
 |t,x::w=>match stepT l t x with
  |some n=>runT l n w
  |none=>none
theorem Qi6 {l:List Aut} (hw:∀a∈l,∀e∈a.es,e.1<a.n/\e.2.2<a.n):∀{w t:List Nat},InT l t->((runT l t w).isSome=true↔∀(i:Nat) a,l[i]?=some a->(runA a.es (t.getD i 0) (w.filter fun x=>a.al.contains x)).isSome=true)
 |[],t,_=>⟨fun _ _ _ _=>rfl,fun _=>rfl⟩
 | x :: w, t, ht => by
  have hll:l.length<=t.length:=Nat.le_of_eq ht.1.symm
  have key:∀n,stepT l t x=some n->∀(i:Nat) a,l[i]?=some a->runA a.es (t.getD i 0) ((x::w).filter fun x=>a.al.contains x)=runA a.es (n.getD i 0) (w.filter fun x=>a.al.contains x):=by
   intro n hn i a ha
   have hi:=(List.getElem?_eq_some_iff.1 ha).1
   have hs:=((QcG hll).1 hn).2.2 i a hi ha
   by_cases he:x∈a.al
   ·rw [if_pos he] at hs
    have hc:a.al.contains x=true:=by simpa using he
    have hil:i<n.length:=by
     have:=((QcG hll).1 hn).1
     have:=ht.1
     omega
    rw[List.filter_cons,if_pos hc,runA,hs,List.getElem?_eq_getElem hil,List.getD_eq_getElem?_getD,List.getElem?_eq_getElem hil]
    rfl
   ·rw [if_neg he] at hs
    have hc:¬a.al.contains x=true:=by simpa using he
    rw[List.filter_cons,if_neg hc,List.getD_eq_getElem?_getD,List.getD_eq_getElem?_getD,hs]
  unfold runT
  cases hn:stepT l t x with
  |some n=>
   rw[Qi6 hw (QdQ hw ht hn)]
   exact⟨fun h i a ha=>by rw[key n hn i a ha];exact h i a ha,fun h i a ha=>by rw[<-key n hn i a ha];exact h i a ha⟩
  | none =>
   refine⟨fun h=>(by cases h),fun h=>?_⟩
   have:(stepT l t x).isSome=true:=QmO.2 fun i a ha he=>by
    have h1:=h i a ha
    have hc:a.al.contains x=true:=by simpa using he
    rw[List.filter_cons,if_pos hc,runA]at h1
    cases hs:stepA a.es (t.getD i 0) x with
    |some _=>rfl
    |none=>rw[hs]at h1;cases h1
   rw[hn]at this;cases this
theorem QkO {l:List Aut} {T:List (List Nat)} {j:Nat} {t:List Nat} {e:Nat}:∀{ev:List Nat},e∈ev->((rowE l ev T j t).find? fun x=>decide (x.2.1=e)).map (·.2.2)=(stepT l t e).map (ixT T)
 |[],h=>by cases h
 | y :: ev, h => by
  unfold rowE
  rw[List.filterMap_cons]
  by_cases hy:y=e
  ·subst hy
   cases hs:stepT l t y with
   |some n=>simp
   |none=>
    show(((rowE l ev T j t).find? fun x=>decide (x.2.1=y)).map (·.2.2))=none
    rw[Option.map_eq_none_iff,List.find?_eq_none]
    intro x hx he
    obtain⟨_,_,n,hn,_⟩:=Qds hx
    rw[of_decide_eq_true he,hs]at hn
    cases hn
  ·have ih := QkO (l := l) (T := T) (j := j) (t := t) ((List.mem_cons.1 h).resolve_left fun e' => hy e'.symm)
   unfold rowE at ih
   cases hs:stepT l t y with
   |some n=>simpa[hy]using ih
   |none=>simpa using ih
theorem QmP {l:List Aut} (h:∀a∈l,WfI a) {j:Nat} {t:List Nat} (hj:(sync0 l).1[j]?=some t) {e:Nat} (he:e∈evA l):stepA (syncA l).es j e=(stepT l t e).map (ixT (sync0 l).1):=by
 rw[Qi3,Qou h hj,QkO he]
theorem Qi7 {l:List Aut} (h:∀a∈l,WfI a):∀{w:List Nat} {j:Nat} {t:List Nat},(sync0 l).1[j]?=some t->(∀x∈w,x∈evA l)->(runA (syncA l).es j w).isSome=(runT l t w).isSome
 |[],_,_,_,_=>rfl
 | x :: w, j, t, hj, hw => by
  have hlt:j<(sync0 l).1.length:=(List.getElem?_eq_some_iff.1 hj).1
  have hx:=hw x (List.mem_cons_self ..)
  rw[runA,runT,QmP h hj hx]
  cases hs:stepT l t x with
  |none=>rfl
  |some n=>
   have hn:=(QdZ (fun a ha=>(h a ha).pos) (fun a ha=>(h a ha).wf.esn)).cl j t hlt hj x hx n hs
   exact Qi7 h (QhY hn) fun y hy=>hw y (List.mem_cons_of_mem _ hy)
theorem QkP {l:List Aut} (h:∀a∈l,WfI a) {w:List Nat} (hw:∀x∈w,x∈evA l):gen (syncA l) w=true↔∀a∈l,gen a (w.filter fun x=>a.al.contains x)=true:=by
  have h0:(sync0 l).1[0]?=some (List.replicate l.length 0):=by
    obtain⟨r,hr⟩:=@sync_pre l
    rw[<-hr];rfl
  have hin:InT l (List.replicate l.length 0):=⟨by simp,fun i a ha=>by
    have hi:=(List.getElem?_eq_some_iff.1 ha).1
    rw[List.getD_eq_getElem?_getD,List.getElem?_replicate,if_pos hi]
    exact(h a (List.mem_of_getElem? ha)).pos⟩
  unfold gen
  rw[Qi7 h h0 hw,Qi6 (fun a ha=>(h a ha).wf.esn) hin]
  have hg:∀i,(List.replicate l.length 0).getD i 0=0:=by
    intro i
    rw[List.getD_eq_getElem?_getD,List.getElem?_replicate]
    split<;>rfl
  constructor
  · intro hh a ha
    obtain⟨i,hi⟩:=List.getElem?_of_mem ha
    have:=hh i a hi
    rwa [hg]at this
  · intro hh i a ha
    rw[hg]
    exact hh a (List.mem_of_getElem? ha)
theorem Qpn {A B:List Aut} (h:∀a∈A++B,WfI a) {w:List Nat} (hw:∀x∈w,x∈evA A) (hs:∀x∈evA A,x∈evA (A++B)):gen (syncA (A++B)) w=(gen (syncA A) w&&B.all fun b=>gen b (w.filter fun x=>b.al.contains x)):=by
 have hA:∀a∈A,WfI a:=fun a ha=>h a (List.mem_append_left _ ha)
 rw[Bool.eq_iff_iff,Bool.and_eq_true,QkP h fun x hx=>hs x (hw x hx),QkP hA hw,List.all_eq_true]
 exact⟨fun hh=>⟨fun a ha=>hh a (List.mem_append_left _ ha),fun b hb=>hh b (List.mem_append_right _ hb)⟩,fun⟨h1,h2⟩ a ha=>(List.mem_append.1 ha).elim (h1 a) (h2 a)⟩
end Go.AM.SO
namespace Go.AM.TU
open Go.Proofs
set_option maxHeartbeats 4000000
noncomputable section
def cf:YA.Cf:={most:= .pure,always:=[40,41].map fun k=>(k,.heap)}
def s7:SFn:=by
 refine(?f:YA.Yt Tryz.prog cf 7 [[0,4],[23,24,25,26,27,28,29,30,31,32,33],[1,2,34,35],[4,2,34,36,37],[39,40,38,41,42],[44,45,43,46,47,48,9],[49,50,51,52,53,54,55,56,57,58,59],[1,5,6,7,8,10,60,61,62,63,64,65,66],[4,7,10,60],[1],[],[70,71,72],[13,73,74,75,76,77,78,79,80,81,82,83,84,85],[86],[8,67,68,69,88,89,90,87,91,92],[15,93],[5,6,11,117,132,130,131,14,94],[4,5,94,95],[],[99,100,101],[102,103,104,105],[17,18,107,108,109,110,106,111,112],[20,113],[6,11,117,132,130,131,14,96,97,98,19,114],[4,19,114,115,116,118],[119],[6,11,117,96,97,98,121,122,123,124,120,125,126],[132,130,131,14,21,22,127,128,129,133]]) ?s ?h
 case h=>conv=>lhs;reduce;simp only[Int.reduceOfNat,Int.reduceNegSucc,YA.u8e,UInt8.reduceOfNat]
 case f=>exact fun s _=>s
def s39:SFn:=by
 refine(?f:YA.Yt Tryz.prog cf 39 [[0,4,5],[9,10],[11],[1,2,6,12,13],[4,5,1,2,6,12,15,16,17,14,18,19,7],[8,20]]) ?s ?h
 case h=>conv=>lhs;reduce;simp only[Int.reduceOfNat,Int.reduceNegSucc,YA.u8e,UInt8.reduceOfNat]
 case f=>exact fun s _=>s
def s42:SFn:=by
 refine(?f:YA.Yt Tryz.prog cf 42 [[3],[0,1,4,5,6,7,8,9]]) ?s ?h
 case h=>conv=>lhs;reduce;simp only[Int.reduceOfNat,Int.reduceNegSucc,YA.u8e,UInt8.reduceOfNat]
 case f=>exact fun s _=>s
def s113:SFn:=by
 refine(?f:YA.Yt Tryz.prog cf 113 [[0,4,5],[8,9],[1,2,10],[4,5,2,10,12,13,14,11,15,16],[1,6,7,17,18,19,20,21]]) ?s ?h
 case h=>conv=>lhs;reduce;simp only[Int.reduceOfNat,Int.reduceNegSucc,YA.u8e,UInt8.reduceOfNat]
 case f=>exact fun s _=>s
def s194:SFn:=by
 refine(?f:YA.Yt Tryz.prog cf 194 [[0,6,7],[],[],[14,15,16,17],[9,18,19,20,21],[22],[1,2,3,11,12,13,8,10,23,24,25],[6,7,8,10,23,26],[27],[1,2,3,11,12,13,28,29,30]]) ?s ?h
 case h=>conv=>lhs;reduce;simp only[Int.reduceOfNat,Int.reduceNegSucc,YA.u8e,UInt8.reduceOfNat]
 case f=>exact fun s _=>s
theorem ok7:okFn Tryz.prog 7 s7=true:=by kernel_rfl
theorem ok39:okFn Tryz.prog 39 s39=true:=by kernel_rfl
theorem ok42:okFn Tryz.prog 42 s42=true:=by kernel_rfl
theorem ok113:okFn Tryz.prog 113 s113=true:=by kernel_rfl
theorem ok194:okFn Tryz.prog 194 s194=true:=by kernel_rfl
end
end Go.AM.TU
namespace Go.AM.SO
open Go.Proofs Go.AM.SD Go.AM.SE
def folA (es:List Ed):Nat->List Nat->Nat×Nat
 |s,[]=>(s,0)
 |s,x::w=>match stepA es s x with
  |some n=>((folA es n w).1,(folA es n w).2+1)
  |none=>(s,0)
theorem QkQ {es:List Ed}:∀{w:List Nat} {s:Nat},(folA es s w).2<=w.length/\decide ((folA es s w).2=w.length)=(runA es s w).isSome
 |[],s=>⟨Nat.le_refl _,rfl⟩
 | x :: w, s => by
  unfold folA runA
  cases hs:stepA es s x with
  |none=>exact⟨Nat.zero_le _,rfl⟩
  |some n=>
   obtain⟨h1,h2⟩:=@QkQ es w n
   refine⟨by simp;omega,?_⟩
   simp only[List.length_cons]
   rw[<-h2]
   exact decide_eq_decide.2 (by omega)
theorem follow194 (a:Aut) (w:List Nat) (h:WfB a) (hp:0<a.n) (hw:w.length<=100000):PSpec Tryz.prog 194 [aV a,.int .i64 0,sliN w] (.tup [.int .i64 ((folA a.es 0 w).1:Int),.int .i64 ((folA a.es 0 w).2:Int)]):=by
  have hn:=h.nb
  refine PSpec.Qan 64 TU.ok194 rfl (by(try simp only[noRefs,Qac,Qal,Qaf,noRef,noRefs,Bool.and_self,Bool.and_true])<;>rfl) rfl ?_
  simp(disch:=first|omega|exact PairsOK.mk rfl|(simp only[lenW]<;>omega)) only[TU.s194,Qaa,Qad,Qae,wW,wV,simprocAttr]
  refine QaH 100 (fun s:Nat×Nat=>[(1,.int .i64 s.2),(2,sliN w),(3,.ptr 60 0 0),(11,sliN w),(12,.int .i64 w.length),(13,.int .i64 s.1)])
    (fun _=>[(60,.cells 0 [sliN a.al,.int .i64 (a.n:Int),sliN a.ms,egsN a.es])])
    (fun s=>s.1<=w.length/\s.2<a.n/\folA a.es 0 w=((folA a.es s.2 (w.drop s.1)).1,(folA a.es s.2 (w.drop s.1)).2+s.1)) (fun s=>w.length-s.1) (0,0) ?_ ⟨Nat.zero_le _,hp,rfl⟩ ?_
  · exact⟨[(60,.blk 64 0)],rfl,au0,au23,au21⟩
  rintro⟨i,s⟩ ⟨hi,hs,hf⟩
  simp only at hi hs hf
  by_cases hlt:i<w.length
  · obtain ⟨x, hx⟩ := Qai hlt
    have hdr:=QpZ hx
    rw[Nat.mul_one]at hdr
    have hN:=next226 a s x h hs
    unfold nxI at hN
    rw[List.drop_eq_getElem_cons hlt,(List.getElem?_eq_some_iff.1 hx).2]at hf
    simp(disch:=first|omega|exact PairsOK.mk rfl|(simp only[lenW]<;>omega)) only[hlt,hdr,Qaa,Qad,Qae,wW,wV,simprocAttr]
    refine cp hN ?_
    cases hst:stepA a.es s x with
    | none =>
      simp only[folA,hst]at hf
      rw[hf]
      simp(disch:=first|omega|exact PairsOK.mk rfl|(simp only[lenW]<;>omega)) only[Qaa,Qad,Qae,wW,wV,simprocAttr]
      exact⟨.inr trivial,_,rfl,by(try simp only[Nat.zero_add]);rfl⟩
    | some n =>
      simp only[folA,hst]at hf
      have hnl:=QdL h.esn hst
      have g1:¬(n:Int)<0:=by omega
      simp(disch:=first|omega|exact PairsOK.mk rfl|(simp only[lenW]<;>omega)) only[g1,Qaa,Qad,Qae,wW,wV,simprocAttr]
      exact⟨(i+1,n),by simp;omega,⟨by simp;omega,hnl,by rw[hf];simp;omega⟩,⟨[(60,.blk 60 0)],rfl,au0,au23,au21⟩⟩
  · have e : i = w.length := by omega
    subst e
    rw[List.drop_length]at hf
    simp only[folA]at hf
    simp(disch:=first|omega|exact PairsOK.mk rfl|(simp only[lenW]<;>omega)) only[hlt,Qaa,Qad,Qae,wW,wV,simprocAttr]
    rw[hf]
    exact⟨.inr trivial,_,rfl,by(try simp only[Nat.zero_add]);rfl⟩
theorem reached113 (a:Aut) (w:List Nat) (h:WfB a) (hp:0<a.n) (hw:w.length<=100000):PSpec Tryz.prog 113 [aV a,sliN w] (.tup [.int .i64 ((folA a.es 0 w).1:Int),.bool (gen a w)]):=by
 have hn:=h.nb
 refine PSpec.Qan 64 TU.ok113 rfl (by(try simp only[noRefs,Qac,Qal,Qaf,noRef,noRefs,Bool.and_self,Bool.and_true])<;>rfl) rfl ?_
 have hF:=follow194 a w h hp hw
 obtain⟨h1,h2⟩:=@QkQ a.es w 0
 have hd:decide ((folA a.es 0 w).2=w.length)=gen a w:=h2
 have g0:¬(a.n:Int)=0:=by omega
 simp(disch:=first|omega|exact PairsOK.mk rfl|(simp only[lenW]<;>omega)) only[TU.s113,g0,Qaa,Qad,Qae,wW,wV,simprocAttr]
 refine cp hF ?_
 simp(disch:=first|omega|exact PairsOK.mk rfl|(simp only[lenW]<;>omega)) only[hd,Qaa,Qad,Qae,wW,wV,simprocAttr]
 exact⟨.inr trivial,_,rfl,rfl⟩
theorem generates39 (a:Aut) (w:List Nat) (h:WfB a) (hp:0<a.n) (hw:w.length<=100000):PSpec Tryz.prog 39 [aV a,sliN w] (.tup [.bool (gen a w),.int .i64 0]):=by
 refine PSpec.Qan 64 TU.ok39 rfl (by(try simp only[noRefs,Qac,Qal,Qaf,noRef,noRefs,Bool.and_self,Bool.and_true])<;>rfl) rfl ?_
 have hc:=check112B a h
 have hR:=reached113 a w h hp hw
 simp(disch:=first|omega|exact PairsOK.mk rfl|(simp only[lenW]<;>omega)) only[TU.s39,Qaa,Qad,Qae,wW,wV,simprocAttr]
 refine cp hc ?_
 simp(disch:=first|omega|exact PairsOK.mk rfl|(simp only[lenW]<;>omega)) only[Qaa,Qad,Qae,wW,wV,simprocAttr]
 refine cp hR ?_
 simp(disch:=first|omega|exact PairsOK.mk rfl|(simp only[lenW]<;>omega)) only[Qaa,Qad,Qae,wW,wV,simprocAttr]
 exact⟨.inr trivial,_,rfl,rfl⟩
end Go.AM.SO
namespace Go.AM.SO
open Go.Proofs Go.AM.SD Go.AM.SE
theorem not42 (q:List UInt8×Aut) (x:Nat) (hA:q.2.al.length<=1000000):PSpec Tryz.prog 42 [.int .i64 (x:Int),.fptr [.str q.1,sliN q.2.al,.int .i64 (q.2.n:Int),sliN q.2.ms,egsN q.2.es]] (.bool (!decide (x∈q.2.al))):=by
 refine PSpec.Qan 64 TU.ok42 rfl (by(try simp only[noRefs,Qac,Qaf,noRef,noRefs,Qab,Bool.and_self,Bool.and_true])<;>rfl) rfl ?_
 have h:=contains62 (nz q.2.al) x (by simp;omega)
 have e:decide ((x:Int)∈nz q.2.al)=decide (x∈q.2.al):=by
  refine decide_eq_decide.2 ⟨fun h=>?_,fun h=>List.mem_map.2 ⟨x,h,rfl⟩⟩
  obtain⟨a,h1,h2⟩:=List.mem_map.1 h
  have:a=x:=by omega
  exact this▸h1
 rw[e,QbQ]at h
 simp(disch:=first|omega|exact PairsOK.mk rfl|(simp only[lenW]<;>omega)) only[TU.s42,Bool.not_eq_true,wW,wV,simprocAttr]
 refine cp h ?_
 simp(disch:=first|omega|exact PairsOK.mk rfl|(simp only[lenW]<;>omega)) only[Bool.not_eq_true,wW,wV,simprocAttr]
 exact⟨.inr trivial,_,rfl,rfl⟩
theorem _root_.Go.AM.au25 {p:Prop} (h:p:=by repeat' (first|exact RB.nil|(refine RnL.same ?_;first|rfl|(simp only[noRef,noRefs,Qah,Bool.and_self,Bool.and_true,Bool.true_and,Qac,Qau,Qab,Qak,Qaf];done))|exact RnM.keyM rfl|exact RnL.nil|exact(True.intro:RnM _ _ _ [] [])|refine RnL.cons ?_ ?_|(refine Rn.same ?_;first|rfl|(simp only[noRef,noRefs,Qah,Bool.and_self,Bool.and_true,Bool.true_and,Qac,Qau,Qab,Qak,Qaf];done))|exact Rn.x1 rfl rfl|exact Rn.x2 rfl rfl|exact Rn.x3 rfl rfl|exact Rn.x4 rfl rfl|exact Rn.x5 rfl|exact Rn.x6 rfl|exact Rn.x7 rfl|refine RB.newnil rfl rfl ?_|refine RB.cells rfl rfl rfl ?_ ?_|refine RB.map rfl rfl rfl ?_ ?_|refine RB.cellsB rfl rfl ?_ ?_|refine RB.mapB rfl rfl ?_ ?_)):p:=h
theorem _root_.Go.AM.au26 {p:Prop} (h:p:=by repeat (first|exact RT.nil|(refine RT.cons ?_ ?_; · (first|exact Rn.any|exact Rn.x1 rfl rfl|exact Rn.x2 rfl rfl|exact Rn.x3 rfl rfl|exact Rn.x4 rfl rfl|exact Rn.x5 rfl|exact Rn.x6 rfl|exact Rn.x7 rfl|(refine Rn.slot ?_ ?_;(first|rfl|(rw[Int.natCast_add];rfl));(first|rfl|(simp only[noRef,noRefs,Qah,Bool.and_self,Bool.and_true,Bool.true_and,Qac,Qau,Qab,Qak,Qaf];done)))|(refine Rn.fn ?_ ?_<;>(repeat' (first|exact RnL.nil|refine RnL.cons ?_ ?_|exact Rn.same rfl|exact Rn.x6 rfl|exact Rn.x2 rfl rfl|exact Rn.x5 rfl|exact Rn.x1 rfl rfl))))))):p:=h
theorem index110Q (q : List UInt8 × Aut) (l : List Nat) (hA : q.2.al.length <= 1000000) (hl : l.length <= 1000000) : PSpec Tryz.prog 110 [sliN l, .fn 42 [] [.fptr [.str q.1, sliN q.2.al, .int .i64 (q.2.n : Int), sliN q.2.ms, egsN q.2.es]]] (.int .i64 (SU.fstN q.2.al l)) := by
  refine PSpec.Qan 64 SU.ok110 rfl (by(try simp only[noRefs,Qac,Qaf,noRef,noRefs,Qab,Bool.and_self,Bool.and_true])<;>rfl) rfl ?_
  simp(disch:=first|omega|exact PairsOK.mk rfl|(simp only[lenW]<;>omega)) only[SU.s110,Bool.not_eq_true,wW,wV,simprocAttr]
  refine QaH 100 (fun i:Nat=>[(0,sliN l),(1,.fn 42 [] [.fptr [.str q.1,sliN q.2.al,.int .i64 (q.2.n:Int),sliN q.2.ms,egsN q.2.es]]),(7,.int .i64 l.length),(8,.int .i64 i)]) (fun _=>[]) (fun i=>i<=l.length/\∀(j:Nat) y,j<i->l[j]?=some y->y∈q.2.al) (fun i=>l.length-i) 0 ⟨[],rfl,au0,au25,au26⟩ ⟨Nat.zero_le _,fun j y hj=>absurd hj (Nat.not_lt_zero _)⟩ ?_
  rintro i ⟨hi,hb⟩
  by_cases hlt:i<l.length
  · obtain ⟨x, hx⟩ := Qai hlt
    have hn:=not42 q x hA
    by_cases h0:x∈q.2.al
    · have e : (!decide (x ∈ q.2.al)) = false := by simp [h0]
      rw[e]at hn
      simp(disch:=first|omega|exact PairsOK.mk rfl|(simp only[lenW]<;>omega)) only[hlt,QaB hx,Bool.not_eq_true,wW,wV,simprocAttr]
      refine SU.cpc hn ?_
      simp(disch:=first|omega|exact PairsOK.mk rfl|(simp only[lenW]<;>omega)) only[Bool.not_eq_true,wW,wV,simprocAttr]
      refine⟨i+1,by omega,⟨by omega,fun j y hj hy=>?_⟩,⟨[],rfl,au0,au25,au26⟩⟩
      by_cases e:j=i
      · subst e;rw[hx]at hy;cases hy;exact h0
      · exact hb j y (by omega) hy
    · have e : (!decide (x ∈ q.2.al)) = true := by simp [h0]
      rw[e]at hn
      simp(disch:=first|omega|exact PairsOK.mk rfl|(simp only[lenW]<;>omega)) only[hlt,QaB hx,Bool.not_eq_true,wW,wV,simprocAttr]
      refine SU.cpc hn ?_
      simp(disch:=first|omega|exact PairsOK.mk rfl|(simp only[lenW]<;>omega)) only[Bool.not_eq_true,wW,wV,simprocAttr]
      refine⟨.inr trivial,_,rfl,?_⟩
      have h1:¬l.all (fun x=>decide (x∈q.2.al))=true:=by
        intro h;exact h0 (by simpa using List.all_eq_true.1 h x (List.mem_of_getElem? hx))
      have h2:l.findIdx (fun x=> !decide (x∈q.2.al))=i:=by
        rw[List.findIdx_eq hlt]
        refine⟨by rw[List.getElem?_eq_getElem hlt]at hx;cases hx;simp[h0],fun j hj=>?_⟩
        have:=hb j l[j] hj (List.getElem?_eq_getElem (by omega))
        simpa using this
      unfold SU.fstN
      rw[if_neg h1,h2];rfl
  · have h1 : l.all (fun x => decide (x ∈ q.2.al)) = true := by
      rw[List.all_eq_true]
      intro x hx
      obtain⟨j,hj,hjl⟩:=List.getElem_of_mem hx
      simpa using hb j x (by omega) (by rw[List.getElem?_eq_getElem hj,hjl])
    simp(disch:=first|omega|exact PairsOK.mk rfl|(simp only[lenW]<;>omega)) only[hlt,Bool.not_eq_true,wW,wV,simprocAttr]
    refine⟨.inr trivial,_,rfl,?_⟩
    unfold SU.fstN
    rw[if_pos h1];rfl
theorem del40Q (q : List UInt8 × Aut) (l : List Nat) (hA : q.2.al.length <= 1000000) (hl : l.length <= 1000000) :
    HSpec Tryz.prog 40 [.sl 83 0 0 l.length 1,.fn 42 [] [.ptr 63 0 0]] (hp [(63,.cells 0 [.str q.1,sliN q.2.al,.int .i64 (q.2.n:Int),sliN q.2.ms,egsN q.2.es]),(83,.cells 0 (ints (nz l)))]) (.sl 83 0 0 (SU.fltN q.2.al l).length 1) (hp [(63,.cells 0 [.str q.1,sliN q.2.al,.int .i64 (q.2.n:Int),sliN q.2.ms,egsN q.2.es]),(83,.cells 0 (ints (nz (SU.delL q.2.al l))))]):=by
  refine HSpec.QhK (m:=99) 100 SU.ok40 rfl rfl ?_
  have hn:(ints (nz l)).length=l.length*1:=by simp[ints]
  simp(disch:=first|omega|exact PairsOK.mk rfl|(simp only[lenW]<;>omega)) only[SU.s40,Bool.not_eq_true,wW,wV,simprocAttr]
  refine SU.chc (HSpec.lend (FrzL.cons (FrzTo.all gg hn) (FrzL.cons (FrzTo.fn FrzL.nil (FrzL.cons (FrzTo.ptr (g:=0) (cs:=[.str q.1,sliN q.2.al,.int .i64 (q.2.n:Int),sliN q.2.ms,egsN q.2.es]) gg (FrzL.same _)) FrzL.nil)) FrzL.nil)) (index110Q q l hA hl) rfl) ?_
  by_cases hall:l.all (fun x=>decide (x∈q.2.al))=true
  · have e1 : SU.fstN q.2.al l = -1 := if_pos hall
    simp(disch:=first|omega|exact PairsOK.mk rfl|(simp only[lenW]<;>omega)) only[e1,Bool.not_eq_true,wW,wV,simprocAttr]
    refine⟨.inr trivial,_,rfl,?_⟩
    unfold SU.delL;rw[SU.Ql3 hall,Nat.sub_self,List.replicate_zero,List.append_nil]
    exact⟨[(63,.nil),(83,.nil)],rfl,au0,au25,au26⟩
  have e1:SU.fstN q.2.al l=(l.findIdx (fun x=> !decide (x∈q.2.al)):Int):=if_neg hall
  have hex:∃x∈l,(!decide (x∈q.2.al))=true:=by
    have:¬∀x∈l,decide (x∈q.2.al)=true:=fun h=>hall (List.all_eq_true.2 h)
    obtain⟨x,hx⟩:=Classical.not_forall.1 this
    obtain⟨hx,hy⟩:=Classical.not_imp.1 hx
    exact⟨x,hx,by simpa using hy⟩
  have hi0:l.findIdx (fun x=> !decide (x∈q.2.al))<l.length:=List.findIdx_lt_length_of_exists hex
  obtain⟨i0,hI⟩:∃i0,i0=l.findIdx (fun x=> !decide (x∈q.2.al)):=⟨_,rfl⟩
  rw[<-hI]at e1 hi0
  have hv0:l[i0]∉q.2.al:=by
    have:=List.findIdx_getElem (w:=by rw[<-hI];exact hi0) (xs:=l) (p:=fun x=> !decide (x∈q.2.al))
    simp only[<-hI]at this
    simpa using this
  have hlow:SU.fltN q.2.al (l.take i0)=l.take i0:=by
    unfold SU.fltN
    refine List.filter_eq_self.2 fun x hx=>?_
    obtain⟨j,hj,rfl⟩:=List.getElem_of_mem hx
    rw[List.length_take]at hj
    have:=List.not_of_lt_findIdx (xs:=l) (p:=fun x=> !decide (x∈q.2.al)) (i:=j) (by rw[<-hI];omega)
    rw[List.getElem_take]
    simpa using this
  have hst:SU.fltN q.2.al (l.take (i0+1))=l.take i0:=by
    rw[SU.QeJ (List.getElem?_eq_getElem hi0),if_neg hv0,hlow]
  have hne:¬(i0:Int)= -1:=by omega
  simp(disch:=first|omega|exact PairsOK.mk rfl|(simp only[lenW]<;>omega)) only[e1,hne,Bool.not_eq_true,wW,wV,simprocAttr]
  refine QaH 110 (fun t:Nat×Nat×List Nat=>[(0,.sl 83 0 0 l.length 1),(1,.fn 42 [] [.ptr 63 0 0]),(5,.int .i64 t.2.1),(6,.int .i64 t.1)])
    (fun t=>[(63,.cells 0 [.str q.1,sliN q.2.al,.int .i64 (q.2.n:Int),sliN q.2.ms,egsN q.2.es]),(83,.cells 0 (ints (nz t.2.2)))]) (fun t=>t.1<=l.length/\t.2.1<t.1/\t.2.2.length=l.length/\t.2.2.take t.2.1=SU.fltN q.2.al (l.take t.1)/\t.2.2.drop t.1=l.drop t.1) (fun t=>l.length-t.1)
    (i0+1,i0,l) ⟨[(63,.nil),(83,.nil)],rfl,au0,au25,au26⟩ ⟨by dsimp only;omega,by dsimp only;omega,rfl,hst.symm,rfl⟩ ?_
  rintro⟨j,i,C⟩ ⟨hj,hij,hC,hT,hD⟩
  dsimp only at hj hij hC hT hD⊢
  by_cases hlt:j<l.length
  · obtain ⟨v, hv⟩ := Qai hlt
    have hvC:C[j]?=some v:=by
      have:(C.drop j)[0]?=(l.drop j)[0]?:=by rw[hD]
      simpa[hv]using this
    have hs:=SU.QeJ (A:=q.2.al) hv
    have hn2:=not42 q v hA
    by_cases hm:v∈q.2.al
    · have e2 : (!decide (v ∈ q.2.al)) = false := by simp [hm]
      rw[e2]at hn2
      rw[if_pos hm]at hs
      simp(disch:=first|omega|exact PairsOK.mk rfl|(simp only[lenW]<;>omega)) only[hlt,hC,SU.QfE hvC,Bool.not_eq_true,wW,wV,simprocAttr]
      refine SU.chc (HSpec.lend (FrzL.cons (FrzTo.same _) (FrzL.cons (FrzTo.ptr (g:=0) (cs:=[.str q.1,sliN q.2.al,.int .i64 (q.2.n:Int),sliN q.2.ms,egsN q.2.es]) gg (FrzL.same _)) FrzL.nil)) hn2 rfl) ?_
      have hil:i<l.length:=by omega
      have hset:(ints (nz C)).set i (.int .i64 (v:Int))=ints (nz (C.set i v)):=by simp[ints,nz,List.map_set]
      have hil1:i+1<=(ints (nz C)).length:=by simp[ints,hC];omega
      have hil2:i+1<=l.length:=by omega
      simp(disch:=first|omega|exact PairsOK.mk rfl|(simp only[lenW]<;>omega)) only[hil,hC,hset,hil1,hil2,Bool.not_eq_true,wW,wV,simprocAttr]
      refine⟨(j+1,i+1,C.set i v),by dsimp only;omega,⟨by dsimp only;omega,by dsimp only;omega,by simp[hC],?_,?_⟩,?_⟩
      · dsimp only
        rw[hs,<-hT,List.take_add_one,List.getElem?_set_self (by omega),List.take_set,List.set_eq_of_length_le (by rw[List.length_take];omega)];rfl
      · dsimp only
        rw[List.drop_set_of_lt (by omega)]
        have:=congrArg (List.drop 1) hD
        simpa[List.drop_drop]using this
      · exact⟨[(63,.nil),(83,.nil)],rfl,au0,au25,au26⟩
    · have e2 : (!decide (v ∈ q.2.al)) = true := by simp [hm]
      rw[e2]at hn2
      rw[if_neg hm]at hs
      simp(disch:=first|omega|exact PairsOK.mk rfl|(simp only[lenW]<;>omega)) only[hlt,hC,SU.QfE hvC,Bool.not_eq_true,wW,wV,simprocAttr]
      refine SU.chc (HSpec.lend (FrzL.cons (FrzTo.same _) (FrzL.cons (FrzTo.ptr (g:=0) (cs:=[.str q.1,sliN q.2.al,.int .i64 (q.2.n:Int),sliN q.2.ms,egsN q.2.es]) gg (FrzL.same _)) FrzL.nil)) hn2 rfl) ?_
      simp(disch:=first|omega|exact PairsOK.mk rfl|(simp only[lenW]<;>omega)) only[Bool.not_eq_true,wW,wV,simprocAttr]
      refine⟨(j+1,i,C),by dsimp only;omega,⟨by dsimp only;omega,by dsimp only;omega,hC,by rw[hs];exact hT,?_⟩,?_⟩
      · dsimp only
        have:=congrArg (List.drop 1) hD
        simpa[List.drop_drop]using this
      · exact⟨[(63,.nil),(83,.nil)],rfl,au0,au25,au26⟩
  · have ej : j = l.length := by omega
    subst ej
    rw[List.take_length]at hT
    have hil:(i:Int)<=(l.length:Int):=by omega
    simp(disch:=first|omega|exact PairsOK.mk rfl|(simp only[lenW]<;>omega)) only[hlt,hil,Bool.not_eq_true,wW,wV,simprocAttr]
    refine SU.QgK gg (by omega) (by simp[ints,hC];omega) rfl rfl (by decide) ?_
    simp(disch:=first|omega|exact PairsOK.mk rfl|(simp only[lenW]<;>omega)) only[hil,Bool.not_eq_true,wW,wV,simprocAttr]
    refine⟨.inr trivial,_,rfl,?_⟩
    have hfl:(SU.fltN q.2.al l).length=i:=by rw[<-hT,List.length_take];omega
    have hput:putR (ints (nz C)) i (List.replicate (l.length-i) [AV.int .i64 0]).flatten=ints (nz (SU.delL q.2.al l)):=by
      rw[SU.Qdj (by simp[ints,hC];omega),SU.Qkz,SU.QiS,hT]
      unfold SU.delL
      rw[hfl,QaF,QaA,List.drop_of_length_le (by simp[ints,hC];omega),List.append_nil]
    rw[hfl,hput]
    exact⟨[(63,.nil),(83,.nil)],rfl,au0,au25,au26⟩
theorem del40QF {q:List UInt8×Aut} {l:List Nat} {h:Heap} (hA:q.2.al.length<=1000000) (hl:l.length<=1000000) (h63:h.get 63=some (.cells 0 [.str q.1,sliN q.2.al,.int .i64 (q.2.n:Int),sliN q.2.ms,egsN q.2.es])) (h83:h.get 83=some (.cells 0 (ints (nz l)))):
  HSpec Tryz.prog 40 [.sl 83 0 0 l.length 1,.fn 42 [] [.ptr 63 0 0]] h (sliN (SU.fltN q.2.al l)) ((h.set 83 (.cells 0 (ints (nz (SU.delL q.2.al l))))).set 83 (.dead 0)):=by
 have h1:=HSpec.frameB (del40Q q l hA hl) (OnlyD.cons (OnlyD.sl (.inr rfl)) (OnlyD.cons (OnlyD.fn OnlyD.nil (OnlyD.cons (OnlyD.ptr (.inl rfl)) OnlyD.nil)) OnlyD.nil)) (OnlyD.sl (.inr rfl))
  (by(try simp only[noRefs,Qac,Qaf,noRef,noRefs,Qab,Bool.and_self,Bool.and_true])<;>rfl) (Qac _) (Qac _) h63 h83 (by decide) rfl rfl
 have hle:(SU.fltN q.2.al l).length*1<=(ints (nz (SU.delL q.2.al l))).length:=by simp[ints,SU.delL]
 have h2:=HSpec.freeze (ds:=ints (nz (SU.delL q.2.al l))) h1 (by rw[QaG (by decide)]) (QiK _) hle rfl
 have e:(ints (nz (SU.delL q.2.al l))).take ((SU.fltN q.2.al l).length*1)=ints (nz (SU.fltN q.2.al l)):=by
  rw[Nat.mul_one]
  unfold SU.delL
  rw[QaF,QaA,List.take_append_of_le_length (by simp[ints]),List.take_of_length_le (by simp[ints])]
 rw[e]at h2
 exact h2
end Go.AM.SO
namespace Go.AM.SO
open Go.Proofs Go.AM.SD Go.AM.SE
theorem _root_.Go.AM.au27 {p:Prop} (h:p:=by repeat (first|exact RT.nil|(refine RT.cons ?_ ?_; · (first|exact Rn.any|exact Rn.x1 rfl rfl|exact Rn.x2 rfl rfl|exact Rn.x3 rfl rfl|exact Rn.x4 rfl rfl|exact Rn.x5 rfl|exact Rn.x6 rfl|exact Rn.x7 rfl|(refine Rn.slot ?_ ?_;(first|rfl|(rw[Int.natCast_add];rfl));(first|rfl|(simp only[noRef,noRefs,Qah,Bool.and_self,Bool.and_true,Bool.true_and,Qaz,SU.Qbb,Qac,Qau,Qab,Qak,QaQ,Qaf,Qov];done)))|(refine Rn.fn ?_ ?_<;>(repeat' (first|exact RnL.nil|refine RnL.cons ?_ ?_|exact Rn.same rfl|exact Rn.x6 rfl|exact Rn.x2 rfl rfl|exact Rn.x5 rfl|exact Rn.x1 rfl rfl))))))):p:=h
theorem law7 (p : Pln) (h : POk p) (hxn : p.xn <= 9223372036854775807) (w : List Nat) (hwb : ∀ x ∈ w, x < 256) (hwl : w.length <= 9223372036854775807) :
    W2 Tryz.prog ⟨TU.s7.n,0⟩ TU.s7.body (fun e B=>(e= .normal\/e= .ret)/\resV B.T B.h TU.s7.res=some [.bool true]) ⟨argT 0 [plnV p,.fsl (u8s w) w.length 1],.e⟩:=by
  refine(wpC.toW (n:=40) (Q:=fun e T h _=>(e= .normal\/e= .ret)/\resV T h TU.s7.res=some [.bool true]) (show wS Tryz.prog ⟨TU.s7.n,0⟩ TU.s7.body [] 40 _ _ _ from ?_)).mono fun e B ⟨_,h⟩=>h
  have hlen:=SU.QhQ h
  have hone:=SU.QhR h
  have hnr:=@SU.Qdf p
  have hS:=short25 p h hxn
  have hM:=SU.Make26 p h
  have hw:=@QqD p
  have hnc:=Qcg (mkC p)
  have htk:(plnC p).take 152=plnC p:=by rw[<-hlen,List.take_length]
  have hnw:=Qaz w
  show wS _ _ _ _ _ (argT 0 [.agg (plnC p),.fsl (u8s w) w.length 1]) _ _
  have hS':PSpec Tryz.prog 25 [.agg (plnC p)] (.bool (decide (p.xn<=4))):=hS
  have hM':PSpec Tryz.prog 26 [.agg (plnC p)] (celV (mkC p)):=hM
  clear hS hM
  generalize plnC p=C at*
  generalize mkC p=c at*
  by_cases h4:p.xn<=4
  · have e4 : decide (p.xn <= 4) = true := by simp [h4]
    rw[e4]at hS'
    by_cases h6:w.length<=6
    · have g6 : ¬ (6 : Int) < (w.length : Int) := by omega
      have h0:=hw.c0
      have h3:=hw.c3
      have h2:=hw.r2
      have hO:=specify18 c hw
      have hP:=plant17 c hw
      have hB:=QdU (Qce hw) (by rw[Qb6];omega)
      have hA:=QdU (Qa2 hw) (by rw[QaU];omega)
      rw[spC]at hO
      have hL:∀W:List Nat,(∀x∈W,x∈(syncA (auL c.cs)).al)->gen (syncA (allA c)) W=(gen (syncA (auL c.cs)) W&&(auL c.rs).all fun b=>gen b (W.filter fun x=>b.al.contains x)):=fun W hW=>Qpn (Qce hw) hW fun x hx=>(Qem (Qce hw)).2 (let ⟨a,ha,hxa⟩:=(Qem (Qa2 hw)).1 hx;⟨a,List.mem_append_left _ ha,hxa⟩)
      have hpos:∀l:List Aut,0<(syncA l).n:=fun l=>by
        obtain⟨r,hr⟩:=@sync_pre l
        show 0<(sync0 l).1.length
        rw[<-hr];simp
      have hnA:noRefs [sliN (syncA (auL c.cs)).al,.int .i64 ((syncA (auL c.cs)).n:Int),sliN (syncA (auL c.cs)).ms,egsN (syncA (auL c.cs)).es]=true:=by
        simp only[noRefs,Qab,Qak,Bool.true_and,Bool.and_true];rfl
      have hnS:=Qhy c (syncA (allA c)) (sync0 (auL c.cs)).1 (sync0 (allA c)).1
      have hqp:=hpos (allA c)
      have hAp:=hpos (auL c.cs)
      clear hpos
      have hnT:=Qbu (sync0 (allA c)).1
      have hnP:=Qbu (sync0 (auL c.cs)).1
      have hsa:(spA c (sync0 (allA c)).1).length=(sync0 (allA c)).1.length:=by simp[spA]
      have hsb:(spB c (sync0 (allA c)).1).length=(sync0 (allA c)).1.length:=by simp[spB]
      have hsp:(spP c (sync0 (auL c.cs)).1 (sync0 (allA c)).1).length=(sync0 (allA c)).1.length:=by simp[spP]
      generalize syncA (auL c.cs)=A at*
      generalize syncA (allA c)=q at*
      generalize (sync0 (auL c.cs)).1=P at*
      generalize (sync0 (allA c)).1=T at*
      simp(disch:=first|omega|exact PairsOK.mk rfl|(simp only[lenW]<;>omega)) only[TU.s7,hlen,hone,htk,g6,Qaa,Qad,Qae,wW,wV,simprocAttr]
      refine cp SK.known15 ?_
      simp(disch:=first|omega|exact PairsOK.mk rfl|(simp only[lenW]<;>omega)) only[hlen,htk,g6,Qaa,Qad,Qae,wW,wV,simprocAttr]
      refine cp hS' ?_
      simp(disch:=first|omega|exact PairsOK.mk rfl|(simp only[lenW]<;>omega)) only[hlen,htk,g6,Qaa,Qad,Qae,wW,wV,simprocAttr]
      refine cp hM' ?_
      simp(disch:=first|omega|exact PairsOK.mk rfl|(simp only[lenW]<;>omega)) only[Qaa,Qad,Qae,wW,wV,simprocAttr]
      refine cp hO ?_
      simp(disch:=first|omega|exact PairsOK.mk rfl|(simp only[lenW]<;>omega)) only[hsa,hsb,hsp,Qaa,Qad,Qae,wW,wV,simprocAttr]
      refine cp hP ?_
      simp(disch:=first|omega|exact PairsOK.mk rfl|(simp only[lenW]<;>omega)) only[hsa,hsb,hsp,Qaa,Qad,Qae,wW,wV,simprocAttr]
      by_cases hz:A.al.length=0
      · rw [if_pos (by omega)]
        exact⟨.inr trivial,rfl⟩
      rw[if_neg (by omega)]
      have hW:∀x,A.al.getD (x % A.al.length) 0∈A.al:=fun x=>by
        have hlt:x % A.al.length<A.al.length:=Nat.mod_lt _ (by omega)
        rw[List.getD_eq_getElem?_getD,List.getElem?_eq_getElem hlt]
        exact List.getElem_mem hlt
      obtain⟨f,hf⟩:∃f:Nat->Nat,f=fun x=>A.al.getD (x % A.al.length) 0:=⟨_,rfl⟩
      have hg:∀x,A.al[x % A.al.length]?=some (f x):=fun x=>by
        rw[hf]
        show _=some (A.al.getD (x % A.al.length) 0)
        rw[List.getD_eq_getElem?_getD,List.getElem?_eq_getElem (Nat.mod_lt _ (by omega))];rfl
      refine Qap 200 (fun i:Nat=>[(5,.ptr 51 0 0),(6,.ptr 52 0 0),(8,.ptr 53 0 0),(11,.sl 60 0 0 i 1),(67,.fsl (u8s w) w.length 1),(68,.int .i64 w.length),(69,.int .i64 i)])
        (fun i=>[(51,.cells 0 [evsV c.ev,its 99 c.cs,its 114 c.rs,exs c.xs,cos c.ks]),(52,.cells 0 [sliN q.al,.int .i64 (q.n:Int),sliN q.ms,egsN q.es,tuV (spA c T),tuV (spB c T),sliN (spP c P T),rss (forb c T.length)]),(53,.cells 0 [sliN A.al,.int .i64 (A.n:Int),sliN A.ms,egsN A.es]),(60,.cells 0 (ints (nz ((w.take i).map f))))])
        (fun i=>i<=w.length) (fun i=>w.length-i) 0 0 220
        (fun _:Unit=>[(5,.ptr 51 0 0),(6,.ptr 52 0 0),(8,.ptr 53 0 0),(11,sliN (w.map f))])
        (fun _=>[(51,.cells 0 [evsV c.ev,its 99 c.cs,its 114 c.rs,exs c.xs,cos c.ks]),(52,.cells 0 [sliN q.al,.int .i64 (q.n:Int),sliN q.ms,egsN q.es,tuV (spA c T),tuV (spB c T),sliN (spP c P T),rss (forb c T.length)]),(53,.cells 0 [sliN A.al,.int .i64 (A.n:Int),sliN A.ms,egsN A.es])]) (fun _=>True) ?_ (Nat.zero_le _) ?_ ?_
      · refine ⟨[(51, .blk 56 0), (52, .blk 63 0), (53, .blk 72 0), (60, .nil)], rfl, au0, ?_, au27⟩
        exact RB.cells rfl rfl gg (RnL.same hnc) (RB.cells rfl rfl gg (RnL.same hnS) (RB.cells rfl rfl gg (RnL.same hnA) (RB.newnil rfl rfl RB.nil)))
      · rintro i hi
        by_cases hlt:i<w.length
        · obtain ⟨x, hx⟩ := Qai hlt
          have hx2:=hwb x (List.mem_of_getElem? hx)
          have hrem:aBin .rem (.int .i64 (x:Int)) (.int .i64 (A.al.length:Int))=some (.int .i64 ((x % A.al.length:Nat):Int)):=QnP (by omega)
          have hml:x % A.al.length<A.al.length:=Nat.mod_lt _ (by omega)
          have htl:(ints (nz ((w.take i).map f))).length=i:=by simp[ints];omega
          have hgu:((u8s w).drop i).head?=some (.int .u8 (x:Int)):=by rw[List.head?_drop];exact Qfp hx
          simp(disch:=first|omega|exact PairsOK.mk rfl|(simp only[lenW]<;>omega)) only[hlt,hgu,hrem,hml,QaB (hg x),htl,Qaa,Qad,Qae,wW,wV,simprocAttr]
          refine⟨i+1,by omega,by omega,?_⟩
          rw[take_succ' hx,List.map_append,QaF,QaA]
          refine⟨[(51,.blk 51 0),(52,.blk 52 0),(53,.blk 53 0),(60,.blk 60 1)],rfl,au0,?_,au27⟩
          exact RB.cells rfl rfl gg (RnL.same hnc) (RB.cells rfl rfl gg (RnL.same hnS) (RB.cells rfl rfl gg (RnL.same hnA) (RB.cells rfl rfl gg (RnL.same (SU.Qao (Qac _) rfl)) RB.nil)))
        · have e : i = w.length := by omega
          subst e
          simp(disch:=first|omega|exact PairsOK.mk rfl|(simp only[lenW]<;>omega)) only[hlt,List.take_length,Qaa,Qad,Qae,wW,wV,simprocAttr]
          refine⟨(),[(51,.blk 51 0),(52,.blk 52 0),(53,.blk 53 0)],rfl,RO.zero,?_,RT.cons (Rn.x2 rfl rfl) (RT.cons (Rn.x2 rfl rfl) (RT.cons (Rn.x2 rfl rfl) (RT.cons (Rn.fzm (b:=60) (g:=0) gg rfl rfl (by simp) (by simp[ints]) (RnL.same (Qac _))) RT.nil)))⟩
          exact RB.cells rfl rfl gg (RnL.same hnc) (RB.cells rfl rfl gg (RnL.same hnS) (RB.cells rfl rfl gg (RnL.same hnA) RB.nil))
      rintro _ _
      have hGA:=generates39 A (w.map f) hA hAp (by simp;omega)
      simp(disch:=first|omega|exact PairsOK.mk rfl|(simp only[lenW]<;>omega)) only[Qaa,Qad,Qae,wW,wV,simprocAttr]
      refine cp hGA ?_
      simp(disch:=first|omega|exact PairsOK.mk rfl|(simp only[lenW]<;>omega)) only[Qaa,Qad,Qae,wW,wV,simprocAttr]
      refine Qap 60 (fun i:Nat=>[(6,.ptr 52 0 0),(11,sliN (w.map f)),(14,.bool (gen A (w.map f)&&(c.rs.take i).all fun b=>gen b.2 ((w.map f).filter fun x=>b.2.al.contains x))),(96,its 114 c.rs),(97,.int .i64 c.rs.length),(98,.int .i64 i)])
        (fun i=>[(52,.cells 0 [sliN q.al,.int .i64 (q.n:Int),sliN q.ms,egsN q.es,tuV (spA c T),tuV (spB c T),sliN (spP c P T),rss (forb c T.length)])])
        (fun i=>i<=c.rs.length) (fun i=>c.rs.length-i) 0 2 120
        (fun _:Unit=>[(6,.ptr 52 0 0),(11,sliN (w.map f)),(14,.bool (gen A (w.map f)&&c.rs.all fun b=>gen b.2 ((w.map f).filter fun x=>b.2.al.contains x)))])
        (fun _=>[(52,.cells 0 [sliN q.al,.int .i64 (q.n:Int),sliN q.ms,egsN q.es,tuV (spA c T),tuV (spB c T),sliN (spP c P T),rss (forb c T.length)])]) (fun _=>True) ?_ (Nat.zero_le _) ?_ ?_
      · rw [List.take_zero, List.all_nil, Bool.and_true]
        refine⟨[(52,.blk 52 0)],rfl,au0,?_,au27⟩
        exact RB.cells rfl rfl gg (RnL.same hnS) RB.nil
      · rintro i hi
        by_cases hlt:i<c.rs.length
        · obtain ⟨x, hx⟩ := Qai hlt
          have hcl:=clone56 (w.map f) (by simp;omega)
          have hflt:∀l:List Nat,SU.fltN x.2.al l=l.filter fun y=>x.2.al.contains y:=fun l=>by unfold SU.fltN;congr 1;funext y;simp
          have hxI:WfI x.2:=Qce hw x.2 (List.mem_append_right _ (List.mem_map.2 ⟨x,List.mem_of_getElem? hx,rfl⟩))
          have hxl:=Qbs hxI.wf.al hxI.wf.al5
          have hGx:=generates39 x.2 ((w.map f).filter fun y=>x.2.al.contains y) hxI.b hxI.pos (Nat.le_trans (List.length_filter_le ..) (by rw[List.length_map];omega))
          simp(disch:=first|omega|exact PairsOK.mk rfl|(simp only[lenW]<;>omega)) only[hlt,SU.Qcx hx,Qaa,Qad,Qae,wW,wV,simprocAttr]
          refine ch (HSpec.of_O (b:=83) (by(try simp only[noRefs,Qac,Qaf,noRef,noRefs,Bool.and_self,Bool.and_true])<;>rfl) hcl (by repeat (first|exact Fresh.e|exact Fresh.le (by assumption) (by omega)|refine Fresh.set ?_ (by omega) (by omega))) rfl) ?_
          simp(disch:=first|omega|exact PairsOK.mk rfl|(simp only[lenW]<;>omega)) only[Qaa,Qad,Qae,wW,wV,simprocAttr]
          have hD:=fun h h1 h2=>@del40QF ([114,UInt8.ofNat (48+x.1)],x.2) (w.map f) h (by dsimp only;omega) (by rw[List.length_map];omega) h1 h2
          simp only[List.length_map]at hD
          refine SU.chc (hD _ gg gg) ?_
          simp(disch:=first|omega|exact PairsOK.mk rfl|(simp only[lenW]<;>omega)) only[Qaa,Qad,Qae,wW,wV,simprocAttr]
          rw[hflt]
          refine cp hGx ?_
          have hsucc:(gen A (w.map f)&&(c.rs.take (i+1)).all fun b=>gen b.2 ((w.map f).filter fun x=>b.2.al.contains x))=((gen A (w.map f)&&(c.rs.take i).all fun b=>gen b.2 ((w.map f).filter fun x=>b.2.al.contains x))&&gen x.2 ((w.map f).filter fun y=>x.2.al.contains y)):=by rw[take_succ' hx,List.all_append,Bool.and_assoc];simp
          generalize gen x.2 ((w.map f).filter fun y=>x.2.al.contains y)=b2 at*
          generalize (gen A (w.map f)&&(c.rs.take i).all fun b=>gen b.2 ((w.map f).filter fun x=>b.2.al.contains x))=b1 at*
          cases b1<;>cases b2<;>(
            simp(disch:=first|omega|exact PairsOK.mk rfl|(simp only[lenW]<;>omega)) only[Qaa,Qad,Qae,wW,wV,simprocAttr]
            refine⟨i+1,by omega,by omega,?_⟩
            rw[hsucc]
            refine⟨[(52,.blk 52 0)],rfl,au0,?_,au27⟩
            exact RB.cells rfl rfl gg (RnL.same hnS) RB.nil)
        · have e : i = c.rs.length := by omega
          subst e
          simp(disch:=first|omega|exact PairsOK.mk rfl|(simp only[lenW]<;>omega)) only[hlt,List.take_length,Qaa,Qad,Qae,wW,wV,simprocAttr]
          refine⟨(),?_⟩
          refine⟨[(52,.blk 52 0)],rfl,au0,?_,au27⟩
          exact RB.cells rfl rfl gg (RnL.same hnS) RB.nil
      rintro _ _
      have hGq:=generates39 q (w.map f) hB hqp (by simp;omega)
      have hLW:=hL (w.map f) (fun y hy=>by
        obtain⟨x,_,rfl⟩:=List.mem_map.1 hy
        exact List.mem_of_getElem? (hg x))
      have hAll:((auL c.rs).all fun b=>gen b ((w.map f).filter fun x=>b.al.contains x))=c.rs.all fun b=>gen b.2 ((w.map f).filter fun x=>b.2.al.contains x):=by unfold auL;rw[List.all_map];rfl
      rw[hAll]at hLW
      rw[<-hLW]
      simp(disch:=first|omega|exact PairsOK.mk rfl|(simp only[lenW]<;>omega)) only[Qaa,Qad,Qae,wW,wV,simprocAttr]
      refine cp hGq ?_
      have hbb:∀b:Bool,aEq (.flat false [.b]) false (.bool b) (.bool b)=some (.bool true):=by intro b;cases b<;>rfl
      simp(disch:=first|omega|exact PairsOK.mk rfl|(simp only[lenW]<;>omega)) only[hbb,Qaa,Qad,Qae,wW,wV,simprocAttr]
      exact⟨.inr trivial,rfl⟩
    · have g6 : (6 : Int) < (w.length : Int) := by omega
      simp(disch:=first|omega|exact PairsOK.mk rfl|(simp only[lenW]<;>omega)) only[TU.s7,hlen,hone,htk,g6,Qaa,Qad,Qae,wW,wV,simprocAttr]
      refine cp SK.known15 ?_
      simp(disch:=first|omega|exact PairsOK.mk rfl|(simp only[lenW]<;>omega)) only[hlen,htk,g6,Qaa,Qad,Qae,wW,wV,simprocAttr]
      refine cp hS' ?_
      simp(disch:=first|omega|exact PairsOK.mk rfl|(simp only[lenW]<;>omega)) only[hlen,htk,g6,Qaa,Qad,Qae,wW,wV,simprocAttr]
      refine cp SK.known15 ?_
      simp(disch:=first|omega|exact PairsOK.mk rfl|(simp only[lenW]<;>omega)) only[Qaa,Qad,Qae,wW,wV,simprocAttr]
      exact⟨.inr trivial,rfl⟩
  · have e4 : decide (p.xn <= 4) = false := by simp [h4]
    rw[e4]at hS'
    simp(disch:=first|omega|exact PairsOK.mk rfl|(simp only[lenW]<;>omega)) only[TU.s7,hlen,hone,htk,Qaa,Qad,Qae,wW,wV,simprocAttr]
    refine cp SK.known15 ?_
    simp(disch:=first|omega|exact PairsOK.mk rfl|(simp only[lenW]<;>omega)) only[hlen,htk,Qaa,Qad,Qae,wW,wV,simprocAttr]
    refine cp hS' ?_
    simp(disch:=first|omega|exact PairsOK.mk rfl|(simp only[lenW]<;>omega)) only[hlen,htk,Qaa,Qad,Qae,wW,wV,simprocAttr]
    refine cp SK.known15 ?_
    simp(disch:=first|omega|exact PairsOK.mk rfl|(simp only[lenW]<;>omega)) only[Qaa,Qad,Qae,wW,wV,simprocAttr]
    exact⟨.inr trivial,rfl⟩
theorem law7_in (d0:tyPln.D) (d1:(Ty.sl (.int .u8)).D) (h0:tyPln.wf d0) (h1:(Ty.sl (.int .u8)).wf d1):
  W2 Tryz.prog ⟨TU.s7.n,0⟩ TU.s7.body (fun e B=>(e= .normal\/e= .ret)/\resV B.T B.h TU.s7.res=some [.bool true]) ⟨argT 0 [tyPln.val d0,(Ty.sl (.int .u8)).val d1],.e⟩:=by
 obtain⟨p,hp,hl,e0⟩:=Qra h0
 obtain⟨hw0,hw1⟩:=h1
 obtain⟨w,a,b,cc⟩:=QbH (.arr (List.length d1) (.int .u8)) rfl d1 ⟨rfl,hw1⟩
 have hlen:w.length=List.length d1:=by rw[a];exact Nat.mul_one _
 have e1:(Ty.sl (.int .u8)).val d1= .fsl (u8s w) w.length 1:=by
  show AV.fsl (List.flatMap (Ty.cells (.int .u8)) d1) (List.length d1) 1=_
  rw[hlen,<-cc];rfl
 rw[e0,e1]
 exact law7 p hp hl w b (by omega)
theorem okp7:okFn Tryz.prog 7 TU.s7=true:=TU.ok7
end Go.AM.SO
