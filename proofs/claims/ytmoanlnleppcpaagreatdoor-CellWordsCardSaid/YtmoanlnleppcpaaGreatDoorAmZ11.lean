/- A part of the proof of CellWordsCardSaid: lemmas on the way (AmCw, AmCyc, AmCyd, AmCyb, AmCye, AmCyf, AmCyh, AmCyg, AmCyi, AmCyj, AmGb, AmGc, AmGd, AmGk, AmGl, AmCq, AmGe, AmGf, AmGn, AmGp, AmGq, AmGo, AmTo, AmTm, AmCzd, AmCr, AmCze, AmCzc, AmCzf, AmGg, AmGs, AmGr, AmGt, AmGu, AmGw, AmGz, AmHe, AmGv, AmCzg, AmCzh, AmCzi, AmCzj, AmHf, AmTp, AmHc). Conditions: none of ours. -/
import Derived.Test.YtmoanlnleppcpaaGreatDoorProg
import Derived.KernelRfl
import Derived.Test.YtmoanlnleppcpaaGreatDoorAmZ10
set_option linter.unusedSectionVars false
set_option maxHeartbeats 32000000
set_option maxRecDepth 100000
set_option linter.unusedVariables false
set_option linter.unusedSimpArgs false
namespace Go.AM.SU
open Go.Proofs Go.AM.SD Go.AM.SE Go.AM.SO
theorem Ql5:∀l:List Nat,(u8s l).all AV.one=true
 |[]=>rfl
 |x::l=>by show(AV.one _&&(u8s l).all AV.one)=true;rw[Ql5 l];rfl
section
variable {p:Pln}
theorem Qn9 {l:List Nat} {k:Nat} (h:k<l.length):(u8s l)[k]?=some (.int .u8 ((l.getD k 0:Nat):Int)):=by
 refine Qfp ?_
 rw[List.getElem?_eq_getElem h,List.getD_eq_getElem?_getD,List.getElem?_eq_getElem h];rfl
theorem QhQ (h:POk p):(plnC p).length=152:=by
 show(u8s p.L++_).length=152
 rw[List.length_append,Qcv,h.L];rfl
theorem Qq1 (h:POk p) {k:Nat} (hk:k<147):(plnC p)[k]?=some (.int .u8 ((p.L.getD k 0:Nat):Int)):=by
 show(u8s p.L++_)[k]?=_
 rw[List.getElem?_append_left (by rw[Qcv,h.L];exact hk),Qn9 (by rw[h.L];exact hk)]
theorem Qei (h:POk p) {k:Nat}:(plnC p)[147+k]?=([.fsl (u8s p.X) p.xn 4,.int .i8 p.f0,.int .i8 p.f1,.int .i8 p.f2,.int .i8 p.bd]:List AV)[k]?:=by
 show(u8s p.L++_)[147+k]?=_
 rw[List.getElem?_append_right (by rw[Qcv,h.L];omega),Qcv,h.L]
 congr 1;omega
theorem QkA (h:POk p) {k m:Nat} (hk:k+m<=147):((plnC p).drop k).take m=u8s ((p.L.drop k).take m):=by
 show((u8s p.L++_).drop k).take m=_
 rw[List.drop_append_of_le_length (by rw[Qcv,h.L];omega),List.take_append_of_le_length (by rw[List.length_drop,Qcv,h.L];omega)]
 simp[u8s,List.map_drop,List.map_take]
theorem Qq2 (h:POk p) {k:Nat} (hk:k+27<=147):((plnC p).drop k).take 27= .int .u8 ((p.L.getD k 0:Nat):Int):: .int .u8 ((p.L.getD (k+1) 0:Nat):Int)::u8s ((p.L.drop (k+2)).take 25):=by
 have hl:=h.L
 rw[QkA h hk]
 have e:(p.L.drop k).take 27=p.L.getD k 0::p.L.getD (k+1) 0::(p.L.drop (k+2)).take 25:=by
  rw[List.getD_eq_getElem?_getD,List.getD_eq_getElem?_getD,List.getElem?_eq_getElem (show k<p.L.length by omega),List.getElem?_eq_getElem (show k+1<p.L.length by omega)]
  rw[List.drop_eq_getElem_cons (show k<p.L.length by omega),List.take_succ_cons,List.drop_eq_getElem_cons (show k+1<p.L.length by omega),List.take_succ_cons];rfl
 rw[e];rfl
theorem L_lt (h:POk p) (k:Nat):p.L.getD k 0<256:=by
 rw[List.getD_eq_getElem?_getD]
 cases e:p.L[k]? with
 |none=>decide
 |some x=>exact h.L8 x (List.mem_of_getElem? e)
theorem X_lt (h:POk p) (k:Nat):p.X.getD k 0<256:=by
 rw[List.getD_eq_getElem?_getD]
 cases e:p.X[k]? with
 |none=>decide
 |some x=>exact h.X8 x (List.mem_of_getElem? e)
theorem pF_lt (h:POk p) (i:Nat): -128<=pF p i/\pF p i<128:=by
 unfold pF
 split
 ·exact h.f0
 ·split
  ·exact h.f1
  ·exact h.f2
theorem QhR (h:POk p):(plnC p).all AV.one=true:=by
 show(u8s p.L++_).all AV.one=true
 rw[List.all_append,Ql5];rfl
theorem Qdf:noRefs (plnC p)=true:=by
 show noRefs (u8s p.L++_)=true
 rw[Qah,Qaz]
 simp only[noRefs,noRef,Qaz];rfl
theorem QpW (F:List Nat):AV.fsl (evP F 5) 5 5=evsV (fun i=>evOf (F.getD i 0)):=by
 congr 1
theorem Qoa (e:Nat->Evt):noRef (evsV e)=true:=rfl
theorem Qbb {ch:UInt8} (l:List (Nat×Aut)):noRefs (l.flatMap (itC ch))=true:=QaT (fun x=>by simp only[itC,noRefs,noRef,Qac,Qaf];rfl) l
theorem Qas {ch:UInt8} (l:List (Nat×Aut)):noRef (its ch l)=true:=by simp only[noRef];exact Qbb l
theorem QpX {p:Pln} {i:Nat}:fltN (ST.bitsL (pAll p (pN p))) (SD.part 5 (p.L.getD (91+i) 0))=pW p i:=by
 unfold fltN pW
 apply List.filter_congr
 intro x hx
 have:=partLt x hx
 show decide (x∈(List.range 5).filter _)=_
 simp[this]
theorem Qbc (l:List (Nat×Nat)):noRefs (l.flatMap loC)=true:=QaT (fun _=>rfl) l
theorem QbL (l:List (Nat×Nat)):noRef (los l)=true:=by simp only[noRef];exact Qbc l
theorem Qfu (l:List (Nat×Nat)):(l.flatMap loC).length=l.length*2:=Qbq (k:=2) (fun _=>rfl) l
theorem Qa6 (l:List (Nat×List (Nat×Nat))):noRefs (l.flatMap exC)=true:=QaT (fun x=>by simp only[exC,noRefs,noRef,Qbc];rfl) l
theorem Qbj (l:List (Nat×List (Nat×Nat))):noRef (exs l)=true:=by simp only[noRef];exact Qa6 l
theorem QdR (l:List (Nat×List (Nat×Nat))):(l.flatMap exC).length=l.length*2:=Qbq (k:=2) (fun _=>rfl) l
theorem Qb4 (l:List (Nat×Int)):noRef (tes l)=true:=by simp only[noRef];exact QaL l
theorem Qcw (l:List (List (Nat×Int)×Int)):noRefs (l.flatMap coC)=true:=QaT (fun x=>by simp only[coC,noRefs,noRef,QaL];rfl) l
theorem QiU (l:List (List (Nat×Int)×Int)):noRef (cos l)=true:=by simp only[noRef];exact Qcw l
theorem Qcx {ch:UInt8} {l:List (Nat×Aut)} {i:Nat} {x:Nat×Aut} (h:l[i]?=some x):(l.flatMap (itC ch)).drop (i*5)= .str [ch,UInt8.ofNat (48+x.1)]::sliN x.2.al:: .int .i64 (x.2.n:Int)::sliN x.2.ms::egsN x.2.es::(l.drop (i+1)).flatMap (itC ch):=Qbz (f:=itC ch) (k:=5) (fun _=>rfl) h
theorem QpY {X:List Nat} {i:Nat} (h:i*4+4<=X.length):((u8s X).drop (i*4)).take 4=[.int .u8 ((X.getD (i*4) 0:Nat):Int),.int .u8 ((X.getD (i*4+1) 0:Nat):Int),.int .u8 ((X.getD (i*4+2) 0:Nat):Int),.int .u8 ((X.getD (i*4+3) 0:Nat):Int)]:=by
  have g:∀k,k<4->X.getD (i*4+k) 0=X[i*4+k]!:=fun k hk=>by
    rw[List.getD_eq_getElem?_getD,List.getElem!_eq_getElem?_getD];rfl
  apply List.ext_getElem?
  intro j
  by_cases hj:j<4
  · rw [List.getElem?_take_of_lt hj, List.getElem?_drop, Qn9 (by omega)]
    have:j=0\/j=1\/j=2\/j=3:=by omega
    rcases this with rfl|rfl|rfl|rfl<;>rfl
  · rw[List.getElem?_eq_none (by rw[List.length_take];omega),List.getElem?_eq_none (by simp;omega)]
theorem Qbk (c:Cel):noRef (celV c)=true:=by
 rw[celV,noRef,noRefs,noRefs,noRefs,noRefs,noRefs,Qoa,Qas,Qas,Qbj,QiU];rfl
theorem Qdg {s:List UInt8} {a:Aut}:noRefs [.str s,sliN a.al,.int .i64 (a.n:Int),sliN a.ms,egsN a.es]=true:=by simp only[noRefs,noRef,Qac,Qaf];rfl
theorem Qao {x y:List AV} (hx:noRefs x=true) (hy:noRefs y=true):noRefs (x++y)=true:=by rw[Qah,hx,hy];rfl
theorem Qob {ch:UInt8} {i:Nat} {a:Aut}:List.flatMap (itC ch) [(i,a)]=[.str [ch,UInt8.ofNat (48+i)],sliN a.al,.int .i64 (a.n:Int),sliN a.ms,egsN a.es]:=rfl
theorem Qc9 {ch:UInt8} (l:List (Nat×Aut)):(l.flatMap (itC ch)).length=l.length*5:=Qbq (k:=5) (fun _=>rfl) l
theorem Qo7 {i:Nat}:pCs p (i+1)=pCs p i++[(i,pA p i)]:=by
 unfold pCs;rw[List.range_succ,List.map_append];rfl
theorem Qo8 {i:Nat}:pRs p (i+1)=pRs p i++[(i,pR p i)]:=by
 unfold pRs;rw[List.range_succ,List.map_append];rfl
theorem QhS {i:Nat}:(pCs p i).length=i:=by simp[pCs]
theorem Ql6 {i:Nat}:(pRs p i).length=i:=by simp[pRs]
theorem Ql7:∀{i:Nat},pAll p i<32
 |0=>by show 0<32;decide
 |i+1=>Nat.or_lt_two_pow (n:=5) Ql7 (Nat.mod_lt _ (by decide))
end
theorem QmJ (a:Nat):(ST.allV a).cells=[ST.allV a]:=by unfold ST.allV;split<;>rfl
theorem Qo9 (a:Nat):(ST.allV a).one=true:=by unfold ST.allV;split<;>rfl
theorem Qlg (a:Nat):noRefs [ST.allV a]=true:=by
 unfold ST.allV
 split
 ·rfl
 ·simp only[noRefs,noRef,Qac];rfl
theorem Make26 (p : Pln) (h : POk p) : PSpec Tryz.prog 26 [plnV p] (celV (mkC p)) := by
  refine PSpec.of_rn 40 ok26 rfl (by simp only[noRefs,noRef,Qdf];rfl) (Qbk _) ?_
  have hlen:=QhQ h
  have hone:=QhR h
  have hnr:=@Qdf p
  have h5:(plnC p).take 5=u8s (p.L.take 5):=by simpa using QkA h (k:=0) (m:=5) (by omega)
  have hev:=events88 (p.L.take 5) (by rw[List.length_take,h.L];rfl) (fun i=>by
    rw[List.getD_eq_getElem?_getD]
    cases e:(p.L.take 5)[i]? with
    |none=>decide
    |some x=>exact h.L8 x (List.mem_of_mem_take (List.mem_of_getElem? e)))
  rw[QpW]at hev
  have hat:∀{k},k<147->(plnC p)[k]?=some (.int .u8 ((p.L.getD k 0:Nat):Int)):=fun hk=>Qq1 h hk
  have a5:=hat (k:=5) (by omega)
  have a90:=hat (k:=90) (by omega)
  have a147:(plnC p)[147]?=some (.fsl (u8s p.X) p.xn 4):=Qei h (k:=0)
  have aF:∀i,i<3->(plnC p)[148+i]?=some (.int .i8 (pF p i)):=by
    intro i hi
    have:i=0\/i=1\/i=2:=by omega
    rcases this with rfl|rfl|rfl
    · exact Qei h (k:=1)
    · exact Qei h (k:=2)
    · exact Qei h (k:=3)
  have a151:(plnC p)[151]?=some (.int .i8 p.bd):=Qei h (k:=4)
  have hgr:∀{k},k+27<=147->((plnC p).drop k).take 27=_:=fun hk=>Qq2 h hk
  show wS _ _ _ _ _ (argT 0 [.agg (plnC p)]) _ _
  generalize plnC p=C at*
  have htm:((p.L.getD 5 0:Nat):Int).tmod 3=((p.L.getD 5 0 % 3:Nat):Int):=by rw[Int.tmod_eq_emod_of_nonneg (Int.natCast_nonneg _)];norm_cast
  have hn:(1:Int)+((p.L.getD 5 0 % 3:Nat):Int)=(pN p:Int):=by unfold pN;omega
  have hn3:=@pN_le p
  simp(disch:=first|omega|(simp only[lenW]<;>omega)) only[s26,hlen,hone,h5,Bool.not_eq_true,wW,wV,simprocAttr]
  refine cp hev ?_
  simp(disch:=first|omega|(simp only[lenW]<;>omega)) only[a5,htm,hn,Bool.not_eq_true,wW,wV,simprocAttr]
  refine Qap 100 (fun i:Nat=>[(1,.ptr 50 0 0),(2,.ptr 51 0 0),(3,.ptr 52 0 0),(4,.ptr 75 0 0),(5,.int .i64 (pN p:Int)),(26,.int .i64 (pN p:Int)),(27,.int .i64 i)])
    (fun i=>[(50,.cells 0 C),(51,.cells 0 [.nilsl,.nilsl,.nilsl,.nilsl,.nilsl]),(52,.cells 0 [evsV (fun i=>evOf ((p.L.take 5).getD i 0)),.sl 76 0 0 (pCs p i).length 5,.nilsl,.nilsl,.nilsl]),(75,.cells 0 [ST.allV (pAll p i)]),(76,.cells 0 ((pCs p i).flatMap (itC 99)))])
    (fun i=>i<=pN p) (fun i=>pN p-i) 0 0 200
    (fun _:Unit=>[(1,.ptr 50 0 0),(2,.ptr 51 0 0),(3,.ptr 52 0 0),(4,.ptr 75 0 0),(5,.int .i64 (pN p:Int))])
    (fun _=>[(50,.cells 0 C),(51,.cells 0 [.nilsl,.nilsl,.nilsl,.nilsl,.nilsl]),(52,.cells 0 [evsV (fun i=>evOf ((p.L.take 5).getD i 0)),its 99 (pCs p (pN p)),.nilsl,.nilsl,.nilsl]),(75,.cells 0 [sliN (ST.bitsL (pAll p (pN p)))])]) (fun _=>True) ?_ (Nat.zero_le _) ?_ ?_
  · refine ⟨[(50, .blk 40 0), (51, .blk 41 0), (52, .blk 46 0), (75, .blk 48 0), (76, .nil)], rfl, au0, ?_, au15⟩
    exact RB.cells rfl rfl gg (RnL.same hnr) (RB.cells rfl rfl gg (RnL.same rfl) (RB.cells rfl rfl gg (RnL.cons (Rn.same rfl) (RnL.cons (Rn.x4 rfl rfl) (RnL.same rfl))) (RB.cells rfl rfl gg (RnL.same rfl) (RB.newnil rfl rfl RB.nil))))
  · rintro i hi
    by_cases hlt:i<pN p
    · have hi3 : (i : Int) < 3 := by omega
      have a6:=hat (k:=6+i) (by omega)
      have hE:=events16 (p.L.getD (6+i) 0) (L_lt h _)
      have hU:=ST.union90 (a:=pAll p i) (b:=p.L.getD (6+i) 0) Ql7
      have hg:=hgr (k:=9+i*27) (by omega)
      have hG:=graph91 (SD.part 5 (p.L.getD (6+i) 0)) (p.L.getD (9+i*27) 0) (p.L.getD (9+i*27+1) 0) ((p.L.drop (9+i*27+2)).take 25) (Qc2 _ _) partLt (L_lt h _) (L_lt h _) (by rw[List.length_take,List.length_drop,h.L];omega) (fun x hx=>h.L8 x (List.mem_of_mem_drop (List.mem_of_mem_take hx)))
      have hA:mkA (SD.part 5 (p.L.getD (6+i) 0)) (p.L.getD (9+i*27) 0 % 3) (p.L.getD (9+i*27+1) 0) ((p.L.drop (9+i*27+2)).take 25)=pA p i:=rfl
      rw[hA]at hG
      have hB:pAll p i|||p.L.getD (6+i) 0 % 32=pAll p (i+1):=rfl
      rw[hB]at hU
      have hsuc:=@Qo7 p i
      have hil:=@Qc9 99 (pCs p i)
      have hpl:=@QhS p i
      simp(disch:=first|omega|(simp only[lenW]<;>omega)) only[hlt,hi3,a6,hlen,Bool.not_eq_true,wW,wV,simprocAttr]
      refine cp hE ?_
      simp(disch:=first|omega|(simp only[lenW]<;>omega)) only[Bool.not_eq_true,wW,wV,simprocAttr]
      refine cp hU ?_
      have hs:=QeK (i:=i) (by omega)
      have hg27:9+i*27+27<=152:=by omega
      simp(disch:=first|omega|(simp only[lenW]<;>omega)) only[hlt,hi3,hlen,hs,QdC,QmJ,Qo9,hg27,hg,Bool.not_eq_true,wW,wV,simprocAttr]
      refine cp hG ?_
      simp(disch:=first|omega|(simp only[lenW]<;>omega)) only[hil,hpl,Bool.not_eq_true,wW,wV,simprocAttr]
      refine⟨i+1,by omega,by omega,?_⟩
      rw[hsuc,List.flatMap_append,List.length_append,hpl,Qob]
      refine⟨[(50,.blk 50 0),(51,.blk 51 0),(52,.blk 52 0),(75,.blk 75 0),(76,.blk 76 1)],rfl,au0,?_,au15⟩
      exact RB.cells rfl rfl gg (RnL.same hnr) (RB.cells rfl rfl gg (RnL.same rfl) (RB.cells rfl rfl gg (RnL.cons (Rn.same rfl) (RnL.cons (Rn.x1 rfl rfl) (RnL.same rfl))) (RB.cells rfl rfl gg (RnL.same (Qlg _)) (RB.cells rfl rfl gg (RnL.same (Qao (Qbb _) Qdg)) RB.nil))))
    · have e : i = pN p := by omega
      subst e
      have hil:=@Qc9 99 (pCs p (pN p))
      have hpl:=@QhS p (pN p)
      simp(disch:=first|omega|(simp only[lenW]<;>omega)) only[hlt,Bool.not_eq_true,wW,wV,simprocAttr]
      refine⟨(),?_⟩
      refine⟨[(50,.blk 50 0),(51,.blk 51 0),(52,.blk 52 0),(75,.blk 75 0)],rfl,au0,?_,au15⟩
      refine RB.cells rfl rfl gg (RnL.same hnr) (RB.cells rfl rfl gg (RnL.same rfl) (RB.cells rfl rfl gg (RnL.cons (Rn.same rfl) (RnL.cons (Rn.fzm rfl rfl rfl rfl (Qc9 _) (RnL.same (Qbb _))) (RnL.same rfl))) (RB.cells rfl rfl gg (RnL.cons ?_ RnL.nil) RB.nil)))
      unfold ST.allV
      split
      · rename_i h0;rw[h0];exact Rn.nilK
      · exact Rn.same (Qab _)
  rintro _ _
  have htm90:((p.L.getD 90 0:Nat):Int).tmod 3=(pM p:Int):=by rw[Int.tmod_eq_emod_of_nonneg (Int.natCast_nonneg _)];unfold pM;norm_cast
  have hm2:=@pM_le p
  simp(disch:=first|omega|(simp only[lenW]<;>omega)) only[a90,htm90,Bool.not_eq_true,wW,wV,simprocAttr]
  refine Qap 100 (fun i:Nat=>[(1,.ptr 50 0 0),(2,.ptr 51 0 0),(3,.ptr 52 0 0),(4,.ptr 75 0 0),(5,.int .i64 (pN p:Int)),(59,.int .i64 (pM p:Int)),(60,.int .i64 i)])
    (fun i=>[(50,.cells 0 C),(51,.cells 0 [.nilsl,.nilsl,.nilsl,.nilsl,.nilsl]),(52,.cells 0 [evsV (fun i=>evOf ((p.L.take 5).getD i 0)),its 99 (pCs p (pN p)),.sl 77 0 0 (pRs p i).length 5,.nilsl,.nilsl]),(75,.cells 0 [sliN (ST.bitsL (pAll p (pN p)))]),(77,.cells 0 ((pRs p i).flatMap (itC 114)))])
    (fun i=>i<=pM p) (fun i=>pM p-i) 0 2 200
    (fun _:Unit=>[(1,.ptr 50 0 0),(2,.ptr 51 0 0),(3,.ptr 52 0 0),(5,.int .i64 (pN p:Int))])
    (fun _=>[(50,.cells 0 C),(51,.cells 0 [.nilsl,.nilsl,.nilsl,.nilsl,.nilsl]),(52,.cells 0 [evsV (fun i=>evOf ((p.L.take 5).getD i 0)),its 99 (pCs p (pN p)),its 114 (pRs p (pM p)),.nilsl,.nilsl])]) (fun _=>True) ?_ (Nat.zero_le _) ?_ ?_
  · refine ⟨[(50, .blk 50 0), (51, .blk 51 0), (52, .blk 52 0), (75, .blk 75 0), (77, .nil)], rfl, au0, ?_, au15⟩
    exact RB.cells rfl rfl gg (RnL.same hnr) (RB.cells rfl rfl gg (RnL.same rfl) (RB.cells rfl rfl gg (RnL.cons (Rn.same rfl) (RnL.cons (Rn.same (Qas _)) (RnL.cons (Rn.x4 rfl rfl) (RnL.same rfl)))) (RB.cells rfl rfl gg (RnL.cons (Rn.same (Qab _)) RnL.nil) (RB.newnil rfl rfl RB.nil))))
  · rintro i hi
    by_cases hlt:i<pM p
    · have hi3 : (i : Int) < 2 := by omega
      have a6:=hat (k:=91+i) (by omega)
      have hE:=events89 (p.L.getD (91+i) 0) (L_lt h _)
      have hg:=hgr (k:=93+i*27) (by omega)
      have hG:=graph91 (pW p i) (p.L.getD (93+i*27) 0) (p.L.getD (93+i*27+1) 0) ((p.L.drop (93+i*27+2)).take 25) (QiQ _) (pW_lt _) (L_lt h _) (L_lt h _) (by rw[List.length_take,List.length_drop,h.L];omega) (fun x hx=>h.L8 x (List.mem_of_mem_drop (List.mem_of_mem_take hx)))
      have hA:mkA (pW p i) (p.L.getD (93+i*27) 0 % 3) (p.L.getD (93+i*27+1) 0) ((p.L.drop (93+i*27+2)).take 25)=pR p i:=rfl
      rw[hA]at hG
      have hsuc:=@Qo8 p i
      have hil:=@Qc9 114 (pRs p i)
      have hpl:=@Ql6 p i
      have hs:=QeK (i:=i) (by omega)
      have hg27:93+i*27+27<=152:=by omega
      have hW:fltN (ST.bitsL (pAll p (pN p))) (SD.part 5 (p.L.getD (91+i) 0))=pW p i:=QpX
      have hbl:(ST.bitsL (pAll p (pN p))).length<=1000000:=Nat.le_trans (QcV (i:=5)) (by decide)
      have hpl5:(SD.part 5 (p.L.getD (91+i) 0)).length<=1000000:=Nat.le_trans (QcV (i:=5)) (by decide)
      generalize ST.bitsL (pAll p (pN p))=A at*
      simp(disch:=first|omega|(simp only[lenW]<;>omega)) only[hlt,hi3,a6,hlen,Bool.not_eq_true,wW,wV,simprocAttr]
      refine ch (HSpec.of_O (b:=98) (by(try simp only[noRefs,Qac,Qaz,noRef,noRefs,Qab,QaL,Bool.and_self,Bool.and_true])<;>rfl) hE (by repeat (first|exact Fresh.e|exact Fresh.le (by assumption) (by omega)|refine Fresh.set ?_ (by omega) (by omega))) rfl) ?_
      simp(disch:=first|omega|(simp only[lenW]<;>omega)) only[Bool.not_eq_true,wW,wV,simprocAttr]
      refine chc (del40F hbl hpl5 gg gg) ?_
      rw[hW]
      simp(disch:=first|omega|(simp only[lenW]<;>omega)) only[hlt,hi3,hlen,hs,hg27,hg,Bool.not_eq_true,wW,wV,simprocAttr]
      refine cp hG ?_
      simp(disch:=first|omega|(simp only[lenW]<;>omega)) only[hil,hpl,Bool.not_eq_true,wW,wV,simprocAttr]
      refine⟨i+1,by omega,by omega,?_⟩
      rw[hsuc,List.flatMap_append,List.length_append,hpl,Qob]
      refine⟨[(50,.blk 50 0),(51,.blk 51 0),(52,.blk 52 0),(75,.blk 75 0),(77,.blk 77 1)],rfl,au0,?_,au15⟩
      exact RB.cells rfl rfl gg (RnL.same hnr) (RB.cells rfl rfl gg (RnL.same rfl) (RB.cells rfl rfl gg (RnL.cons (Rn.same rfl) (RnL.cons (Rn.same (Qas _)) (RnL.cons (Rn.x1 rfl rfl) (RnL.same rfl)))) (RB.cells rfl rfl gg (RnL.cons (Rn.same (Qab _)) RnL.nil) (RB.cells rfl rfl gg (RnL.same (Qao (Qbb _) Qdg)) RB.nil))))
    · have e : i = pM p := by omega
      subst e
      have hil:=@Qc9 114 (pRs p (pM p))
      have hpl:=@Ql6 p (pM p)
      simp(disch:=first|omega|(simp only[lenW]<;>omega)) only[hlt,Bool.not_eq_true,wW,wV,simprocAttr]
      refine⟨(),?_⟩
      refine⟨[(50,.blk 50 0),(51,.blk 51 0),(52,.blk 52 0)],rfl,au0,?_,au15⟩
      exact RB.cells rfl rfl gg (RnL.same hnr) (RB.cells rfl rfl gg (RnL.same rfl) (RB.cells rfl rfl gg (RnL.cons (Rn.same rfl) (RnL.cons (Rn.same (Qas _)) (RnL.cons (Rn.fzm rfl rfl rfl rfl (Qc9 _) (RnL.same (Qbb _))) (RnL.same rfl)))) RB.nil))
  rintro _ _
  simp(disch:=first|omega|(simp only[lenW]<;>omega)) only[a147,Bool.not_eq_true,wW,wV,simprocAttr]
  refine Qap 100 (fun i:Nat=>[(1,.ptr 50 0 0),(2,.ptr 51 0 0),(3,.ptr 52 0 0),(5,.int .i64 (pN p:Int)),(89,.fsl (u8s p.X) p.xn 4),(90,.int .i64 (p.xn:Int)),(91,.int .i64 i)])
    (fun i=>[(50,.cells 0 C),(51,.cells 0 [.nilsl,.nilsl,.nilsl,.nilsl,.nilsl]),(52,.cells 0 [evsV (fun i=>evOf ((p.L.take 5).getD i 0)),its 99 (pCs p (pN p)),its 114 (pRs p (pM p)),.sl 78 0 0 (pXs p i).length 2,.nilsl]),(78,.cells 0 ((pXs p i).flatMap exC))])
    (fun i=>i<=p.xn/\i<=2) (fun i=>p.xn-i) 0 4 200
    (fun _:Unit=>[(1,.ptr 50 0 0),(2,.ptr 51 0 0),(3,.ptr 52 0 0),(5,.int .i64 (pN p:Int))])
    (fun _=>[(50,.cells 0 C),(51,.cells 0 [.nilsl,.nilsl,.nilsl,.nilsl,.nilsl]),(52,.cells 0 [evsV (fun i=>evOf ((p.L.take 5).getD i 0)),its 99 (pCs p (pN p)),its 114 (pRs p (pM p)),exs (pXs p (min p.xn 2)),.nilsl])]) (fun _=>True) ?_ ⟨Nat.zero_le _,Nat.zero_le _⟩ ?_ ?_
  · refine ⟨[(50, .blk 50 0), (51, .blk 51 0), (52, .blk 52 0), (78, .nil)], rfl, au0, ?_, au15⟩
    exact RB.cells rfl rfl gg (RnL.same hnr) (RB.cells rfl rfl gg (RnL.same rfl) (RB.cells rfl rfl gg (RnL.cons (Rn.same rfl) (RnL.cons (Rn.same (Qas _)) (RnL.cons (Rn.same (Qas _)) (RnL.cons (Rn.x4 rfl rfl) (RnL.same rfl))))) (RB.newnil rfl rfl RB.nil)))
  · rintro i ⟨hi, hi2⟩
    have hxl:=@QdR (pXs p i)
    have hxx:=@QhN p i
    by_cases hlt:i<p.xn
    · have hX := h.X
      have h4:=QpY (X:=p.X) (i:=i) (by omega)
      have hul:i*4+4<=(u8s p.X).length:=by rw[Qcv,hX];omega
      have hdl:4<=((u8s p.X).drop (i*4)).length:=by rw[List.length_drop];omega
      by_cases h2:i=2
      · subst h2
        have hi2':(2:Int)<(p.xn:Int):=by omega
        simp(disch:=first|omega|(simp only[lenW]<;>omega)) only[hlt,h4,hdl,hi2',Bool.not_eq_true,wW,wV,simprocAttr]
        refine⟨(),?_⟩
        rw[show min p.xn 2=2 by omega]
        refine⟨[(50,.blk 50 0),(51,.blk 51 0),(52,.blk 52 0)],rfl,au0,?_,au15⟩
        exact RB.cells rfl rfl gg (RnL.same hnr) (RB.cells rfl rfl gg (RnL.same rfl) (RB.cells rfl rfl gg (RnL.cons (Rn.same rfl) (RnL.cons (Rn.same (Qas _)) (RnL.cons (Rn.same (Qas _)) (RnL.cons (Rn.fzm rfl rfl rfl rfl (QdR _) (RnL.same (Qa6 _))) (RnL.same rfl))))) RB.nil))
      have h2':¬(i:Int)=2:=by omega
      have hs:=QeK (i:=i) (by omega)
      simp(disch:=first|omega|(simp only[lenW]<;>omega)) only[hlt,h4,hdl,h2',hs,Bool.not_eq_true,wW,wV,simprocAttr]
      obtain⟨Y,hYe⟩:∃Y,Y=[AV.int .u8 ((p.X.getD (i*4) 0:Nat):Int),.int .u8 ((p.X.getD (i*4+1) 0:Nat):Int),.int .u8 ((p.X.getD (i*4+2) 0:Nat):Int),.int .u8 ((p.X.getD (i*4+3) 0:Nat):Int)]:=⟨_,rfl⟩
      have hYn:noRefs Y=true:=by rw[hYe];rfl
      have hYk:∀k,k<3->Y[k]?=some (.int .u8 ((p.X.getD (i*4+k) 0:Nat):Int)):=by
        intro k hk
        have:k=0\/k=1\/k=2:=by omega
        rcases this with rfl|rfl|rfl<;>rw[hYe]<;>rfl
      have hpl:=@QhS p (pN p)
      have hilC:=@Qc9 99 (pCs p (pN p))
      rw[<-hYe,hpl]
      refine Qap 220 (fun k:Nat=>[(1,.ptr 50 0 0),(2,.ptr 51 0 0),(3,.ptr 52 0 0),(5,.int .i64 (pN p:Int)),(11,.ptr 60 0 0),(12,.ptr 61 0 0),(89,.fsl (u8s p.X) p.xn 4),(90,.int .i64 (p.xn:Int)),(91,.int .i64 i),(106,.int .i64 (pN p:Int)),(107,.int .i64 k)])
        (fun k=>[(50,.cells 0 C),(51,.cells 0 [.nilsl,.nilsl,.nilsl,.nilsl,.nilsl]),(52,.cells 0 [evsV (fun i=>evOf ((p.L.take 5).getD i 0)),its 99 (pCs p (pN p)),its 114 (pRs p (pM p)),.sl 78 0 0 (pXs p i).length 2,.nilsl]),(60,.cells 0 Y),(61,.cells 0 [.str [101,UInt8.ofNat (48+i)],.sl 79 0 0 (pLo p i k).length 2]),(78,.cells 0 ((pXs p i).flatMap exC)),(79,.cells 0 ((pLo p i k).flatMap loC))])
        (fun k=>k<=pN p) (fun k=>pN p-k) 0 6 300
        (fun _:Unit=>[(1,.ptr 50 0 0),(2,.ptr 51 0 0),(3,.ptr 52 0 0),(5,.int .i64 (pN p:Int)),(12,.ptr 61 0 0),(89,.fsl (u8s p.X) p.xn 4),(90,.int .i64 (p.xn:Int)),(91,.int .i64 i)])
        (fun _=>[(50,.cells 0 C),(51,.cells 0 [.nilsl,.nilsl,.nilsl,.nilsl,.nilsl]),(52,.cells 0 [evsV (fun i=>evOf ((p.L.take 5).getD i 0)),its 99 (pCs p (pN p)),its 114 (pRs p (pM p)),.sl 78 0 0 (pXs p i).length 2,.nilsl]),(61,.cells 0 [.str [101,UInt8.ofNat (48+i)],los (pLo p i (pN p))]),(78,.cells 0 ((pXs p i).flatMap exC))]) (fun _=>True) ?_ (Nat.zero_le _) ?_ ?_
      · refine ⟨[(50, .blk 50 0), (51, .blk 51 0), (52, .blk 52 0), (60, .blk 104 0), (61, .blk 115 0), (78, .blk 78 0), (79, .nil)], rfl, au0, ?_, au15⟩
        exact RB.cells rfl rfl gg (RnL.same hnr) (RB.cells rfl rfl gg (RnL.same rfl) (RB.cells rfl rfl gg (RnL.cons (Rn.same rfl) (RnL.cons (Rn.same (Qas _)) (RnL.cons (Rn.same (Qas _)) (RnL.cons (Rn.x1 rfl rfl) (RnL.same rfl))))) (RB.cells rfl rfl gg (RnL.same hYn) (RB.cells rfl rfl gg (RnL.cons (Rn.same rfl) (RnL.cons (Rn.x4 rfl rfl) RnL.nil)) (RB.cells rfl rfl gg (RnL.same (Qa6 _)) (RB.newnil rfl rfl RB.nil))))))
      · rintro k hk
        have hll:=@Qfu (pLo p i k)
        have hlx:=@QhO p i k
        by_cases hkl:k<pN p
        · have hk3 : (k : Int) < 4 := by omega
          have hck:=Qn1 (p:=p) hkl
          have hdr:=Qcx (ch:=99) hck
          have hdl2:5<=(((pCs p (pN p)).flatMap (itC 99)).drop (k*5)).length:=by rw[hdr];simp
          have hy:=hYk k (by omega)
          have hx8:=X_lt h (i*4+k)
          have hn5:(pA p k).n<=3:=(pA_wf k).n3
          have hrm:((p.X.getD (i*4+k) 0:Nat):Int).tmod (((pA p k).n:Int)+2)=((p.X.getD (i*4+k) 0 % ((pA p k).n+2):Nat):Int):=by
            rw[Int.tmod_eq_emod_of_nonneg (Int.natCast_nonneg _)];norm_cast
          have hn0:¬((pA p k).n:Int)+2=0:=by omega
          have hxm:p.X.getD (i*4+k) 0 % ((pA p k).n+2)<=10:=by have:=Nat.mod_lt (p.X.getD (i*4+k) 0) (show 0<(pA p k).n+2 by omega);omega
          have hsuc:pLo p i (k+1)=if p.X.getD (i*4+k) 0 % ((pA p k).n+2)<(pA p k).n then pLo p i k++[(k,p.X.getD (i*4+k) 0 % ((pA p k).n+2))]else pLo p i k:=rfl
          by_cases ht:p.X.getD (i*4+k) 0 % ((pA p k).n+2)<(pA p k).n
          · rw [if_pos ht] at hsuc
            have hlo1:List.flatMap loC [(k,p.X.getD (i*4+k) 0 % ((pA p k).n+2))]=[.int .i64 (k:Int),.int .i64 ((p.X.getD (i*4+k) 0 % ((pA p k).n+2):Nat):Int)]:=rfl
            simp(disch:=first|omega|(simp only[lenW]<;>omega)) only[hkl,hk3,hdr,hdl2,hy,hrm,hn0,ht,hll,Bool.not_eq_true,wW,wV,simprocAttr]
            refine⟨k+1,by omega,by omega,?_⟩
            rw[hsuc,List.flatMap_append,List.length_append,hlo1]
            refine⟨[(50,.blk 50 0),(51,.blk 51 0),(52,.blk 52 0),(60,.blk 60 0),(61,.blk 61 0),(78,.blk 78 0),(79,.blk 79 1)],rfl,au0,?_,au15⟩
            exact RB.cells rfl rfl gg (RnL.same hnr) (RB.cells rfl rfl gg (RnL.same rfl) (RB.cells rfl rfl gg (RnL.cons (Rn.same rfl) (RnL.cons (Rn.same (Qas _)) (RnL.cons (Rn.same (Qas _)) (RnL.cons (Rn.x1 rfl rfl) (RnL.same rfl))))) (RB.cells rfl rfl gg (RnL.same hYn) (RB.cells rfl rfl gg (RnL.cons (Rn.same rfl) (RnL.cons (Rn.x1 rfl rfl) RnL.nil)) (RB.cells rfl rfl gg (RnL.same (Qa6 _)) (RB.cells rfl rfl gg (RnL.same (Qao (Qbc _) rfl)) RB.nil))))))
          · rw [if_neg ht] at hsuc
            simp(disch:=first|omega|(simp only[lenW]<;>omega)) only[hkl,hk3,hdr,hdl2,hy,hrm,hn0,ht,hll,Bool.not_eq_true,wW,wV,simprocAttr]
            refine⟨k+1,by omega,by omega,?_⟩
            rw[hsuc]
            refine⟨[(50,.blk 50 0),(51,.blk 51 0),(52,.blk 52 0),(60,.blk 60 0),(61,.blk 61 0),(78,.blk 78 0),(79,.blk 79 0)],rfl,au0,?_,au15⟩
            exact RB.cells rfl rfl gg (RnL.same hnr) (RB.cells rfl rfl gg (RnL.same rfl) (RB.cells rfl rfl gg (RnL.cons (Rn.same rfl) (RnL.cons (Rn.same (Qas _)) (RnL.cons (Rn.same (Qas _)) (RnL.cons (Rn.x1 rfl rfl) (RnL.same rfl))))) (RB.cells rfl rfl gg (RnL.same hYn) (RB.cells rfl rfl gg (RnL.cons (Rn.same rfl) (RnL.cons (Rn.x1 rfl rfl) RnL.nil)) (RB.cells rfl rfl gg (RnL.same (Qa6 _)) (RB.cells rfl rfl gg (RnL.same (Qbc _)) RB.nil))))))
        · have e : k = pN p := by omega
          subst e
          simp(disch:=first|omega|(simp only[lenW]<;>omega)) only[hkl,Bool.not_eq_true,wW,wV,simprocAttr]
          refine⟨(),?_⟩
          refine⟨[(50,.blk 50 0),(51,.blk 51 0),(52,.blk 52 0),(61,.blk 61 0),(78,.blk 78 0)],rfl,au0,?_,au15⟩
          exact RB.cells rfl rfl gg (RnL.same hnr) (RB.cells rfl rfl gg (RnL.same rfl) (RB.cells rfl rfl gg (RnL.cons (Rn.same rfl) (RnL.cons (Rn.same (Qas _)) (RnL.cons (Rn.same (Qas _)) (RnL.cons (Rn.x1 rfl rfl) (RnL.same rfl))))) (RB.cells rfl rfl gg (RnL.cons (Rn.same rfl) (RnL.cons (Rn.fzm rfl rfl rfl rfl (Qfu _) (RnL.same (Qbc _))) RnL.nil)) (RB.cells rfl rfl gg (RnL.same (Qa6 _)) RB.nil))))
      rintro _ _
      have hsuc:pXs p (i+1)=if 0<(pLo p i (pN p)).length then pXs p i++[(i,pLo p i (pN p))]else pXs p i:=rfl
      have hlx:=@QhO p i (pN p)
      by_cases h0:0<(pLo p i (pN p)).length
      · rw [if_pos h0] at hsuc
        have hex1:List.flatMap exC [(i,pLo p i (pN p))]=[.str [101,UInt8.ofNat (48+i)],los (pLo p i (pN p))]:=rfl
        simp(disch:=first|omega|(simp only[lenW]<;>omega)) only[h0,hxl,Bool.not_eq_true,wW,wV,simprocAttr]
        refine⟨i+1,by omega,⟨by omega,by omega⟩,?_⟩
        rw[hsuc,List.flatMap_append,List.length_append,hex1]
        refine⟨[(50,.blk 50 0),(51,.blk 51 0),(52,.blk 52 0),(78,.blk 78 1)],rfl,au0,?_,au15⟩
        exact RB.cells rfl rfl gg (RnL.same hnr) (RB.cells rfl rfl gg (RnL.same rfl) (RB.cells rfl rfl gg (RnL.cons (Rn.same rfl) (RnL.cons (Rn.same (Qas _)) (RnL.cons (Rn.same (Qas _)) (RnL.cons (Rn.x1 rfl rfl) (RnL.same rfl))))) (RB.cells rfl rfl gg (RnL.same (Qao (Qa6 _) (by simp only[noRefs,noRef,Qbc];rfl))) RB.nil)))
      · rw [if_neg h0] at hsuc
        simp(disch:=first|omega|(simp only[lenW]<;>omega)) only[h0,hxl,Bool.not_eq_true,wW,wV,simprocAttr]
        refine⟨i+1,by omega,⟨by omega,by omega⟩,?_⟩
        rw[hsuc]
        refine⟨[(50,.blk 50 0),(51,.blk 51 0),(52,.blk 52 0),(78,.blk 78 0)],rfl,au0,?_,au15⟩
        exact RB.cells rfl rfl gg (RnL.same hnr) (RB.cells rfl rfl gg (RnL.same rfl) (RB.cells rfl rfl gg (RnL.cons (Rn.same rfl) (RnL.cons (Rn.same (Qas _)) (RnL.cons (Rn.same (Qas _)) (RnL.cons (Rn.x1 rfl rfl) (RnL.same rfl))))) (RB.cells rfl rfl gg (RnL.same (Qa6 _)) RB.nil)))
    · have e : i = p.xn := by omega
      subst e
      simp(disch:=first|omega|(simp only[lenW]<;>omega)) only[hlt,Bool.not_eq_true,wW,wV,simprocAttr]
      refine⟨(),?_⟩
      rw[show min p.xn 2=p.xn by omega]
      refine⟨[(50,.blk 50 0),(51,.blk 51 0),(52,.blk 52 0)],rfl,au0,?_,au15⟩
      exact RB.cells rfl rfl gg (RnL.same hnr) (RB.cells rfl rfl gg (RnL.same rfl) (RB.cells rfl rfl gg (RnL.cons (Rn.same rfl) (RnL.cons (Rn.same (Qas _)) (RnL.cons (Rn.same (Qas _)) (RnL.cons (Rn.fzm rfl rfl rfl rfl (QdR _) (RnL.same (Qa6 _))) (RnL.same rfl))))) RB.nil))
  rintro _ _
  have hb1:=Int.lt_tmod_of_pos p.bd (show(0:Int)<8 by decide)
  have hb2:=Int.tmod_lt_of_pos p.bd (show(0:Int)<8 by decide)
  have hbd:=h.bd
  have hf0:=h.f0
  have hf1:=h.f1
  have hf2:=h.f2
  simp(disch:=first|omega|(simp only[lenW]<;>omega)) only[a151,Bool.not_eq_true,wW,wV,simprocAttr]
  refine Qap 240 (fun i:Nat=>[(1,.ptr 50 0 0),(2,.ptr 51 0 0),(3,.ptr 52 0 0),(15,.ptr 62 0 0),(157,.int .i64 (pN p:Int)),(158,.int .i64 i)])
    (fun i=>[(50,.cells 0 C),(51,.cells 0 [.nilsl,.nilsl,.nilsl,.nilsl,.nilsl]),(52,.cells 0 [evsV (fun i=>evOf ((p.L.take 5).getD i 0)),its 99 (pCs p (pN p)),its 114 (pRs p (pM p)),exs (pXs p (min p.xn 2)),.nilsl]),(62,.cells 0 [.str [107],.sl 97 0 0 (pT p i).length 2,.int .i64 (p.bd.tmod 8)]),(97,.cells 0 ((pT p i).flatMap teC))])
    (fun i=>i<=pN p) (fun i=>pN p-i) 0 8 300
    (fun _:Unit=>[(2,.ptr 51 0 0),(3,.ptr 52 0 0),(15,.ptr 62 0 0)])
    (fun _=>[(51,.cells 0 [.nilsl,.nilsl,.nilsl,.nilsl,.nilsl]),(52,.cells 0 [evsV (fun i=>evOf ((p.L.take 5).getD i 0)),its 99 (pCs p (pN p)),its 114 (pRs p (pM p)),exs (pXs p (min p.xn 2)),.nilsl]),(62,.cells 0 [.str [107],.sl 97 0 0 (pT p (pN p)).length 2,.int .i64 (p.bd.tmod 8)]),(97,.cells 0 ((pT p (pN p)).flatMap teC))]) (fun _=>True) ?_ (Nat.zero_le _) ?_ ?_
  · refine ⟨[(50, .blk 50 0), (51, .blk 51 0), (52, .blk 52 0), (62, .blk 205 0), (97, .nil)], rfl, au0, ?_, au15⟩
    exact RB.cells rfl rfl gg (RnL.same hnr) (RB.cells rfl rfl gg (RnL.same rfl) (RB.cells rfl rfl gg (RnL.cons (Rn.same rfl) (RnL.cons (Rn.same (Qas _)) (RnL.cons (Rn.same (Qas _)) (RnL.cons (Rn.same (Qbj _)) (RnL.same rfl))))) (RB.cells rfl rfl gg (RnL.cons (Rn.same rfl) (RnL.cons (Rn.x4 rfl rfl) (RnL.same rfl))) (RB.newnil rfl rfl RB.nil))))
  · rintro i hi
    have htl:=@QcI (pT p i)
    have htx:=@Qku p i
    by_cases hlt:i<pN p
    · have hi3 : (i : Int) < 3 := by omega
      have ha:=aF i (by omega)
      have hFb: -128<=pF p i/\pF p i<128:=pF_lt h i
      have hsuc:pT p (i+1)=if pF p i=0 then pT p i else pT p i++[(i,(pF p i).tmod 4)]:=rfl
      by_cases h0:pF p i=0
      · rw [if_pos h0] at hsuc
        simp(disch:=first|omega|(simp only[lenW]<;>omega)) only[hlt,hi3,hlen,ha,h0,Bool.not_eq_true,wW,wV,simprocAttr]
        refine⟨i+1,by omega,by omega,?_⟩
        rw[hsuc]
        refine⟨[(50,.blk 50 0),(51,.blk 51 0),(52,.blk 52 0),(62,.blk 62 0),(97,.blk 97 0)],rfl,au0,?_,au15⟩
        exact RB.cells rfl rfl gg (RnL.same hnr) (RB.cells rfl rfl gg (RnL.same rfl) (RB.cells rfl rfl gg (RnL.cons (Rn.same rfl) (RnL.cons (Rn.same (Qas _)) (RnL.cons (Rn.same (Qas _)) (RnL.cons (Rn.same (Qbj _)) (RnL.same rfl))))) (RB.cells rfl rfl gg (RnL.cons (Rn.same rfl) (RnL.cons (Rn.x1 rfl rfl) (RnL.same rfl))) (RB.cells rfl rfl gg (RnL.same (QaL _)) RB.nil))))
      · rw [if_neg h0] at hsuc
        have hte1:List.flatMap teC [(i,(pF p i).tmod 4)]=[.int .i64 (i:Int),.int .i64 ((pF p i).tmod 4)]:=rfl
        simp(disch:=first|omega|(simp only[lenW]<;>omega)) only[hlt,hi3,hlen,ha,h0,htl,Bool.not_eq_true,wW,wV,simprocAttr]
        refine⟨i+1,by omega,by omega,?_⟩
        rw[hsuc,List.flatMap_append,List.length_append,hte1]
        refine⟨[(50,.blk 50 0),(51,.blk 51 0),(52,.blk 52 0),(62,.blk 62 0),(97,.blk 97 1)],rfl,au0,?_,au15⟩
        exact RB.cells rfl rfl gg (RnL.same hnr) (RB.cells rfl rfl gg (RnL.same rfl) (RB.cells rfl rfl gg (RnL.cons (Rn.same rfl) (RnL.cons (Rn.same (Qas _)) (RnL.cons (Rn.same (Qas _)) (RnL.cons (Rn.same (Qbj _)) (RnL.same rfl))))) (RB.cells rfl rfl gg (RnL.cons (Rn.same rfl) (RnL.cons (Rn.x1 rfl rfl) (RnL.same rfl))) (RB.cells rfl rfl gg (RnL.same (Qao (QaL _) rfl)) RB.nil))))
    · have e : i = pN p := by omega
      subst e
      simp(disch:=first|omega|(simp only[lenW]<;>omega)) only[hlt,Bool.not_eq_true,wW,wV,simprocAttr]
      refine⟨(),?_⟩
      refine⟨[(51,.blk 51 0),(52,.blk 52 0),(62,.blk 62 0),(97,.blk 97 0)],rfl,au0,?_,au15⟩
      exact RB.cells rfl rfl gg (RnL.same rfl) (RB.cells rfl rfl gg (RnL.cons (Rn.same rfl) (RnL.cons (Rn.same (Qas _)) (RnL.cons (Rn.same (Qas _)) (RnL.cons (Rn.same (Qbj _)) (RnL.same rfl))))) (RB.cells rfl rfl gg (RnL.cons (Rn.same rfl) (RnL.cons (Rn.x1 rfl rfl) (RnL.same rfl))) (RB.cells rfl rfl gg (RnL.same (QaL _)) RB.nil)))
  rintro _ _
  have hT0:flt0 (pT p (pN p))=pT0 p:=rfl
  have hpt:=@Qku p (pN p)
  simp(disch:=first|omega|(simp only[lenW]<;>omega)) only[Bool.not_eq_true,wW,wV,simprocAttr]
  refine chc (del93F (l:=pT p (pN p)) (by omega) gg) ?_
  rw[hT0]
  have htl0:(pT0 p).length<=3:=Nat.le_trans (List.length_filter_le _ _) (by omega)
  by_cases h0:0<(pT0 p).length
  · have hks : pKs p = [(pT0 p, p.bd.tmod 8)] := if_pos h0
    simp(disch:=first|omega|(simp only[lenW]<;>omega)) only[h0,Bool.not_eq_true,wW,wV,simprocAttr]
    refine⟨.inr trivial,_,rfl,?_⟩
    refine Rn.agg (RnL.cons (Rn.same rfl) (RnL.cons (Rn.same (Qas _)) (RnL.cons (Rn.same (Qas _)) (RnL.cons (Rn.same (Qbj _)) (RnL.cons ?_ RnL.nil)))))
    show Rn 0 π0 _ (cos (pKs p)) _
    rw[hks]
    exact Rn.fz0 (b:=310) rfl rfl (RnL.cons (Rn.same rfl) (RnL.cons (Rn.same (Qb4 _)) (RnL.cons (Rn.same rfl) RnL.nil)))
  · have hks : pKs p = [] := if_neg h0
    simp(disch:=first|omega|(simp only[lenW]<;>omega)) only[h0,Bool.not_eq_true,wW,wV,simprocAttr]
    refine⟨.inr trivial,_,rfl,?_⟩
    refine Rn.agg (RnL.cons (Rn.same rfl) (RnL.cons (Rn.same (Qas _)) (RnL.cons (Rn.same (Qas _)) (RnL.cons (Rn.same (Qbj _)) (RnL.cons ?_ RnL.nil)))))
    show Rn 0 π0 _ (cos (pKs p)) _
    rw[hks]
    exact Rn.nilK
end Go.AM.SU
namespace Go.AM.SN
open Go.Proofs Go.AM.SD Go.AM.SE Go.AM.SO
noncomputable section
def is0:AV->Bool| .int .i64 n=>decide (n=0)|_=>false
theorem Qq3:∀u,is0 u=true->u= .int .i64 0:=by
 intro u h
 unfold is0 at h
 split at h
 ·rename_i n;simp at h;rw[h]
 ·cases h
def nameR (s:List UInt8) (f:Nat) (X K:AV) (i:Int):Bool:=callR ansB noOrc SK.ft.get (exR ansB noOrc SK.ft.get 1000) (.c .pure) 102 [.str s,.fn f [] [.fptr [.any,X,K],.fptr [.int .i64 i]]] .e 64 (fun u _ _=>is0 u)
theorem Qpa {s:List UInt8} {f:Nat} {X K:AV} {i:Int} (h:nameR s f X K i=true):PSpec Tryz.prog 102 [.str s,.fn f [] [.fptr [.any,X,K],.fptr [.int .i64 i]]] (.int .i64 0):=
 Qbx (t:=SK.ft) SK.ft_ok QcS (d:=1000) is0 Qq3 h
theorem e0_1:nameR [101,48] 101 (.fsl [.str [101,48],.any] 1 2) .any 0=true:=by kernel_rfl
theorem e1_1:nameR [101,49] 101 (.fsl [.str [101,49],.any] 1 2) .any 0=true:=by kernel_rfl
theorem e0_2:nameR [101,48] 101 (.fsl [.str [101,48],.any,.str [101,49],.any] 2 2) .any 0=true:=by kernel_rfl
theorem e1_2a:nameR [101,49] 101 (.fsl [.str [101,48],.fsl [.any,.any] 1 2,.str [101,49],.any] 2 2) .any 1=true:=by kernel_rfl
theorem e1_2b:nameR [101,49] 101 (.fsl [.str [101,48],.fsl [.any,.any,.any,.any] 2 2,.str [101,49],.any] 2 2) .any 1=true:=by kernel_rfl
theorem e1_2c:nameR [101,49] 101 (.fsl [.str [101,48],.fsl [.any,.any,.any,.any,.any,.any] 3 2,.str [101,49],.any] 2 2) .any 1=true:=by kernel_rfl
theorem k_1:nameR [107] 104 .any (.fsl [.str [107],.any,.any] 1 3) 0=true:=by kernel_rfl
def Wk (x y:AV):Prop:=∀(ok:Okc) (c:Ctx ok) (w:World) (v:Value),VRel c w x v->VRel c w y v
def WkL:List AV->List AV->Prop
 |[],[]=>True
 |x::xs,y::ys=>Wk x y/\WkL xs ys
 |_,_=>False
theorem Wk.refl (x:AV):Wk x x:=fun _ _ _ _ h=>h
theorem Wk.any {x:AV}:Wk x .any:=fun _ _ _ _ _=>by simp[VRel]
theorem WkL.rels {ok:Okc} {c:Ctx ok} {w:World}:∀{xs ys:List AV} {vs:List Value},WkL xs ys->VRels c w xs vs->VRels c w ys vs
 |[],[],_,_,hv=>hv
 |[],_::_,_,h,_=>h.elim
 |_::_,[],_,h,_=>h.elim
 |x::xs,y::ys,vs,h,hv=>by
  simp only[VRels]at hv⊢
  obtain⟨v,vs',rfl,h1,h2⟩:=hv
  exact⟨v,vs',rfl,h.1 _ c w v h1,WkL.rels h.2 h2⟩
theorem WkL.pre {ok:Okc} {c:Ctx ok} {w:World}:∀{xs ys:List AV} {vs:List Value},WkL xs ys->VPre c w xs vs->VPre c w ys vs
 |[],[],_,_,hv=>hv
 |[],_::_,_,h,_=>h.elim
 |_::_,[],_,h,_=>h.elim
 |x::xs,y::ys,vs,h,hv=>by
  simp only[VPre]at hv⊢
  obtain⟨v,vs',rfl,h1,h2⟩:=hv
  exact⟨v,vs',rfl,h.1 _ c w v h1,WkL.pre h.2 h2⟩
theorem WkL.length:∀{xs ys:List AV},WkL xs ys->xs.length=ys.length
 |[],[],_=>rfl
 |[],_::_,h=>h.elim
 |_::_,[],h=>h.elim
 |x::xs,y::ys,h=>by simp[WkL.length h.2]
theorem Wk.fsl {cs ds:List AV} {len sz:Nat} (h:WkL cs ds):Wk (.fsl cs len sz) (.fsl ds len sz):=fun _ c w v hv=>by
 simp only[VRel]at hv⊢
 have hl:=h.length
 rcases hv with⟨h1,rfl,h2⟩|⟨cb,off,cap,C,e,fr,h1,h2,h3,h4,h5,h6⟩
 ·refine .inl ⟨h1, ?_, h2⟩
  exact List.eq_nil_of_length_eq_zero (by rw[<-hl];rfl)
 ·exact .inr ⟨cb,off,cap,C,e,fr,h1,h2,by omega,h4,h5,h.pre h6⟩
theorem Wk.fptr {cs ds:List AV} (h:WkL cs ds):Wk (.fptr cs) (.fptr ds):=fun _ c w v hv=>by
 simp only[VRel]at hv⊢
 obtain⟨cb,off,C,e,fr,h1,h2,h3,h4⟩:=hv
 exact⟨cb,off,C,e,fr,h1,h2,h3,h.pre h4⟩
theorem Wk.fn {f:Nat} {xs ys us vs:List AV} (h1:WkL xs ys) (h2:WkL us vs):Wk (.fn f xs us) (.fn f ys vs):=fun _ c w v hv=>by
 simp only[VRel]at hv⊢
 obtain⟨x',y',rfl,g1,g2⟩:=hv
 exact⟨x',y',rfl,h1.rels g1,h2.rels g2⟩
theorem PSpec.wk {f:Nat} {args bs:List AV} {v:AV} (hL:WkL args bs) (hn:noRefs args=true) (hp:PSpec Tryz.prog f bs v):PSpec Tryz.prog f args v:=SE.PSpec.weak (fun _ c w vs _ h=>hL.rels h) hn hp
theorem nameW {s:List UInt8} {f:Nat} {S X K X' K':AV} {i:Int} (h:nameR s f X' K' i=true) (hX:Wk X X') (hK:Wk K K') (hn:noRefs [S,X,K]=true):PSpec Tryz.prog 102 [.str s,.fn f [] [.fptr [S,X,K],.fptr [.int .i64 i]]] (.int .i64 0):=by
 refine PSpec.wk (bs:=[.str s,.fn f [] [.fptr [.any,X',K'],.fptr [.int .i64 i]]]) ⟨Wk.refl _,Wk.fn trivial ⟨Wk.fptr ⟨Wk.any,hX,hK,trivial⟩,Wk.refl _,trivial⟩,trivial⟩ ?_ (Qpa h)
 simp only[noRefs,noRef,Bool.and_true,Bool.true_and]at hn⊢
 exact hn
theorem nameX {S K:AV} {xs:List (Nat×List (Nat×Nat))} {i:Nat} {x:Nat×List (Nat×Nat)} (hx:xs[i]?=some x) (h2:xs.length<=2) (hs:(xs.map (·.1)).Pairwise (· < ·)) (hl:∀x∈xs,x.1<2) (hne:∀x∈xs,x.2≠[]/\x.2.length<=3) (hn:noRefs [S,exs xs,K]=true):
  PSpec Tryz.prog 102 [.str [101,UInt8.ofNat (48+x.1)],.fn 101 [] [.fptr [S,exs xs,K],.fptr [.int .i64 (i:Int)]]] (.int .i64 0):=by
 match xs,h2 with
 |[],_=>simp at hx
 | [(a, la)], _ =>
  have hi:i=0:=by
   rcases Nat.eq_zero_or_pos i with h|h
   ·exact h
   ·rw[List.getElem?_eq_none (by simp;omega)]at hx;cases hx
  subst hi
  simp at hx;subst hx
  have ha:=hl (a,la) (by simp)
  have:a=0\/a=1:=by dsimp only at ha;omega
  rcases this with rfl|rfl
  ·exact nameW e0_1 (Wk.fsl ⟨Wk.refl _,Wk.any,trivial⟩) Wk.any hn
  ·exact nameW e1_1 (Wk.fsl ⟨Wk.refl _,Wk.any,trivial⟩) Wk.any hn
 | [(a, la), (b, lb)], _ =>
  have ha:=hl (a,la) (by simp)
  have hb:=hl (b,lb) (by simp)
  have hab:a<b:=by simpa using hs
  dsimp only at ha hb
  obtain rfl:a=0:=by omega
  obtain rfl:b=1:=by omega
  have hi:i=0\/i=1:=by
   rcases Nat.lt_or_ge i 2 with h|h
   ·omega
   ·rw[List.getElem?_eq_none (by simp;omega)]at hx;cases hx
  rcases hi with rfl|rfl
  ·simp at hx; subst hx
   exact nameW e0_2 (Wk.fsl ⟨Wk.refl _,Wk.any,Wk.refl _,Wk.any,trivial⟩) Wk.any hn
  ·simp at hx; subst hx
   obtain⟨h3,h4⟩:=hne (0,la) (by simp)
   match la,h3,h4 with
   |[],h,_=>exact absurd rfl h
   |[p],_,_=>exact nameW e1_2a (Wk.fsl ⟨Wk.refl _,Wk.fsl ⟨Wk.any,Wk.any,trivial⟩,Wk.refl _,Wk.any,trivial⟩) Wk.any hn
   |[p,q],_,_=>exact nameW e1_2b (Wk.fsl ⟨Wk.refl _,Wk.fsl ⟨Wk.any,Wk.any,Wk.any,Wk.any,trivial⟩,Wk.refl _,Wk.any,trivial⟩) Wk.any hn
   |[p,q,r],_,_=>exact nameW e1_2c (Wk.fsl ⟨Wk.refl _,Wk.fsl ⟨Wk.any,Wk.any,Wk.any,Wk.any,Wk.any,Wk.any,trivial⟩,Wk.refl _,Wk.any,trivial⟩) Wk.any hn
theorem nameK {S X:AV} {ks:List (List (Nat×Int)×Int)} {x:List (Nat×Int)×Int} (hx:ks=[x]) (hn:noRefs [S,X,cos ks]=true):
  PSpec Tryz.prog 102 [.str [107],.fn 104 [] [.fptr [S,X,cos ks],.fptr [.int .i64 0]]] (.int .i64 0):=by
 subst hx
 exact nameW k_1 Wk.any (Wk.fsl ⟨Wk.refl _,Wk.any,Wk.any,trivial⟩) hn
end
end Go.AM.SN
namespace Go.AM.SO
open Go.Proofs Go.AM.SD Go.AM.SE
theorem great190 (n:Int) (h1: -65536<=n) (h2:n<=65536):PSpec Tryz.prog 190 [.int .i64 n] (.bool false):=by
 refine PSpec.Qan 64 ok190 rfl rfl rfl ?_
 have g1:¬n< -65536:=by omega
 have g2:¬65536<n:=by omega
 simp(disch:=first|omega|(simp only[lenW]<;>omega)) only[s190,g1,g2,wV,simprocAttr]
 exact⟨.inr trivial,_,rfl,rfl⟩
abbrev cdC (S:List Nat) (xs:List (Nat×List (Nat×Nat))) (ks:List (List (Nat×Int)×Int)):List AV:=[sliN S,exs xs,cos ks]
abbrev cdV (S:List Nat) (xs:List (Nat×List (Nat×Nat))) (ks:List (List (Nat×Int)×Int)):AV:= .agg (cdC S xs ks)
theorem QbB {S:List Nat} {xs:List (Nat×List (Nat×Nat))} {ks:List (List (Nat×Int)×Int)}:noRefs (cdC S xs ks)=true:=by
 rw[cdC,noRefs,noRefs,noRefs,Qab,SU.Qbj,SU.QiU];rfl
theorem QhT {l:List (Nat×Nat)} {i:Nat} {x:Nat×Nat} (h:l[i]?=some x):(l.flatMap loC).drop (i*2)= .int .i64 (x.1:Int):: .int .i64 (x.2:Int)::(l.drop (i+1)).flatMap loC:=Qbz (f:=loC) (k:=2) (fun _=>rfl) h
theorem pw_at {l:List Nat} (h:l.Pairwise (· < ·)) {i:Nat} {x y:Nat} (hx:l[i]?=some x) (hy:l[i+1]?=some y):x<y:=by
 have hi:i+1<l.length:=by
  rcases Nat.lt_or_ge (i+1) l.length with h|h
  ·exact h
  ·rw[List.getElem?_eq_none h]at hy;cases hy
 rw[List.getElem?_eq_getElem (by omega)]at hx
 rw[List.getElem?_eq_getElem hi]at hy
 cases hx;cases hy
 exact List.pairwise_iff_getElem.1 h i (i+1) (by omega) hi (Nat.lt_succ_self _)
theorem _root_.Go.AM.au16 {p:Prop} (h:p:=by repeat (first|exact RT.nil|(refine RT.cons ?_ ?_; · (first|exact Rn.any|exact Rn.x1 rfl rfl|exact Rn.x2 rfl rfl|exact Rn.x3 rfl rfl|exact Rn.x4 rfl rfl|exact Rn.x5 rfl|exact Rn.x6 rfl|exact Rn.x7 rfl|(refine Rn.slot ?_ ?_;(first|rfl|(rw[Int.natCast_add];rfl));(first|rfl|(simp only[noRef,noRefs,Qah,Bool.and_self,Bool.and_true,Bool.true_and,Qac,Qau,Qab,SU.Qbc,SU.QaL,SU.Qbb,SU.Qa6,SU.Qcw];done)))|(refine Rn.fn ?_ ?_<;>(repeat' (first|exact RnL.nil|refine RnL.cons ?_ ?_|exact Rn.same rfl|exact Rn.x6 rfl|exact Rn.x2 rfl rfl|exact Rn.x5 rfl|exact Rn.x1 rfl rfl))))))):p:=h
theorem excl103 (S:List Nat) (xs:List (Nat×List (Nat×Nat))) (ks:List (List (Nat×Int)×Int)) (x:Nat×List (Nat×Nat)) (hS:S.length<=8) (hS3:∀s∈S,s<=4096) (hl:x.2.length<=1000) (hne:x.2≠[]) (hp:(x.2.map (·.1)).Pairwise (· < ·)) (hs:∀l∈x.2,∃n,S[l.1]?=some n/\l.2<n):
    PSpec Tryz.prog 103 [cdV S xs ks,.agg (exC x)] (.int .i64 0):=by
  obtain⟨nm,l⟩:=x
  dsimp only at hl hne hp hs
  have hex:exC (nm,l)=[.str [101,UInt8.ofNat (48+nm)],los l]:=rfl
  rw[hex]
  have hnr1:=@QbB S xs ks
  have hnr2:noRefs [.str [101,UInt8.ofNat (48+nm)],los l]=true:=by rw[noRefs,noRefs,SU.QbL];rfl
  refine PSpec.Qan 64 ok103 rfl (by rw[noRefs,noRefs,noRef,noRef,hnr1,hnr2];rfl) rfl ?_
  have hl0:¬(l.length:Int)=0:=by
    have:=List.length_pos_iff.2 hne
    omega
  have hll:=SU.Qfu l
  simp(disch:=first|omega|(simp only[lenW]<;>omega)) only[s103,hl0,wV,simprocAttr]
  refine QaH 100 (fun i:Nat=>[(2,.ptr 50 0 0),(3,.ptr 51 0 0),(12,los l),(13,.int .i64 l.length),(14,.int .i64 i)]) (fun _=>[(50,.cells 0 (cdC S xs ks)),(51,.cells 0 [.str [101,UInt8.ofNat (48+nm)],los l])]) (fun i=>i<=l.length) (fun i=>l.length-i) 0 ⟨[(50,.blk 64 0),(51,.blk 65 0)],rfl,au0,?_,au16⟩ (Nat.zero_le _) ?_
  · exact RB.cells rfl rfl gg (RnL.same hnr1) (RB.cells rfl rfl gg (RnL.same hnr2) RB.nil)
  rintro i hi
  by_cases hlt:i<l.length
  · obtain ⟨⟨c, s⟩, hcs⟩ := Qai hlt
    obtain⟨n,hn,hsn⟩:=hs _ (List.mem_of_getElem? hcs)
    dsimp only at hn hsn
    have hcl:c<S.length:=by
      rcases Nat.lt_or_ge c S.length with h|h
      · exact h
      · rw[List.getElem?_eq_none h]at hn;cases hn
    have hn4:=hS3 n (List.mem_of_getElem? hn)
    have hdr:=QhT hcs
    have hdl:2<=((l.flatMap loC).drop (i*2)).length:=by rw[hdr];simp
    have h1:¬(c:Int)<0:=by omega
    have h2:¬(S.length:Int)<=(c:Int):=by omega
    have h3:¬(s:Int)<0:=by omega
    have h4:¬(n:Int)<=(s:Int):=by omega
    cases i with
    | zero =>
      have h0:¬(0:Int)<((0:Nat):Int):=by omega
      simp(disch:=first|omega|(simp only[lenW]<;>omega)) only[hlt,hdr,hdl,h0,h1,h2,h3,h4,QaB hn,hcl,wV,simprocAttr]
      refine⟨1,by omega,by omega,?_⟩
      refine⟨[(50,.blk 50 0),(51,.blk 51 0)],rfl,au0,?_,au16⟩
      exact RB.cells rfl rfl gg (RnL.same hnr1) (RB.cells rfl rfl gg (RnL.same hnr2) RB.nil)
    | succ j =>
      obtain⟨⟨c',s'⟩,hcs'⟩:=Qai (l:=l) (i:=j) (by omega)
      have hdr':=QhT hcs'
      have hcc:c'<c:=pw_at hp (i:=j) (by rw[List.getElem?_map,hcs'];rfl) (by rw[List.getElem?_map,hcs];rfl)
      have h0:(0:Int)<((j+1:Nat):Int):=by omega
      have h5:¬(c:Int)<=(c':Int):=by omega
      have h6:((j+1:Nat):Int)-1=(j:Int):=by omega
      have h7:j<l.length:=by omega
      have hle:((j+1:Nat):Int)<(l.length:Int):=by omega
      have hJt:((j+1:Nat):Int).toNat=j+1:=by omega
      have hJ2:0<=((j+1:Nat):Int):=by omega
      generalize hJJ:((j+1:Nat):Int)=J at*
      simp(disch:=first|omega|(simp only[lenW]<;>omega)) only[hlt,hle,hJt,hJ2,hdr,hdr',hdl,h0,h1,h2,h3,h4,h5,h6,h7,QaB hn,hcl,wV,simprocAttr]
      refine⟨j+2,by omega,by omega,?_⟩
      have hJ3:J+1=((j+2:Nat):Int):=by omega
      rw[hJ3]
      refine⟨[(50,.blk 50 0),(51,.blk 51 0)],rfl,au0,?_,au16⟩
      exact RB.cells rfl rfl gg (RnL.same hnr1) (RB.cells rfl rfl gg (RnL.same hnr2) RB.nil)
  · simp (disch := first | omega | (simp only [lenW] <;> omega)) only [hlt, wV, simprocAttr]
    exact⟨.inr trivial,_,rfl,rfl⟩
theorem cons105 (S:List Nat) (xs:List (Nat×List (Nat×Nat))) (ks:List (List (Nat×Int)×Int)) (x:List (Nat×Int)×Int) (hS:S.length<=8) (hl:x.1.length<=1000) (hne:x.1≠[]) (hp:(x.1.map (·.1)).Pairwise (· < ·)) (hs:∀l∈x.1,l.1<S.length/\l.2≠0/\ -65536<=l.2/\l.2<=65536) (hb: -65536<=x.2/\x.2<=65536):
    PSpec Tryz.prog 105 [cdV S xs ks,.agg (coC x)] (.int .i64 0):=by
  obtain⟨l,bd⟩:=x
  dsimp only at hl hne hp hs hb
  have hex:coC (l,bd)=[.str [107],tes l,.int .i64 bd]:=rfl
  rw[hex]
  have hnr1:=@QbB S xs ks
  have hnr2:noRefs [.str [107],tes l,.int .i64 bd]=true:=by rw[noRefs,noRefs,SU.Qb4];rfl
  refine PSpec.Qan 64 ok105 rfl (by rw[noRefs,noRefs,noRef,noRef,hnr1,hnr2];rfl) rfl ?_
  have hl0:¬(l.length:Int)=0:=by
    have:=List.length_pos_iff.2 hne
    omega
  have hll:=SU.QcI l
  have hgb:=great190 bd hb.1 hb.2
  simp(disch:=first|omega|(simp only[lenW]<;>omega)) only[s105,hl0,wV,simprocAttr]
  refine QaH 100 (fun i:Nat=>[(2,.ptr 50 0 0),(3,.ptr 51 0 0),(12,tes l),(13,.int .i64 l.length),(14,.int .i64 i)]) (fun _=>[(50,.cells 0 (cdC S xs ks)),(51,.cells 0 [.str [107],tes l,.int .i64 bd])]) (fun i=>i<=l.length) (fun i=>l.length-i) 0 ⟨[(50,.blk 64 0),(51,.blk 65 0)],rfl,au0,?_,au16⟩ (Nat.zero_le _) ?_
  · exact RB.cells rfl rfl gg (RnL.same hnr1) (RB.cells rfl rfl gg (RnL.same hnr2) RB.nil)
  rintro i hi
  by_cases hlt:i<l.length
  · obtain ⟨⟨c, s⟩, hcs⟩ := Qai hlt
    obtain⟨hcl,hs0,hsa,hsb⟩:=hs _ (List.mem_of_getElem? hcs)
    dsimp only at hcl hs0 hsa hsb
    have hdr:=SU.QcX hcs
    have hdl:2<=((l.flatMap teC).drop (i*2)).length:=by rw[hdr];simp
    have h1:¬(c:Int)<0:=by omega
    have h2:¬(S.length:Int)<=(c:Int):=by omega
    have hgs:=great190 s hsa hsb
    cases i with
    | zero =>
      have h0:¬(0:Int)<((0:Nat):Int):=by omega
      simp(disch:=first|omega|(simp only[lenW]<;>omega)) only[hlt,hdr,hdl,h0,h1,h2,hs0,wV,simprocAttr]
      refine cp hgs ?_
      simp(disch:=first|omega|(simp only[lenW]<;>omega)) only[wV,simprocAttr]
      refine⟨1,by omega,by omega,?_⟩
      refine⟨[(50,.blk 50 0),(51,.blk 51 0)],rfl,au0,?_,au16⟩
      exact RB.cells rfl rfl gg (RnL.same hnr1) (RB.cells rfl rfl gg (RnL.same hnr2) RB.nil)
    | succ j =>
      obtain⟨⟨c',s'⟩,hcs'⟩:=Qai (l:=l) (i:=j) (by omega)
      have hdr':=SU.QcX hcs'
      have hcc:c'<c:=pw_at hp (i:=j) (by rw[List.getElem?_map,hcs'];rfl) (by rw[List.getElem?_map,hcs];rfl)
      have h0:(0:Int)<((j+1:Nat):Int):=by omega
      have h5:¬(c:Int)<=(c':Int):=by omega
      have h6:((j+1:Nat):Int)-1=(j:Int):=by omega
      have h7:j<l.length:=by omega
      have hle:((j+1:Nat):Int)<(l.length:Int):=by omega
      have hJt:((j+1:Nat):Int).toNat=j+1:=by omega
      have hJ2:0<=((j+1:Nat):Int):=by omega
      generalize hJJ:((j+1:Nat):Int)=J at*
      simp(disch:=first|omega|(simp only[lenW]<;>omega)) only[hlt,hle,hJt,hJ2,hdr,hdr',hdl,h0,h1,h2,hs0,h5,h6,h7,wV,simprocAttr]
      refine cp hgs ?_
      simp(disch:=first|omega|(simp only[lenW]<;>omega)) only[wV,simprocAttr]
      refine⟨j+2,by omega,by omega,?_⟩
      have hJ3:J+1=((j+2:Nat):Int):=by omega
      rw[hJ3]
      refine⟨[(50,.blk 50 0),(51,.blk 51 0)],rfl,au0,?_,au16⟩
      exact RB.cells rfl rfl gg (RnL.same hnr1) (RB.cells rfl rfl gg (RnL.same hnr2) RB.nil)
  · simp (disch := first | omega | (simp only [lenW] <;> omega)) only [hlt, wV, simprocAttr]
    refine cp hgb ?_
    simp(disch:=first|omega|(simp only[lenW]<;>omega)) only[wV,simprocAttr]
    exact⟨.inr trivial,_,rfl,rfl⟩
end Go.AM.SO
namespace Go.AM.SQ
open Go.Proofs
set_option maxHeartbeats 4000000
noncomputable section
def cf:YA.Cf:={most:= .pure,always:=[102].map fun k=>(k,.heap)}
def s32:SFn:=by
 refine(?f:YA.Yt Tryz.prog cf 32 [[0,2],[15,16,17],[1,18],[2,18,19],[],[23,24,25],[4,26,27,28],[1,20,21,22,30,29,41,40,39,38,31],[2,31,32],[20,21,22,30,29,41,40,39,38,33,34,35,36,37],[1,42],[2,42,43],[],[47,48,49,50],[5,51],[7,52,53,54,55],[56],[1,44,45,46,6,8,57,58],[2,6,8,57,59,60,61],[62],[1,44,45,46,9,63,64],[2,9,63,65],[44,45,46,66],[],[70,71,72,73],[10,74],[12,75,76,77,78],[79],[1,67,68,69,11,13,80,81],[2,11,13,80,82,83,84],[85],[1,67,68,69,14,86,87],[2,14,86,88],[1,67,68,69]]) ?s ?h
 case h=>conv=>lhs;reduce;simp only[Int.reduceOfNat,Int.reduceNegSucc,YA.u8e,UInt8.reduceOfNat]
 case f=>exact fun s _=>s
theorem ok32:okFn Tryz.prog 32 s32=true:=by kernel_rfl
end
end Go.AM.SQ
namespace Go.AM.SO
open Go.Proofs Go.AM.SD Go.AM.SE
def szs (c:Cel):List Nat:=c.cs.map (·.2.n)
theorem WfCel.comp {c:Cel} (h:WfCel c) {x:Nat×List (Nat×Nat)} (hx:x∈c.xs):∀l∈x.2,∃n,(szs c)[l.1]?=some n/\l.2<n:=fun l hl=>by
 obtain⟨y,h1,h2⟩:=(h.xl x hx).2.2 l hl
 exact⟨y.2.n,by unfold szs;rw[List.getElem?_map,h1];rfl,h2⟩
theorem WfCel.xlen {c:Cel} (h:WfCel c) {x:Nat×List (Nat×Nat)} (hx:x∈c.xs):x.2.length<=3:=by
  have h1:=QaV c.cs.length (x.2.map (·.1)) (by rw[List.nodup_iff_pairwise_ne];exact(h.xl x hx).2.1.imp fun h=>by omega) (fun y hy=>by
    obtain⟨l,hl,rfl⟩:=List.mem_map.1 hy
    obtain⟨z,h1,_⟩:=(h.xl x hx).2.2 l hl
    rcases Nat.lt_or_ge l.1 c.cs.length with h|h
    · exact h
    · rw[List.getElem?_eq_none h]at h1;cases h1)
  rw[List.length_map]at h1
  exact Nat.le_trans h1 h.c3
theorem WfCel.klen {c:Cel} (h:WfCel c) {x:List (Nat×Int)×Int} (hx:x∈c.ks):x.1.length<=3:=by
  have h1:=QaV c.cs.length (x.1.map (·.1)) (by rw[List.nodup_iff_pairwise_ne];exact(h.kl x hx).2.1.imp fun h=>by omega) (fun y hy=>by
    obtain⟨l,hl,rfl⟩:=List.mem_map.1 hy
    exact((h.kl x hx).2.2.1 l hl).1)
  rw[List.length_map]at h1
  exact Nat.le_trans h1 h.c3
theorem WfCel.slen {c:Cel} (h:WfCel c):(szs c).length=c.cs.length:=by simp[szs]
theorem WfCel.sz {c:Cel} (h:WfCel c):∀s∈szs c,1<=s/\s<=3:=fun s hs=>by
 obtain⟨x,hx,rfl⟩:=List.mem_map.1 hs
 exact⟨(h.ca x hx).pos,(h.ca x hx).n3⟩
theorem QhU {l:List (Nat×List (Nat×Nat))} {i:Nat} {x:Nat×List (Nat×Nat)} (h:l[i]?=some x):(l.flatMap exC).drop (i*2)= .str [101,UInt8.ofNat (48+x.1)]::los x.2::(l.drop (i+1)).flatMap exC:=Qbz (f:=exC) (k:=2) (fun _=>rfl) h
theorem QhV {l:List (List (Nat×Int)×Int)} {i:Nat} {x:List (Nat×Int)×Int} (h:l[i]?=some x):(l.flatMap coC).drop (i*3)= .str [107]::tes x.1:: .int .i64 x.2::(l.drop (i+1)).flatMap coC:=Qbz (f:=coC) (k:=3) (fun _=>rfl) h
theorem Qfv (l:List (List (Nat×Int)×Int)):(l.flatMap coC).length=l.length*3:=Qbq (k:=3) (fun _=>rfl) l
theorem conds32 (c:Cel) (h:WfCel c):PSpec Tryz.prog 32 [cdV (szs c) c.xs c.ks] (.int .i64 0):=by
  have hnr:=@QbB (szs c) c.xs c.ks
  refine PSpec.Qan 64 SQ.ok32 rfl (by rw[noRefs,noRef,hnr];rfl) rfl ?_
  have hsl:=h.slen
  have hc3:=h.c3
  have hx2:=h.x2
  have hk1:=h.k1
  have g1:¬(8:Int)<((szs c).length:Int):=by omega
  have g2:¬(32:Int)<(c.xs.length:Int):=by omega
  have g3:¬(32:Int)<(c.ks.length:Int):=by omega
  have hxn:∀x∈c.xs,x.2≠[]/\x.2.length<=3:=fun x hx=>⟨(h.xl x hx).1,h.xlen hx⟩
  simp(disch:=first|omega|(simp only[lenW]<;>omega)) only[SQ.s32,g1,wW,wV,simprocAttr]
  refine Qap 100 (fun i:Nat=>[(1,.ptr 50 0 0),(20,sliN (szs c)),(21,.int .i64 (szs c).length),(22,.int .i64 i)]) (fun _=>[(50,.cells 0 (cdC (szs c) c.xs c.ks))]) (fun i=>i<=(szs c).length) (fun i=>(szs c).length-i) 0 0 140
    (fun _:Unit=>[(1,.ptr 50 0 0)]) (fun _=>[(50,.cells 0 (cdC (szs c) c.xs c.ks))]) (fun _=>True) ⟨[(50,.blk 64 0)],rfl,au0,?_,au16⟩ (Nat.zero_le _) ?_ ?_
  · exact RB.cells rfl rfl gg (RnL.same hnr) RB.nil
  · rintro i hi
    by_cases hlt:i<(szs c).length
    · obtain ⟨s, hs⟩ := Qai hlt
      obtain⟨hs1,hs3⟩:=h.sz s (List.mem_of_getElem? hs)
      have q1:¬(s:Int)<1:=by omega
      have q2:¬(4096:Int)<(s:Int):=by omega
      simp(disch:=first|omega|(simp only[lenW]<;>omega)) only[hlt,QaB hs,q1,q2,wW,wV,simprocAttr]
      refine⟨i+1,by omega,by omega,?_⟩
      refine⟨[(50,.blk 50 0)],rfl,au0,?_,au16⟩
      exact RB.cells rfl rfl gg (RnL.same hnr) RB.nil
    · simp (disch := first | omega | (simp only [lenW] <;> omega)) only [hlt, wW, wV, simprocAttr]
      refine⟨(),?_⟩
      refine⟨[(50,.blk 50 0)],rfl,au0,?_,au16⟩
      exact RB.cells rfl rfl gg (RnL.same hnr) RB.nil
  rintro _ _
  simp(disch:=first|omega|(simp only[lenW]<;>omega)) only[g2,g3,wW,wV,simprocAttr]
  refine Qap 200 (fun i:Nat=>[(1,.ptr 50 0 0),(44,exs c.xs),(45,.int .i64 c.xs.length),(46,.int .i64 i)]) (fun _=>[(50,.cells 0 (cdC (szs c) c.xs c.ks))]) (fun i=>i<=c.xs.length) (fun i=>c.xs.length-i) 0 2 240
    (fun _:Unit=>[(1,.ptr 50 0 0)]) (fun _=>[(50,.cells 0 (cdC (szs c) c.xs c.ks))]) (fun _=>True) ⟨[(50,.blk 50 0)],rfl,au0,?_,au16⟩ (Nat.zero_le _) ?_ ?_
  · exact RB.cells rfl rfl gg (RnL.same hnr) RB.nil
  · rintro i hi
    by_cases hlt:i<c.xs.length
    · obtain ⟨x, hx⟩ := Qai hlt
      have hxm:=List.mem_of_getElem? hx
      have hdr:=QhU hx
      have hdl:2<=((c.xs.flatMap exC).drop (i*2)).length:=by rw[hdr];simp
      have hN:=SN.nameX hx hx2 h.xn.1 h.xn.2 hxn hnr
      have hE:=excl103 (szs c) c.xs c.ks x (by omega) (fun s hs=>by have:=h.sz s hs;omega) (by have:=h.xlen hxm;omega) (h.xl x hxm).1 (h.xl x hxm).2.1 (h.comp hxm)
      have hex:exC x=[.str [101,UInt8.ofNat (48+x.1)],los x.2]:=rfl
      rw[hex]at hE
      simp(disch:=first|omega|(simp only[lenW]<;>omega)) only[hlt,hdr,hdl,wW,wV,simprocAttr]
      refine SU.chc (HSpec.lend (FrzL.cons (FrzTo.same _) (FrzL.cons (FrzTo.fn FrzL.nil (FrzL.cons (FrzTo.ptr (g:=0) (cs:=cdC (szs c) c.xs c.ks) gg (FrzL.same _)) (FrzL.cons (FrzTo.ptr (g:=0) (cs:=[.int .i64 (i:Int)]) gg (FrzL.same _)) FrzL.nil))) FrzL.nil)) hN rfl) ?_
      simp(disch:=first|omega|(simp only[lenW]<;>omega)) only[wW,wV,simprocAttr]
      refine cp hE ?_
      simp(disch:=first|omega|(simp only[lenW]<;>omega)) only[wW,wV,simprocAttr]
      refine⟨i+1,by omega,by omega,?_⟩
      refine⟨[(50,.blk 50 0)],rfl,au0,?_,au16⟩
      exact RB.cells rfl rfl gg (RnL.same hnr) RB.nil
    · simp (disch := first | omega | (simp only [lenW] <;> omega)) only [hlt, wW, wV, simprocAttr]
      refine⟨(),?_⟩
      refine⟨[(50,.blk 50 0)],rfl,au0,?_,au16⟩
      exact RB.cells rfl rfl gg (RnL.same hnr) RB.nil
  rintro _ _
  simp(disch:=first|omega|(simp only[lenW]<;>omega)) only[wW,wV,simprocAttr]
  refine QaH 300 (fun i:Nat=>[(1,.ptr 50 0 0),(67,cos c.ks),(68,.int .i64 c.ks.length),(69,.int .i64 i)]) (fun _=>[(50,.cells 0 (cdC (szs c) c.xs c.ks))]) (fun i=>i<=c.ks.length) (fun i=>c.ks.length-i) 0 ⟨[(50,.blk 50 0)],rfl,au0,?_,au16⟩ (Nat.zero_le _) ?_
  · exact RB.cells rfl rfl gg (RnL.same hnr) RB.nil
  rintro i hi
  by_cases hlt:i<c.ks.length
  · obtain ⟨x, hx⟩ := Qai hlt
    have hi0:i=0:=by omega
    subst hi0
    have hxm:=List.mem_of_getElem? hx
    have hdr:=QhV hx
    rw[Nat.zero_mul]at hdr
    have hdl:3<=(c.ks.flatMap coC).length:=by rw[Qfv];omega
    have hks:c.ks=[x]:=by
      match hk:c.ks,hx,hk1 with
      |[y],hx,_=>simp at hx;rw[hx]
    have hN:=SN.nameK (S:=sliN (szs c)) (X:=exs c.xs) hks hnr
    obtain⟨k1,k2,k3,k4,k5⟩:=h.kl x hxm
    have hE:=cons105 (szs c) c.xs c.ks x (by omega) (by have:=h.klen hxm;omega) k1 k2 (fun l hl=>by obtain⟨q1,q2,q3,q4⟩:=k3 l hl;exact⟨by omega,q2,by omega,by omega⟩) ⟨by omega,by omega⟩
    have hex:coC x=[.str [107],tes x.1,.int .i64 x.2]:=rfl
    rw[hex]at hE
    have hlt0:(0:Int)<(c.ks.length:Int):=by omega
    rw[List.drop_zero]at hdr
    have htk:List.take 3 (c.ks.flatMap coC)=[.str [107],tes x.1,.int .i64 x.2]:=by rw[hdr];rfl
    simp(disch:=first|omega|(simp only[lenW]<;>omega)) only[hlt,hlt0,htk,hdl,wW,wV,simprocAttr]
    refine SU.chc (HSpec.lend (FrzL.cons (FrzTo.same _) (FrzL.cons (FrzTo.fn FrzL.nil (FrzL.cons (FrzTo.ptr (g:=0) (cs:=cdC (szs c) c.xs c.ks) gg (FrzL.same _)) (FrzL.cons (FrzTo.ptr (g:=0) (cs:=[.int .i64 0]) gg (FrzL.same _)) FrzL.nil))) FrzL.nil)) hN rfl) ?_
    simp(disch:=first|omega|(simp only[lenW]<;>omega)) only[wW,wV,simprocAttr]
    refine cp hE ?_
    simp(disch:=first|omega|(simp only[lenW]<;>omega)) only[wW,wV,simprocAttr]
    refine⟨1,by omega,by omega,?_⟩
    refine⟨[(50,.blk 50 0)],rfl,au0,?_,au16⟩
    exact RB.cells rfl rfl gg (RnL.same hnr) RB.nil
  · simp (disch := first | omega | (simp only [lenW] <;> omega)) only [hlt, wW, wV, simprocAttr]
    exact⟨.inr trivial,_,rfl,rfl⟩
end Go.AM.SO
namespace Go.AM.SO
open Go.Proofs Go.AM.SD Go.AM.SE
theorem QeL {α:Type} {f:α->List AV} (hf:∀x,(f x).all AV.one=true):∀l:List α,(l.flatMap f).all AV.one=true
 |[]=>rfl
 |x::l=>by rw[List.flatMap_cons,List.all_append,hf,QeL hf l];rfl
theorem clone148 (l:List (Nat×Nat)) (hl:l.length<=1000) (hne:l≠[]):PSpec Tryz.prog 148 [los l] (los l):=by
 refine PSpec.of_rn 100 ok148 rfl (by rw[noRefs,SU.QbL];rfl) (SU.QbL _) ?_
 have hq:aEqN false (los l)= .ret (.bool false):=by
  match l,hne with
  |x::l,_=>rfl
 have hone:(l.flatMap loC).all AV.one=true:=QeL (fun _=>rfl) l
 have hln:=SU.Qfu l
 simp(disch:=first|omega|(simp only[lenW]<;>omega)) only[s148,hq,hone,hln,wW,wV,simprocAttr]
 exact⟨.inr trivial,_,rfl,Rn.fz0 rfl hln (RnL.same (SU.Qbc _))⟩
theorem clone149 (l:List (Nat×Int)) (hl:l.length<=1000) (hne:l≠[]):PSpec Tryz.prog 149 [tes l] (tes l):=by
 refine PSpec.of_rn 100 ok149 rfl (by rw[noRefs,SU.Qb4];rfl) (SU.Qb4 _) ?_
 have hq:aEqN false (tes l)= .ret (.bool false):=by
  match l,hne with
  |x::l,_=>rfl
 have hone:(l.flatMap teC).all AV.one=true:=QeL (fun _=>rfl) l
 have hln:=SU.QcI l
 simp(disch:=first|omega|(simp only[lenW]<;>omega)) only[s149,hq,hone,hln,wW,wV,simprocAttr]
 exact⟨.inr trivial,_,rfl,Rn.fz0 rfl hln (RnL.same (SU.QaL _))⟩
theorem take_succ' {α:Type} {l:List α} {i:Nat} {x:α} (h:l[i]?=some x):l.take (i+1)=l.take i++[x]:=by
 rw[List.take_add_one,h];rfl
theorem Qq4 {x:Nat×List (Nat×Nat)}:List.flatMap exC [x]=[.str [101,UInt8.ofNat (48+x.1)],los x.2]:=rfl
theorem Qq5 {x:List (Nat×Int)×Int}:List.flatMap coC [x]=[.str [107],tes x.1,.int .i64 x.2]:=rfl
theorem conds85 (c:Cel) (h:WfCel c):PSpec Tryz.prog 85 [celV c] (cdV (szs c) c.xs c.ks):=by
  have hnr:noRefs [evsV c.ev,its 99 c.cs,its 114 c.rs,exs c.xs,cos c.ks]=true:=by
    have:=SU.Qbk c
    rwa [celV,noRef]at this
  refine PSpec.of_rn 64 ok85 rfl (by rw[noRefs,SU.Qbk];rfl) (by rw[noRef];exact QbB) ?_
  have hc3:=h.c3
  have hx2:=h.x2
  have hk1:=h.k1
  have hci:=@SU.Qc9 99 c.cs
  have hxi:=SU.QdR c.xs
  have hki:=Qfv c.ks
  simp(disch:=first|omega|(simp only[lenW]<;>omega)) only[s85,wW,wV,simprocAttr]
  refine Qap 100 (fun i:Nat=>[(1,.ptr 50 0 0),(2,.ptr 51 0 0),(3,.ptr 52 0 0),(12,its 99 c.cs),(13,.int .i64 c.cs.length),(14,.int .i64 i)]) (fun i=>[(50,.cells 0 [evsV c.ev,its 99 c.cs,its 114 c.rs,exs c.xs,cos c.ks]),(51,.cells 0 [.nilsl,.nilsl,.nilsl]),(52,.cells 0 [.sl 76 0 0 (szs c|>.take i).length 1,.nilsl,.nilsl]),(76,.cells 0 (ints (nz ((szs c).take i))))]) (fun i=>i<=c.cs.length) (fun i=>c.cs.length-i) 0 0 160
    (fun _:Unit=>[(1,.ptr 50 0 0),(2,.ptr 51 0 0),(3,.ptr 52 0 0)]) (fun _=>[(50,.cells 0 [evsV c.ev,its 99 c.cs,its 114 c.rs,exs c.xs,cos c.ks]),(51,.cells 0 [.nilsl,.nilsl,.nilsl]),(52,.cells 0 [sliN (szs c),.nilsl,.nilsl])]) (fun _=>True) ⟨[(50,.blk 64 0),(51,.blk 65 0),(52,.blk 67 0),(76,.nil)],rfl,au0,?_,au16⟩ (Nat.zero_le _) ?_ ?_
  · exact RB.cells rfl rfl gg (RnL.same hnr) (RB.cells rfl rfl gg (RnL.same rfl) (RB.cells rfl rfl gg (RnL.cons (Rn.x4 rfl rfl) (RnL.same rfl)) (RB.newnil rfl rfl RB.nil)))
  · rintro i hi
    by_cases hlt:i<c.cs.length
    · obtain ⟨x, hx⟩ := Qai hlt
      have hdr:=SU.Qcx (ch:=99) hx
      have hdl:5<=((c.cs.flatMap (itC 99)).drop (i*5)).length:=by rw[hdr];simp
      have hsx:(szs c)[i]?=some x.2.n:=by unfold szs;rw[List.getElem?_map,hx];rfl
      have hsuc:=take_succ' hsx
      have htl:((szs c).take i).length=i:=by rw[List.length_take,h.slen];omega
      have hone:=@SU.Qdg [99,UInt8.ofNat (48+x.1)] x.2
      simp(disch:=first|omega|(simp only[lenW]<;>omega)) only[hlt,hdr,hdl,htl,wW,wV,simprocAttr]
      refine⟨i+1,by omega,by omega,?_⟩
      rw[hsuc,List.length_append,QaF,QaA,htl]
      refine⟨[(50,.blk 50 0),(51,.blk 51 0),(52,.blk 52 0),(76,.blk 76 1)],rfl,au0,?_,au16⟩
      exact RB.cells rfl rfl gg (RnL.same hnr) (RB.cells rfl rfl gg (RnL.same rfl) (RB.cells rfl rfl gg (RnL.cons (Rn.x1 rfl rfl) (RnL.same rfl)) (RB.cells rfl rfl gg (RnL.same (SU.Qao (Qac _) rfl)) RB.nil)))
    · have e : i = c.cs.length := by omega
      subst e
      have hta:(szs c).take c.cs.length=szs c:=by rw[<-h.slen,List.take_length]
      simp(disch:=first|omega|(simp only[lenW]<;>omega)) only[hlt,hta,wW,wV,simprocAttr]
      refine⟨(),?_⟩
      refine⟨[(50,.blk 50 0),(51,.blk 51 0),(52,.blk 52 0)],rfl,au0,?_,au16⟩
      exact RB.cells rfl rfl gg (RnL.same hnr) (RB.cells rfl rfl gg (RnL.same rfl) (RB.cells rfl rfl gg (RnL.cons (Rn.fzm rfl rfl rfl rfl (by simp[ints]) (RnL.same (Qac _))) (RnL.same rfl)) RB.nil))
  rintro _ _
  simp(disch:=first|omega|(simp only[lenW]<;>omega)) only[wW,wV,simprocAttr]
  refine Qap 200 (fun i:Nat=>[(1,.ptr 50 0 0),(2,.ptr 51 0 0),(3,.ptr 52 0 0),(28,exs c.xs),(29,.int .i64 c.xs.length),(30,.int .i64 i)]) (fun i=>[(50,.cells 0 [evsV c.ev,its 99 c.cs,its 114 c.rs,exs c.xs,cos c.ks]),(51,.cells 0 [.nilsl,.nilsl,.nilsl]),(52,.cells 0 [sliN (szs c),.sl 77 0 0 (c.xs.take i).length 2,.nilsl]),(77,.cells 0 ((c.xs.take i).flatMap exC))]) (fun i=>i<=c.xs.length) (fun i=>c.xs.length-i) 0 2 260
    (fun _:Unit=>[(1,.ptr 50 0 0),(2,.ptr 51 0 0),(3,.ptr 52 0 0)]) (fun _=>[(50,.cells 0 [evsV c.ev,its 99 c.cs,its 114 c.rs,exs c.xs,cos c.ks]),(51,.cells 0 [.nilsl,.nilsl,.nilsl]),(52,.cells 0 [sliN (szs c),exs c.xs,.nilsl])]) (fun _=>True) ⟨[(50,.blk 50 0),(51,.blk 51 0),(52,.blk 52 0),(77,.nil)],rfl,au0,?_,au16⟩ (Nat.zero_le _) ?_ ?_
  · exact RB.cells rfl rfl gg (RnL.same hnr) (RB.cells rfl rfl gg (RnL.same rfl) (RB.cells rfl rfl gg (RnL.cons (Rn.same (Qab _)) (RnL.cons (Rn.x4 rfl rfl) (RnL.same rfl))) (RB.newnil rfl rfl RB.nil)))
  · rintro i hi
    by_cases hlt:i<c.xs.length
    · obtain ⟨x, hx⟩ := Qai hlt
      have hxm:=List.mem_of_getElem? hx
      have hdr:=QhU hx
      have hdl:2<=((c.xs.flatMap exC).drop (i*2)).length:=by rw[hdr];simp
      have hsuc:=take_succ' hx
      have htl:(c.xs.take i).length=i:=by rw[List.length_take];omega
      have hcl:=clone148 x.2 (by have:=h.xlen hxm;omega) (h.xl x hxm).1
      have hxl:=SU.QdR (c.xs.take i)
      rw[htl]at hxl
      simp(disch:=first|omega|(simp only[lenW]<;>omega)) only[hlt,hdr,hdl,htl,wW,wV,simprocAttr]
      refine cp hcl ?_
      simp(disch:=first|omega|(simp only[lenW]<;>omega)) only[hxl,wW,wV,simprocAttr]
      refine⟨i+1,by omega,by omega,?_⟩
      rw[hsuc,List.length_append,List.flatMap_append,htl,Qq4]
      refine⟨[(50,.blk 50 0),(51,.blk 51 0),(52,.blk 52 0),(77,.blk 77 1)],rfl,au0,?_,au16⟩
      exact RB.cells rfl rfl gg (RnL.same hnr) (RB.cells rfl rfl gg (RnL.same rfl) (RB.cells rfl rfl gg (RnL.cons (Rn.same (Qab _)) (RnL.cons (Rn.x1 rfl rfl) (RnL.same rfl))) (RB.cells rfl rfl gg (RnL.same (SU.Qao (SU.Qa6 _) (by rw[noRefs,noRefs,SU.QbL];rfl))) RB.nil)))
    · have e : i = c.xs.length := by omega
      subst e
      simp(disch:=first|omega|(simp only[lenW]<;>omega)) only[hlt,List.take_length,wW,wV,simprocAttr]
      refine⟨(),?_⟩
      refine⟨[(50,.blk 50 0),(51,.blk 51 0),(52,.blk 52 0)],rfl,au0,?_,au16⟩
      exact RB.cells rfl rfl gg (RnL.same hnr) (RB.cells rfl rfl gg (RnL.same rfl) (RB.cells rfl rfl gg (RnL.cons (Rn.same (Qab _)) (RnL.cons (Rn.fzm rfl rfl rfl rfl (SU.QdR _) (RnL.same (SU.Qa6 _))) (RnL.same rfl))) RB.nil))
  rintro _ _
  simp(disch:=first|omega|(simp only[lenW]<;>omega)) only[wW,wV,simprocAttr]
  refine Qap 300 (fun i:Nat=>[(2,.ptr 51 0 0),(3,.ptr 52 0 0),(47,cos c.ks),(48,.int .i64 c.ks.length),(49,.int .i64 i)]) (fun i=>[(51,.cells 0 [.nilsl,.nilsl,.nilsl]),(52,.cells 0 [sliN (szs c),exs c.xs,.sl 78 0 0 (c.ks.take i).length 3]),(78,.cells 0 ((c.ks.take i).flatMap coC))]) (fun i=>i<=c.ks.length) (fun i=>c.ks.length-i) 0 4 360
    (fun _:Unit=>[(2,.ptr 51 0 0),(3,.ptr 52 0 0)]) (fun _=>[(51,.cells 0 [.nilsl,.nilsl,.nilsl]),(52,.cells 0 [sliN (szs c),exs c.xs,cos c.ks])]) (fun _=>True) ⟨[(51,.blk 51 0),(52,.blk 52 0),(78,.nil)],rfl,au0,?_,au16⟩ (Nat.zero_le _) ?_ ?_
  · exact RB.cells rfl rfl gg (RnL.same rfl) (RB.cells rfl rfl gg (RnL.cons (Rn.same (Qab _)) (RnL.cons (Rn.same (SU.Qbj _)) (RnL.cons (Rn.x4 rfl rfl) RnL.nil))) (RB.newnil rfl rfl RB.nil))
  · rintro i hi
    by_cases hlt:i<c.ks.length
    · obtain ⟨x, hx⟩ := Qai hlt
      have hxm:=List.mem_of_getElem? hx
      have hdr:=QhV hx
      have hdl:3<=((c.ks.flatMap coC).drop (i*3)).length:=by rw[hdr];simp
      have hsuc:=take_succ' hx
      have htl:(c.ks.take i).length=i:=by rw[List.length_take];omega
      have hcl:=clone149 x.1 (by have:=h.klen hxm;omega) (h.kl x hxm).1
      have hxl:=Qfv (c.ks.take i)
      rw[htl]at hxl
      simp(disch:=first|omega|(simp only[lenW]<;>omega)) only[hlt,hdr,hdl,htl,wW,wV,simprocAttr]
      refine cp hcl ?_
      simp(disch:=first|omega|(simp only[lenW]<;>omega)) only[hxl,wW,wV,simprocAttr]
      refine⟨i+1,by omega,by omega,?_⟩
      rw[hsuc,List.length_append,List.flatMap_append,htl,Qq5]
      refine⟨[(51,.blk 51 0),(52,.blk 52 0),(78,.blk 78 1)],rfl,au0,?_,au16⟩
      exact RB.cells rfl rfl gg (RnL.same rfl) (RB.cells rfl rfl gg (RnL.cons (Rn.same (Qab _)) (RnL.cons (Rn.same (SU.Qbj _)) (RnL.cons (Rn.x1 rfl rfl) RnL.nil))) (RB.cells rfl rfl gg (RnL.same (SU.Qao (SU.Qcw _) (by rw[noRefs,noRefs,SU.Qb4];rfl))) RB.nil))
    · have e : i = c.ks.length := by omega
      subst e
      simp(disch:=first|omega|(simp only[lenW]<;>omega)) only[hlt,List.take_length,wW,wV,simprocAttr]
      refine⟨(),?_⟩
      refine⟨[(51,.blk 51 0),(52,.blk 52 0)],rfl,au0,?_,au16⟩
      exact RB.cells rfl rfl gg (RnL.same rfl) (RB.cells rfl rfl gg (RnL.cons (Rn.same (Qab _)) (RnL.cons (Rn.same (SU.Qbj _)) (RnL.cons (Rn.fzm rfl rfl rfl rfl (Qfv _) (RnL.same (SU.Qcw _))) RnL.nil))) RB.nil)
  rintro _ _
  simp(disch:=first|omega|(simp only[lenW]<;>omega)) only[wW,wV,simprocAttr]
  refine⟨.inr trivial,_,rfl,?_⟩
  exact Rn.same (by rw[noRef];exact QbB)
end Go.AM.SO
namespace Go.AM.SO
open Go.Proofs Go.AM.SD Go.AM.SE
def idxQ {α:Type} (q:α->Bool) (l:List α):Int:=if l.any q then(l.findIdx q:Int)else-1
theorem Qda {α:Type} {q:α->Bool} {l:List α} (h:∀x∈l,q x=false):idxQ q l= -1:=by
 unfold idxQ
 rw[if_neg]
 rw[List.any_eq_true]
 rintro⟨x,hx,hq⟩
 rw[h x hx]at hq;cases hq
theorem Qej {α:Type} {q:α->Bool} {l:List α} {i:Nat} {x:α} (hx:l[i]?=some x) (hq:q x=true) (hb:∀(j:Nat) y,j<i->l[j]?=some y->q y=false):idxQ q l=i:=by
 have hlt:i<l.length:=by
  rcases Nat.lt_or_ge i l.length with h|h
  ·exact h
  ·rw[List.getElem?_eq_none h]at hx;cases hx
 have h1:l.any q=true:=List.any_eq_true.2 ⟨x,List.mem_of_getElem? hx,hq⟩
 have h2:l.findIdx q=i:=by
  rw[List.findIdx_eq hlt]
  refine⟨by rw[List.getElem?_eq_getElem hlt]at hx;cases hx;exact hq,fun j hj=>hb j l[j] hj (List.getElem?_eq_getElem (by omega))⟩
 unfold idxQ
 rw[if_pos h1,h2]
theorem Ql8 {α:Type} {q:α->Bool} {l:List α}:decide (0<=idxQ q l)=l.any q:=by
 unfold idxQ
 cases h:l.any q
 ·simp
 ·simp
theorem Qbl {K:Nat} {cap:List AV} (h:noRefs cap=true):noRef (.fn K [] cap)=true:=by
 simp only[noRef,noRefs,h];rfl
theorem QpZ {l:List Nat} {i x:Nat} (h:l[i]?=some x):(ints (nz l)).drop (i*1)= .int .i64 (x:Int)::(ints (nz (l.drop (i+1)))):=by
 rw[Nat.mul_one]
 have hi:i<l.length:=by
  rcases Nat.lt_or_ge i l.length with h1|h1
  ·exact h1
  ·rw[List.getElem?_eq_none h1]at h;cases h
 rw[List.getElem?_eq_getElem hi]at h
 cases h
 rw[List.drop_eq_getElem_cons (by simp[ints];omega)]
 simp[ints,nz,List.map_drop]
theorem index110 {K : Nat} {cap : List AV} (q : Nat -> Bool) (l : List Nat) (hl : l.length <= 1000000) (hc : noRefs cap = true) (hk : ∀ x ∈ l, PSpec Tryz.prog K (.int .i64 (x : Int) :: cap) (.bool (q x))) : PSpec Tryz.prog 110 [sliN l, .fn K [] cap] (.int .i64 (idxQ q l)) := by
  refine PSpec.Qan 64 ok110 rfl (by rw[noRefs,noRefs,Qbl hc,(Qab _)];rfl) rfl ?_
  have hfn:=Qbl (K:=K) hc
  have hln:=(show(ints (nz l)).length=l.length*1 by simp[ints])
  simp(disch:=first|omega|(simp only[lenW]<;>omega)) only[s110,List.append_nil,wW,wV,simprocAttr]
  refine QaH 100 (fun i:Nat=>[(0,sliN l),(1,.fn K [] cap),(7,.int .i64 l.length),(8,.int .i64 i)]) (fun _=>[]) (fun i=>i<=l.length/\∀(j:Nat) y,j<i->l[j]?=some y->q y=false) (fun i=>l.length-i) 0 ?_ ⟨Nat.zero_le _,fun j y hj=>absurd hj (Nat.not_lt_zero _)⟩ ?_
  · exact⟨[],rfl,RO.zero,RB.nil,RT.cons (Rn.same (Qab _)) (RT.cons (Rn.same hfn) (RT.cons (Rn.same rfl) (RT.cons (Rn.same rfl) RT.nil)))⟩
  rintro i ⟨hi,hb⟩
  by_cases hlt:i<l.length
  · obtain ⟨x, hx⟩ := Qai hlt
    have hn:=hk x (List.mem_of_getElem? hx)
    have hdr:=QaB hx
    have hdl:1<=(List.drop (i*1) (ints (nz l))).length:=by rw[List.length_drop,hln];omega
    cases hq:q x
    · rw [hq] at hn
      simp(disch:=first|omega|(simp only[lenW]<;>omega)) only[hlt,hdr,hdl,List.head?_cons,List.append_nil,wW,wV,simprocAttr]
      refine⟨_,by simpa using hn,?_⟩
      simp(disch:=first|omega|(simp only[lenW]<;>omega)) only[List.append_nil,wW,wV,simprocAttr]
      refine⟨i+1,by omega,⟨by omega,fun j y hj hy=>?_⟩,?_⟩
      · by_cases e : j = i
        · subst e;rw[hx]at hy;cases hy;exact hq
        · exact hb j y (by omega) hy
      · exact⟨[],rfl,RO.zero,RB.nil,RT.cons (Rn.same (Qab _)) (RT.cons (Rn.same hfn) (RT.cons (Rn.same rfl) (RT.cons (Rn.same rfl) RT.nil)))⟩
    · rw [hq] at hn
      simp(disch:=first|omega|(simp only[lenW]<;>omega)) only[hlt,hdr,hdl,List.head?_cons,List.append_nil,wW,wV,simprocAttr]
      refine⟨_,by simpa using hn,?_⟩
      simp(disch:=first|omega|(simp only[lenW]<;>omega)) only[List.append_nil,wW,wV,simprocAttr]
      refine⟨.inr trivial,_,rfl,?_⟩
      rw[Qej hx hq hb];rfl
  · simp (disch := first | omega | (simp only [lenW] <;> omega)) only [hlt, List.append_nil, wW, wV, simprocAttr]
    refine⟨.inr trivial,_,rfl,?_⟩
    rw[Qda fun x hx=>by
      obtain⟨j,hj,hjl⟩:=List.getElem_of_mem hx
      exact hb j x (by omega) (by rw[List.getElem?_eq_getElem hj,hjl])];rfl
theorem contains36 {K:Nat} {cap:List AV} (q:Nat->Bool) (l:List Nat) (hl:l.length<=1000000) (hc:noRefs cap=true) (hk:∀x∈l,PSpec Tryz.prog K (.int .i64 (x:Int)::cap) (.bool (q x))):PSpec Tryz.prog 36 [sliN l,.fn K [] cap] (.bool (l.any q)):=by
 refine PSpec.Qan 64 ok36 rfl (by rw[noRefs,noRefs,Qbl hc,Qab];rfl) rfl ?_
 simp(disch:=first|omega|(simp only[lenW]<;>omega)) only[s36,List.append_nil,wW,wV,simprocAttr]
 refine cp (index110 q l hl hc hk) ?_
 have e:=@Ql8 Nat q l
 cases h:l.any q
 ·rw [h, decide_eq_false_iff_not] at e
  simp(disch:=first|omega|(simp only[lenW]<;>omega)) only[e,List.append_nil,wW,wV,simprocAttr]
  exact⟨.inr trivial,_,rfl,rfl⟩
 ·rw [h, decide_eq_true_eq] at e
  simp(disch:=first|omega|(simp only[lenW]<;>omega)) only[e,List.append_nil,wW,wV,simprocAttr]
  exact⟨.inr trivial,_,rfl,rfl⟩
theorem ge166 (x:Nat):PSpec Tryz.prog 166 [.int .i64 (x:Int),.fptr [.int .i64 5]] (.bool (decide (5<=x))):=by
 refine PSpec.Qan 64 ok166 rfl rfl rfl ?_
 have e:decide ((5:Int)<=(x:Int))=decide (5<=x):=decide_eq_decide.2 (by omega)
 simp(disch:=first|omega|(simp only[lenW]<;>omega)) only[s166,e,List.append_nil,wW,wV,simprocAttr]
 exact⟨.inr trivial,_,rfl,rfl⟩
end Go.AM.SO
namespace Go.AM.SR
open Go.Proofs
set_option maxHeartbeats 4000000
noncomputable section
def cf:YA.Cf:={most:= .pure,always:=[36].map fun k=>(k,.heap)}
def s83:SFn:=by
 refine(?f:YA.Yt Tryz.prog cf 83 [[0,1,8],[11,12,13,14],[2,3,4,5,10],[10,16,17,18,19],[2,3,4,5,15],[8,3,15,20,21,22],[23,24,25],[26],[2,4,5,9,27,28],[8,9,27,30,31,32,33],[2,4,5,29],[29,35,36,37,38],[2,4,5,34],[5,34,40,41,42,43,44],[2,4,39],[2,4,39,46,47,48,49,50,51],[45],[45]]) ?s ?h
 case h=>conv=>lhs;reduce;simp only[Int.reduceOfNat,Int.reduceNegSucc,YA.u8e,UInt8.reduceOfNat]
 case f=>exact fun s _=>s
theorem ok83:okFn Tryz.prog 83 s83=true:=by kernel_rfl
end
end Go.AM.SR
namespace Go.AM.SO
open Go.Proofs Go.AM.SD Go.AM.SE
theorem Qoc {A B:List Nat} (hA:A.Pairwise (· < ·)) (hB:B.Pairwise (· < ·)) (h:∀x∈A,x∈B):mrg (fun a b=>a&& !b) A B=[]:=by
 rw[List.eq_nil_iff_forall_not_mem]
 intro x hx
 obtain⟨h1,h2⟩:=(Qby hA hB).1 hx
 simp at h1
 exact h1.2 (h x h1.1)
theorem Qfw {a:Aut} (h:WfA a):a.al.length<=5:=QaV 5 a.al (by rw[List.nodup_iff_pairwise_ne];exact h.al.imp fun h=>by omega) h.al5
abbrev nmsB (l:List (List UInt8)):Blk:= .map 0 (mapS yes l)
theorem item83 (nm:List UInt8) (a:Aut) (B:List Nat) (names:List (List UInt8)) (h:WfI a) (hN:PSpec Tryz.prog 135 [.str nm] (.bool true)) (hn:nm∉names) (hnl:names.length<=100) (hB:B.Pairwise (· < ·)) (hBl:B.length<=1000000) (hs:∀x∈a.al,x∈B):
  HSpec Tryz.prog 83 [.agg [.str nm,sliN a.al,.int .i64 (a.n:Int),sliN a.ms,egsN a.es],.int .i64 5,sliN B,.map 68 0] (hp [(68,nmsB names)]) (.int .i64 0) (hp [(68,nmsB (names++[nm]))]):=by
 have hal:=Qfw h.wf
 have hel:a.es.length<=1000000:=Nat.le_trans h.el (by decide)
 have hC:=check112 a h.wf hel
 have hI:=isCanon60 a h.wf hel h.can
 have hp0:=h.pos
 have hn0:¬(a.n:Int)=0:=by omega
 have h36:=contains36 (K:=166) (cap:=[.fptr [.int .i64 5]]) (fun x=>decide (5<=x)) a.al (by omega) rfl (fun x _=>ge166 x)
 have hany:a.al.any (fun x=>decide (5<=x))=false:=by
  rw[List.any_eq_false]
  intro x hx
  have:=h.wf.al5 x hx
  simp;omega
 rw[hany]at h36
 have hsub:=subset167 a.al B (by omega) hBl
 rw[Qoc h.wf.al hB hs]at hsub
 have hsub':PSpec Tryz.prog 167 [sliN a.al,sliN B] (.bool true):=hsub
 refine HSpec.Qqt (m:=69) 100 SR.ok83 rfl rfl rfl ?_
 simp(disch:=first|omega|(simp only[lenW]<;>omega)) only[SR.s83,wW,wV,simprocAttr]
 refine cp hN ?_
 simp(disch:=first|omega|(simp only[lenW]<;>omega)) only[wW,wV,simprocAttr]
 refine Qfl gg hn ?_
 simp(disch:=first|omega|(simp only[lenW]<;>omega)) only[wW,wV,simprocAttr]
 refine QdK gg hn (by omega) ?_
 simp(disch:=first|omega|(simp only[lenW]<;>omega)) only[QgJ,wW,wV,simprocAttr]
 refine cp hC ?_
 simp(disch:=first|omega|(simp only[lenW]<;>omega)) only[wW,wV,simprocAttr]
 refine cp hI ?_
 simp(disch:=first|omega|(simp only[lenW]<;>omega)) only[hn0,wW,wV,simprocAttr]
 refine SU.chc (HSpec.lend (FrzL.cons (FrzTo.same _) (FrzL.cons (FrzTo.fn FrzL.nil (FrzL.cons (FrzTo.ptr (g:=0) (cs:=[.int .i64 5]) gg (FrzL.same _)) FrzL.nil)) FrzL.nil)) h36 rfl) ?_
 simp(disch:=first|omega|(simp only[lenW]<;>omega)) only[wW,wV,simprocAttr]
 refine cp hsub' ?_
 simp(disch:=first|omega|(simp only[lenW]<;>omega)) only[wW,wV,simprocAttr]
 refine⟨.inr trivial,_,rfl,rfl,?_⟩
 refine⟨[(68,.nil)],rfl,au0,?_,au16⟩
 exact RB.mapB rfl gg (RnM.mapS fun _ _=>Rn.same rfl) RB.nil
theorem item83F {h:Heap} (nm:List UInt8) (a:Aut) (B:List Nat) (names:List (List UInt8)) (hw:WfI a) (hN:PSpec Tryz.prog 135 [.str nm] (.bool true)) (hn:nm∉names) (hnl:names.length<=100) (hB:B.Pairwise (· < ·)) (hBl:B.length<=1000000) (hs:∀x∈a.al,x∈B) (h68:h.get 68=some (nmsB names)):
  HSpec Tryz.prog 83 [.agg [.str nm,sliN a.al,.int .i64 (a.n:Int),sliN a.ms,egsN a.es],.int .i64 5,sliN B,.map 68 0] h (.int .i64 0) (h.set 68 (nmsB (names++[nm]))):=by
 have hm:∀(l:List (List UInt8)),∀e∈mapS yes l,noRef e.1=true/\noRef e.2=true:=fun l e he=>by
  unfold mapS at he
  obtain⟨x,_,rfl⟩:=List.mem_map.1 he
  exact⟨rfl,rfl⟩
 exact HSpec.frameM (item83 nm a B names hw hN hn hnl hB hBl hs) (OnlyD.cons (OnlyD.same (by rw[noRef];exact SU.Qdg)) (OnlyD.cons (OnlyD.same rfl) (OnlyD.cons (OnlyD.same (Qab _)) (OnlyD.cons (OnlyD.map rfl) OnlyD.nil)))) (OnlyD.same rfl) (hm _) (hm _) h68 rfl
end Go.AM.SO
namespace Go.AM.SO
open Go.Proofs Go.AM.SD Go.AM.SE
def uUp (l:List (Nat×Aut)):List Nat:=l.foldl (fun out x=>mrg (fun a b=>a||b) out x.2.al) []
theorem QhW:∀{l:List (Nat×Aut)} {out:List Nat},out.Pairwise (· < ·)->(∀x∈l,x.2.al.Pairwise (· < ·))->
  (l.foldl (fun out x=>mrg (fun a b=>a||b) out x.2.al) out).Pairwise (· < ·)/\∀e,e∈l.foldl (fun out x=>mrg (fun a b=>a||b) out x.2.al) out↔e∈out\/∃y∈l,e∈y.2.al
 |[],out,h,_=>⟨h,fun e=>by simp⟩
 | x :: l, out, h, hl => by
  have hx:=hl x (by simp)
  obtain⟨h1,h2⟩:=QhW (l:=l) (Qcd (k:=fun a b=>a||b) h hx) fun y hy=>hl y (by simp[hy])
  refine⟨h1,fun e=>?_⟩
  rw[List.foldl_cons,h2 e,Qby h hx]
  simp only[List.mem_cons,exists_eq_or_imp,Bool.or_eq_true,decide_eq_true_eq]
  constructor
  ·rintro (⟨h3, _⟩ | h3)
   ·rcases h3 with h3 | h3
    ·exact .inl h3
    ·exact .inr (.inl h3)
   ·exact .inr (.inr h3)
  ·rintro (h3 | h3 | h3)
   ·exact .inl ⟨.inl h3,.inl h3⟩
   ·exact .inl ⟨.inr h3,.inr h3⟩
   ·exact .inr h3
theorem QeM {l:List (Nat×Aut)} (h:∀x∈l,WfI x.2):(uUp l).Pairwise (· < ·):=(QhW (by simp) fun x hx=>(h x hx).wf.al).1
theorem QfF {l:List (Nat×Aut)} (h:∀x∈l,WfI x.2) {e:Nat}:e∈uUp l↔∃y∈l,e∈y.2.al:=by
 have:=(QhW (l:=l) (out:=[]) (by simp) fun x hx=>(h x hx).wf.al).2 e
 simpa[uUp]using this
theorem QhX {l:List (Nat×Aut)} (h:∀x∈l,WfI x.2):(uUp l).length<=5:=by
 refine QaV 5 _ (by rw[List.nodup_iff_pairwise_ne];exact(QeM h).imp fun h=>by omega) fun x hx=>?_
 obtain⟨y,hy,he⟩:=(QfF h).1 hx
 exact(h y hy).wf.al5 x he
theorem Qpb {l:List (Nat×Aut)} {i:Nat} {x:Nat×Aut} (h:l[i]?=some x):uUp (l.take (i+1))=mrg (fun a b=>a||b) (uUp (l.take i)) x.2.al:=by
 unfold uUp
 rw[take_succ' h,List.foldl_append];rfl
def nmsI (ch:UInt8) (l:List (Nat×Aut)):List (List UInt8):=l.map fun x=>[ch,UInt8.ofNat (48+x.1)]
theorem QkB {ch:UInt8} {l:List (Nat×Aut)} {i:Nat} {x:Nat×Aut} (h:l[i]?=some x):nmsI ch (l.take (i+1))=nmsI ch (l.take i)++[[ch,UInt8.ofNat (48+x.1)]]:=by
 unfold nmsI
 rw[take_succ' h,List.map_append];rfl
theorem Qp0 {a b:Nat} (ha:a<10) (hb:b<10) (h:UInt8.ofNat (48+a)=UInt8.ofNat (48+b)):a=b:=by
 have:=congrArg UInt8.toNat h
 simp at this
 omega
theorem Qhr {l:List (Nat×Aut)} (h:l.map (·.1)=List.range l.length) {i:Nat} {x:Nat×Aut} (hx:l[i]?=some x):x.1=i/\i<l.length:=by
 have hi:i<l.length:=by
  rcases Nat.lt_or_ge i l.length with h|h
  ·exact h
  ·rw[List.getElem?_eq_none h]at hx;cases hx
 have h1:(l.map (·.1))[i]?=some x.1:=by rw[List.getElem?_map,hx];rfl
 rw[h,List.getElem?_range hi]at h1
 cases h1
 exact⟨rfl,hi⟩
theorem Ql9 {ch:UInt8} {l:List (Nat×Aut)} (h:l.map (·.1)=List.range l.length) (h3:l.length<=9) {i:Nat} {x:Nat×Aut} (hx:l[i]?=some x):[ch,UInt8.ofNat (48+x.1)]∉nmsI ch (l.take i):=by
 intro hm
 obtain⟨y,hy,he⟩:=List.mem_map.1 hm
 obtain⟨j,hj,hjl⟩:=List.getElem_of_mem hy
 rw[List.length_take]at hj
 rw[List.getElem_take]at hjl
 obtain⟨e1,e2⟩:=Qhr h hx
 obtain⟨e3,e4⟩:=Qhr h (i:=j) (x:=y) (by rw[<-hjl];exact List.getElem?_eq_getElem (by omega))
 have:=Qp0 (a:=y.1) (b:=x.1) (by omega) (by omega) (by simpa using he)
 omega
theorem Qod {a b:UInt8} (hab:a≠b) {s:UInt8} {l:List (Nat×Aut)}:[a,s]∉nmsI b l:=by
 intro hm
 obtain⟨y,hy,he⟩:=List.mem_map.1 hm
 simp at he
 exact hab he.1.symm
theorem Qkq {i:Nat} (h:i<3):PSpec Tryz.prog 135 [.str [99,UInt8.ofNat (48+i)]] (.bool true):=by
 have:i=0\/i=1\/i=2:=by omega
 rcases this with rfl|rfl|rfl
 ·exact SP.QpK
 ·exact SP.QpL
 ·exact SP.QpM
theorem Qq6 {i:Nat} (h:i<2):PSpec Tryz.prog 135 [.str [114,UInt8.ofNat (48+i)]] (.bool true):=by
 have:i=0\/i=1:=by omega
 rcases this with rfl|rfl
 ·exact SP.QpN
 ·exact SP.QpO
theorem QfG {m:Nat} {π:Nat->Option Src} {h:Heap}:RnM m π h (mapS yes []) []:=trivial
theorem Qcg (c:Cel):noRefs [evsV c.ev,its 99 c.cs,its 114 c.rs,exs c.xs,cos c.ks]=true:=by
 have:=SU.Qbk c
 rwa [celV,noRef]at this
theorem check21 (c : Cel) (h : WfCel c) : PSpec Tryz.prog 21 [celV c] (.int .i64 0) := by
  have hnr:=Qcg c
  refine PSpec.Qan 64 ok21 rfl (by rw[noRefs,SU.Qbk];rfl) rfl ?_
  have hE:=check82 c.ev h.ev
  have h0:=h.c0
  have h3:=h.c3
  have h2:=h.r2
  have g1:¬(c.cs.length:Int)=0:=by omega
  have g2:¬(8:Int)<(c.cs.length:Int):=by omega
  have g3:¬(12:Int)<(c.cs.length:Int)+(c.rs.length:Int):=by omega
  have hdL:=conds85 c h
  have hdC:=conds32 c h
  simp(disch:=first|omega|(simp only[lenW]<;>omega)) only[s21,wW,wV,simprocAttr]
  refine cp hE ?_
  simp(disch:=first|omega|(simp only[lenW]<;>omega)) only[g1,g2,g3,wW,wV,simprocAttr]
  refine Qap 140 (fun i:Nat=>[(1,.ptr 50 0 0),(5,.map 68 0),(6,.sl 76 0 0 i 1),(7,.nilsl),(41,.int .i64 5),(42,.int .i64 i)]) (fun i=>[(50,.cells 0 [evsV c.ev,its 99 c.cs,its 114 c.rs,exs c.xs,cos c.ks]),(68,nmsB []),(76,.cells 0 (ints (nz (List.range i))))]) (fun i=>i<=5) (fun i=>5-i) 0 1 180
    (fun _:Unit=>[(1,.ptr 50 0 0),(5,.map 68 0),(6,sliN (List.range 5)),(7,sliN [])]) (fun _=>[(50,.cells 0 [evsV c.ev,its 99 c.cs,its 114 c.rs,exs c.xs,cos c.ks]),(68,nmsB [])]) (fun _=>True) ?_ (Nat.zero_le _) ?_ ?_
  · refine ⟨[(50, .blk 64 0), (68, .blk 90 0), (76, .nil)], rfl, au0, ?_, au16⟩
    exact RB.cells rfl rfl gg (RnL.same hnr) (RB.map rfl rfl gg QfG (RB.newnil rfl rfl RB.nil))
  · rintro i hi
    by_cases hlt:i<5
    · have hlt2 : (i : Int) < 5 := by omega
      have hrl:(ints (nz (List.range i))).length=i:=by simp[ints]
      simp(disch:=first|omega|(simp only[lenW]<;>omega)) only[hlt2,List.length_range,hrl,wW,wV,simprocAttr]
      refine⟨i+1,by omega,by omega,?_⟩
      rw[List.range_succ,QaF,QaA]
      refine⟨[(50,.blk 50 0),(68,.blk 68 0),(76,.blk 76 1)],rfl,au0,?_,au16⟩
      exact RB.cells rfl rfl gg (RnL.same hnr) (RB.map rfl rfl gg QfG (RB.cells rfl rfl gg (RnL.same (SU.Qao (Qac _) rfl)) RB.nil))
    · have e : i = 5 := by omega
      subst e
      simp(disch:=first|omega|(simp only[lenW]<;>omega)) only[wW,wV,simprocAttr]
      refine⟨(),[(50,.blk 50 0),(68,.blk 68 0)],rfl,RO.zero,?_,?_⟩
      · exact RB.cells rfl rfl gg (RnL.same hnr) (RB.map rfl rfl gg QfG RB.nil)
      · exact RT.cons (Rn.x2 rfl rfl) (RT.cons (Rn.x3 rfl rfl) (RT.cons (Rn.fz (b:=76) (g:=0) gg rfl rfl rfl (RnL.same rfl)) (RT.cons Rn.nilK RT.nil)))
  rintro _ _
  simp(disch:=first|omega|(simp only[lenW]<;>omega)) only[wW,wV,simprocAttr]
  refine Qap 240 (fun i:Nat=>[(1,.ptr 50 0 0),(5,.map 68 0),(6,sliN (List.range 5)),(7,sliN (uUp (c.cs.take i))),(51,its 99 c.cs),(52,.int .i64 c.cs.length),(53,.int .i64 i)]) (fun i=>[(50,.cells 0 [evsV c.ev,its 99 c.cs,its 114 c.rs,exs c.xs,cos c.ks]),(68,nmsB (nmsI 99 (c.cs.take i)))]) (fun i=>i<=c.cs.length) (fun i=>c.cs.length-i) 0 3 280
    (fun _:Unit=>[(1,.ptr 50 0 0),(5,.map 68 0),(7,sliN (uUp c.cs))]) (fun _=>[(50,.cells 0 [evsV c.ev,its 99 c.cs,its 114 c.rs,exs c.xs,cos c.ks]),(68,nmsB (nmsI 99 c.cs))]) (fun _=>True) ?_ (Nat.zero_le _) ?_ ?_
  · refine ⟨[(50, .blk 50 0), (68, .blk 68 0)], rfl, au0, ?_, au16⟩
    exact RB.cells rfl rfl gg (RnL.same hnr) (RB.map rfl rfl gg QfG RB.nil)
  · rintro i hi
    by_cases hlt:i<c.cs.length
    · obtain ⟨x, hx⟩ := Qai hlt
      have hxm:=List.mem_of_getElem? hx
      have hdr:=SU.Qcx (ch:=99) hx
      have hdl:5<=((c.cs.flatMap (itC 99)).drop (i*5)).length:=by rw[hdr];simp
      have hwi:=h.ca x hxm
      have hfa:=Qhr h.cn hx
      have hnl:(nmsI 99 (c.cs.take i)).length<=100:=by simp[nmsI];omega
      have hN:=Qkq (i:=x.1) (by omega)
      have hnew:=Ql9 (ch:=99) h.cn (by omega) hx
      have hulen:(uUp (c.cs.take i)).length<=1000000:=by have:=QhX (l:=c.cs.take i) fun y hy=>h.ca y (List.mem_of_mem_take hy);omega
      have hU:=union84 (uUp (c.cs.take i)) x.2.al hulen (by have:=Qfw hwi.wf;omega)
      rw[<-Qpb hx]at hU
      have hns:=QkB (ch:=99) hx
      simp(disch:=first|omega|(simp only[lenW]<;>omega)) only[hlt,hdr,hdl,wW,wV,simprocAttr]
      refine SU.chc (item83F _ _ _ _ hwi hN hnew hnl List.pairwise_lt_range (by decide) (fun e he=>List.mem_range.2 (hwi.wf.al5 e he)) gg) ?_
      simp(disch:=first|omega|(simp only[lenW]<;>omega)) only[wW,wV,simprocAttr]
      refine cp hU ?_
      simp(disch:=first|omega|(simp only[lenW]<;>omega)) only[wW,wV,simprocAttr]
      refine⟨i+1,by omega,by omega,?_⟩
      rw[hns]
      refine⟨[(50,.blk 50 0),(68,.blk 68 0)],rfl,au0,?_,au16⟩
      exact RB.cells rfl rfl gg (RnL.same hnr) (RB.map rfl rfl gg (RnM.mapS fun _ _=>Rn.same rfl) RB.nil)
    · have e : i = c.cs.length := by omega
      subst e
      simp(disch:=first|omega|(simp only[lenW]<;>omega)) only[hlt,List.take_length,wW,wV,simprocAttr]
      refine⟨(),?_⟩
      refine⟨[(50,.blk 50 0),(68,.blk 68 0)],rfl,au0,?_,au16⟩
      exact RB.cells rfl rfl gg (RnL.same hnr) (RB.map rfl rfl gg (RnM.mapS fun _ _=>Rn.same rfl) RB.nil)
  rintro _ _
  simp(disch:=first|omega|(simp only[lenW]<;>omega)) only[wW,wV,simprocAttr]
  refine Qap 340 (fun i:Nat=>[(1,.ptr 50 0 0),(5,.map 68 0),(7,sliN (uUp c.cs)),(74,its 114 c.rs),(75,.int .i64 c.rs.length),(76,.int .i64 i)]) (fun i=>[(50,.cells 0 [evsV c.ev,its 99 c.cs,its 114 c.rs,exs c.xs,cos c.ks]),(68,nmsB (nmsI 99 c.cs++nmsI 114 (c.rs.take i)))]) (fun i=>i<=c.rs.length) (fun i=>c.rs.length-i) 0 5 380
    (fun _:Unit=>[(1,.ptr 50 0 0)]) (fun _=>[(50,.cells 0 [evsV c.ev,its 99 c.cs,its 114 c.rs,exs c.xs,cos c.ks])]) (fun _=>True) ?_ (Nat.zero_le _) ?_ ?_
  · rw [show nmsI 99 c.cs ++ nmsI 114 (c.rs.take 0) = nmsI 99 c.cs by simp [nmsI]]
    refine⟨[(50,.blk 50 0),(68,.blk 68 0)],rfl,au0,?_,au16⟩
    exact RB.cells rfl rfl gg (RnL.same hnr) (RB.map rfl rfl gg (RnM.mapS fun _ _=>Rn.same rfl) RB.nil)
  · rintro i hi
    by_cases hlt:i<c.rs.length
    · obtain ⟨x, hx⟩ := Qai hlt
      have hxm:=List.mem_of_getElem? hx
      have hdr:=SU.Qcx (ch:=114) hx
      have hdl:5<=((c.rs.flatMap (itC 114)).drop (i*5)).length:=by rw[hdr];simp
      have hwi:=h.ra x hxm
      have hfa:=Qhr h.rn hx
      have hnl:(nmsI 99 c.cs++nmsI 114 (c.rs.take i)).length<=100:=by simp[nmsI];omega
      have hN:=Qq6 (i:=x.1) (by omega)
      have hnew:[114,UInt8.ofNat (48+x.1)]∉nmsI 99 c.cs++nmsI 114 (c.rs.take i):=by
        intro hm
        rcases List.mem_append.1 hm with hm|hm
        · exact Qod (by decide) hm
        · exact Ql9 (ch:=114) h.rn (by omega) hx hm
      have hulen:(uUp c.cs).length<=1000000:=by have:=QhX (l:=c.cs) h.ca;omega
      have hns:=QkB (ch:=114) hx
      simp(disch:=first|omega|(simp only[lenW]<;>omega)) only[hlt,hdr,hdl,wW,wV,simprocAttr]
      refine SU.chc (item83F _ _ _ _ hwi hN hnew hnl (QeM h.ca) hulen (fun e he=>(QfF h.ca).2 (h.rsub x hxm e he)) gg) ?_
      simp(disch:=first|omega|(simp only[lenW]<;>omega)) only[wW,wV,simprocAttr]
      refine⟨i+1,by omega,by omega,?_⟩
      rw[hns,<-List.append_assoc]
      refine⟨[(50,.blk 50 0),(68,.blk 68 0)],rfl,au0,?_,au16⟩
      exact RB.cells rfl rfl gg (RnL.same hnr) (RB.map rfl rfl gg (RnM.mapS fun _ _=>Rn.same rfl) RB.nil)
    · simp (disch := first | omega | (simp only [lenW] <;> omega)) only [hlt, wW, wV, simprocAttr]
      refine⟨(),?_⟩
      refine⟨[(50,.blk 50 0)],rfl,au0,?_,au16⟩
      exact RB.cells rfl rfl gg (RnL.same hnr) RB.nil
  rintro _ _
  simp(disch:=first|omega|(simp only[lenW]<;>omega)) only[wW,wV,simprocAttr]
  refine cp hdL ?_
  simp(disch:=first|omega|(simp only[lenW]<;>omega)) only[wW,wV,simprocAttr]
  refine cp hdC ?_
  simp(disch:=first|omega|(simp only[lenW]<;>omega)) only[wW,wV,simprocAttr]
  exact⟨.inr trivial,_,rfl,rfl⟩
end Go.AM.SO
namespace Go.AM.SO
open Go.Proofs Go.AM.SD Go.AM.SE
def auC (a:Aut):List AV:=[sliN a.al,.int .i64 (a.n:Int),sliN a.ms,egsN a.es]
abbrev auts (l:List Aut):AV:= .fsl (l.flatMap auC) l.length 4
theorem QaQ (l:List Aut):noRefs (l.flatMap auC)=true:=QaT (fun x=>by simp only[auC,noRefs,noRef,Qac,Qaf];rfl) l
theorem Qa1 (l:List Aut):noRef (auts l)=true:=by simp only[noRef];exact QaQ l
theorem Qfx (l:List Aut):(l.flatMap auC).length=l.length*4:=Qbq (k:=4) (fun _=>rfl) l
theorem Qdq {l:List Aut} {i:Nat} {x:Aut} (h:l[i]?=some x):(l.flatMap auC).drop (i*4)=sliN x.al:: .int .i64 (x.n:Int)::sliN x.ms::egsN x.es::(l.drop (i+1)).flatMap auC:=Qbz (f:=auC) (k:=4) (fun _=>rfl) h
theorem _root_.Go.AM.au17 {p:Prop} (h:p:=by repeat (first|exact RT.nil|(refine RT.cons ?_ ?_; · (first|exact Rn.any|exact Rn.x1 rfl rfl|exact Rn.x2 rfl rfl|exact Rn.x3 rfl rfl|exact Rn.x4 rfl rfl|exact Rn.x5 rfl|exact Rn.x6 rfl|exact Rn.x7 rfl|(refine Rn.slot ?_ ?_;(first|rfl|(rw[Int.natCast_add];rfl));(first|rfl|(simp only[noRef,noRefs,Qah,Bool.and_self,Bool.and_true,Bool.true_and,Qac,Qau,Qab,Qak];done)))|(refine Rn.fn ?_ ?_<;>(repeat' (first|exact RnL.nil|refine RnL.cons ?_ ?_|exact Rn.same rfl|exact Rn.x6 rfl|exact Rn.x2 rfl rfl|exact Rn.x5 rfl|exact Rn.x1 rfl rfl))))))):p:=h
theorem _root_.Go.AM.au18 {p:Prop} (h:p:=by repeat' (first|exact RB.nil|(refine RnL.same ?_;first|rfl|(simp only[noRef,noRefs,Qah,Bool.and_self,Bool.and_true,Bool.true_and,Qac,Qau,Qab,Qak];done))|exact RnM.keyM rfl|exact RnL.nil|exact(True.intro:RnM _ _ _ [] [])|refine RnL.cons ?_ ?_|(refine Rn.same ?_;first|rfl|(simp only[noRef,noRefs,Qah,Bool.and_self,Bool.and_true,Bool.true_and,Qac,Qau,Qab,Qak];done))|exact Rn.x1 rfl rfl|exact Rn.x2 rfl rfl|exact Rn.x3 rfl rfl|exact Rn.x4 rfl rfl|exact Rn.x5 rfl|exact Rn.x6 rfl|exact Rn.x7 rfl|refine RB.newnil rfl rfl ?_|refine RB.cells rfl rfl rfl ?_ ?_|refine RB.map rfl rfl rfl ?_ ?_|refine RB.cellsB rfl rfl ?_ ?_|refine RB.mapB rfl rfl ?_ ?_)):p:=h
theorem check95 (l:List Aut) (h:∀a∈l,WfI a) (hl:l.length<=12):PSpec Tryz.prog 95 [auts l] (.int .i64 0):=by
  refine PSpec.Qan 64 TP.ok95 rfl (by rw[noRefs,Qa1];rfl) rfl ?_
  have g1:¬(12:Int)<(l.length:Int):=by omega
  have hno:=Qa1 l
  simp(disch:=first|omega|exact PairsOK.mk rfl|(simp only[lenW]<;>omega)) only[TP.s95,g1,wW,wV,simprocAttr]
  refine Qap 100 (fun i:Nat=>[(9,auts l),(10,.int .i64 l.length),(11,.int .i64 i)]) (fun _=>[]) (fun i=>i<=l.length) (fun i=>l.length-i) 0 0 140 (fun _:Unit=>[]) (fun _=>[]) (fun _=>True) ?_ (Nat.zero_le _) ?_ ?_
  · exact⟨[],rfl,RO.zero,RB.nil,RT.cons (Rn.same hno) au17⟩
  · rintro i hi
    by_cases hlt:i<l.length
    · obtain ⟨x, hx⟩ := Qai hlt
      have hwi:=h x (List.mem_of_getElem? hx)
      have hdr:=Qdq hx
      have hdl:4<=((l.flatMap auC).drop (i*4)).length:=by rw[hdr];simp
      have hc:=check112 x hwi.wf (by have:=hwi.el;omega)
      simp(disch:=first|omega|exact PairsOK.mk rfl|(simp only[lenW]<;>omega)) only[hlt,hdr,hdl,wW,wV,simprocAttr]
      refine cp hc ?_
      simp(disch:=first|omega|exact PairsOK.mk rfl|(simp only[lenW]<;>omega)) only[wW,wV,simprocAttr]
      exact⟨i+1,by omega,by omega,[],rfl,RO.zero,RB.nil,RT.cons (Rn.same hno) au17⟩
    · simp (disch := first | omega | exact PairsOK.mk rfl | (simp only [lenW] <;> omega)) only [hlt, wW, wV, simprocAttr]
      exact⟨(),⟨[],rfl,au0,au18,au17⟩⟩
  rintro _ _
  simp(disch:=first|omega|exact PairsOK.mk rfl|(simp only[lenW]<;>omega)) only[wW,wV,simprocAttr]
  exact⟨.inr trivial,_,rfl,rfl⟩
theorem Qpc {l:List Aut} {i:Nat} {x:Aut} (h:l[i]?=some x):evA (l.take (i+1))=mrg (fun a b=>a||b) (evA (l.take i)) x.al:=by
 unfold evA;rw[take_succ' h,List.foldl_append];rfl
theorem QfH (l:List Aut):evA l=uUp (l.map fun a=>(0,a)):=by unfold evA uUp;rw[List.foldl_map];rfl
theorem Qhs {l:List Aut} (h:∀a∈l,WfI a):(evA l).Pairwise (· < ·):=by
 rw[QfH]
 refine QeM fun x hx=>?_
 obtain⟨a,ha,rfl⟩:=List.mem_map.1 hx
 exact h a ha
theorem QfI {l:List Aut} (h:∀a∈l,WfI a):(evA l).length<=5:=by
 rw[QfH]
 refine QhX fun x hx=>?_
 obtain⟨a,ha,rfl⟩:=List.mem_map.1 hx
 exact h a ha
theorem events187 (l:List Aut) (h:∀a∈l,WfI a) (hl:l.length<=12):PSpec Tryz.prog 187 [auts l] (sliN (evA l)):=by
  refine PSpec.of_rn 64 TP.ok187 rfl (by rw[noRefs,Qa1];rfl) (Qab _) ?_
  have hno:=Qa1 l
  simp(disch:=first|omega|exact PairsOK.mk rfl|(simp only[lenW]<;>omega)) only[TP.s187,wW,wV,simprocAttr]
  refine Qap 100 (fun i:Nat=>[(3,sliN (evA (l.take i))),(6,auts l),(7,.int .i64 l.length),(8,.int .i64 i)]) (fun _=>[]) (fun i=>i<=l.length) (fun i=>l.length-i) 0 0 140 (fun _:Unit=>[(3,sliN (evA l))]) (fun _=>[]) (fun _=>True) ?_ (Nat.zero_le _) ?_ ?_
  · exact⟨[],rfl,RO.zero,RB.nil,RT.cons Rn.nilK (RT.cons (Rn.same hno) au17)⟩
  · rintro i hi
    by_cases hlt:i<l.length
    · obtain ⟨x, hx⟩ := Qai hlt
      have hwi:=h x (List.mem_of_getElem? hx)
      have hdr:=Qdq hx
      have hdl:4<=((l.flatMap auC).drop (i*4)).length:=by rw[hdr];simp
      have hulen:(evA (l.take i)).length<=1000000:=by have:=QfI (l:=l.take i) fun y hy=>h y (List.mem_of_mem_take hy);omega
      have hU:=union84 (evA (l.take i)) x.al hulen (by have:=Qfw hwi.wf;omega)
      rw[<-Qpc hx]at hU
      simp(disch:=first|omega|exact PairsOK.mk rfl|(simp only[lenW]<;>omega)) only[hlt,hdr,hdl,wW,wV,simprocAttr]
      refine cp hU ?_
      simp(disch:=first|omega|exact PairsOK.mk rfl|(simp only[lenW]<;>omega)) only[wW,wV,simprocAttr]
      exact⟨i+1,by omega,by omega,[],rfl,RO.zero,RB.nil,RT.cons (Rn.same (Qab _)) (RT.cons (Rn.same hno) au17)⟩
    · have e : i = l.length := by omega
      subst e
      simp(disch:=first|omega|exact PairsOK.mk rfl|(simp only[lenW]<;>omega)) only[hlt,List.take_length,wW,wV,simprocAttr]
      exact⟨(),⟨[],rfl,au0,au18,au17⟩⟩
  rintro _ _
  simp(disch:=first|omega|exact PairsOK.mk rfl|(simp only[lenW]<;>omega)) only[wW,wV,simprocAttr]
  exact⟨.inr trivial,_,rfl,Rn.same (Qab _)⟩
theorem has189 (l:List Nat) (t:Nat) (hs:l.Pairwise (· < ·)) (hl:l.length<=1000000):PSpec Tryz.prog 189 [sliN l,.int .i64 (t:Int)] (.bool (l.contains t)):=by
 refine PSpec.Qan 64 TP.ok189 rfl (by(try simp only[noRefs,Qac,noRef,noRefs,Bool.and_self,Bool.and_true])<;>rfl) rfl ?_
 have h:=find57 l t (hs.imp fun h=>Nat.le_of_lt h) hl
 simp(disch:=first|omega|exact PairsOK.mk rfl|(simp only[lenW]<;>omega)) only[TP.s189,wW,wV,simprocAttr]
 refine cp h ?_
 simp(disch:=first|omega|exact PairsOK.mk rfl|(simp only[lenW]<;>omega)) only[wW,wV,simprocAttr]
 exact⟨.inr trivial,_,rfl,rfl⟩
end Go.AM.SO
namespace Go.AM.SO
open Go.Proofs Go.AM.SD Go.AM.SE
theorem Qaj {α:Type} {f:α->AV} (h:∀x,noRef (f x)=true) (l:List α):noRefs (l.map f)=true:=by
 induction l with
 |nil=>rfl
 |cons x l ih=>simp only[List.map_cons,noRefs,h,ih];rfl
def pE (e:Ed):Nat×Nat:=(e.1,e.2.1)
def vE (es:List Ed) (p:Nat×Nat):AV:= .int .i64 (((stepA es p.1 p.2).getD 0:Nat):Int)
abbrev emV (a:Aut):AV:=fmapG kP (vE a.es) (a.es.map pE)
theorem Qb5 (a:Aut):noRef (emV a)=true:=by
 rw[emV,fmapG,noRef,Qaj (fun _=>rfl),Qaj (fun _=>rfl)];rfl
theorem Qaa {x y:List AV}:(AV.fmap x y).cells=[.fmap x y]:=rfl
theorem Qad {x y:List AV}:(AV.fmap x y).one=true:=rfl
theorem Qae {x y:List AV}:(AV.fmap x y).boxable=true:=rfl
abbrev macV (l:List Aut):AV:= .agg [auts l,sliN (evA l),.fsl (l.map emV) l.length 1]
theorem Qcy (l:List Aut):noRef (macV l)=true:=by
 rw[macV,noRef,noRefs,noRefs,noRefs,Qa1,Qab,noRef,Qaj Qb5];rfl
theorem Qht {e:Ed} {es:List Ed} {s v:Nat}:stepA (e::es) s v=if e.1=s/\e.2.1=v then some e.2.2 else stepA es s v:=by
 unfold stepA
 rw[List.find?_cons]
 by_cases h1:e.1=s<;>by_cases h2:e.2.1=v<;>simp[h1,h2,beq_eq_false_iff_ne.2]
theorem QgL:∀{es:List Ed},es.Pairwise (fun x y=>x.1<y.1\/(x.1=y.1/\x.2.1<y.2.1))->∀{e:Ed},e∈es->stepA es e.1 e.2.1=some e.2.2
 | x :: es, h, e, he => by
  rw[List.pairwise_cons]at h
  rw[Qht]
  rcases List.mem_cons.1 he with rfl|he
  ·rw[if_pos ⟨rfl,rfl⟩]
  ·have := h.1 e he
   rw[if_neg (by omega)]
   exact QgL h.2 he
theorem Qhu:∀{es:List Ed} {s v:Nat},(s,v)∉es.map pE->stepA es s v=none
 |[],s,v,_=>rfl
 |x::es,s,v,h=>by
  rw[List.map_cons,List.mem_cons,not_or]at h
  rw[Qht,if_neg fun hh=>h.1 (by unfold pE;rw[hh.1,hh.2])]
  exact Qhu h.2
theorem QdY {es:List Ed} {s v t:Nat} (h:stepA es s v=some t):(s,v)∈es.map pE:=by
 refine Decidable.byContradiction fun hn=>?_
 rw[Qhu hn]at h;cases h
theorem Qpd {es:List Ed} (h:es.Pairwise (fun x y=>x.1<y.1\/(x.1=y.1/\x.2.1<y.2.1))) {j:Nat} {e:Ed} (he:es[j]?=some e):(e.1,e.2.1)∉(es.take j).map pE:=by
 intro hm
 obtain⟨y,hy,e2⟩:=List.mem_map.1 hm
 obtain⟨k,hk⟩:=List.mem_iff_getElem?.1 hy
 have hkj:k<j:=by
  rcases Nat.lt_or_ge k j with h|h
  ·exact h
  ·rw[List.getElem?_eq_none (by rw[List.length_take];omega)]at hk;cases hk
 rw[List.getElem?_take_of_lt hkj]at hk
 obtain⟨k1,k2⟩:=List.getElem?_eq_some_iff.1 hk
 obtain⟨j1,j2⟩:=List.getElem?_eq_some_iff.1 he
 have:=List.pairwise_iff_getElem.1 h k j k1 j1 hkj
 rw[k2,j2]at this
 unfold pE at e2
 simp only[Prod.mk.injEq]at e2
 omega
theorem Qq7 {es:List Ed} (h:es.Pairwise (fun x y=>x.1<y.1\/(x.1=y.1/\x.2.1<y.2.1))) {e:Ed} (he:e∈es):updG (vE es) (e.1,e.2.1) (.int .i64 (e.2.2:Int))=vE es:=by
 funext p
 unfold updG
 split
 ·rename_i hp; subst hp
  unfold vE
  rw[QgL h he];rfl
 ·rfl
theorem _root_.Go.AM.au19 {p:Prop} (h:p:=by repeat (first|exact RT.nil|(refine RT.cons ?_ ?_; · (first|exact Rn.any|exact Rn.x1 rfl rfl|exact Rn.x2 rfl rfl|exact Rn.x3 rfl rfl|exact Rn.x4 rfl rfl|exact Rn.x5 rfl|exact Rn.x6 rfl|exact Rn.x7 rfl|(refine Rn.slot ?_ ?_;(first|rfl|(rw[Int.natCast_add];rfl));(first|rfl|(simp only[noRef,noRefs,Qah,Bool.and_self,Bool.and_true,Bool.true_and,Qac,Qau,Qab,Qak,QaQ,Qaf];done)))|(refine Rn.fn ?_ ?_<;>(repeat' (first|exact RnL.nil|refine RnL.cons ?_ ?_|exact Rn.same rfl|exact Rn.x6 rfl|exact Rn.x2 rfl rfl|exact Rn.x5 rfl|exact Rn.x1 rfl rfl))))))):p:=h
theorem open96 (l : List Aut) (h : ∀ a ∈ l, WfI a) (hl : l.length <= 12) : PSpec Tryz.prog 96 [auts l] (macV l) := by
  refine PSpec.of_rn 64 TP.ok96 rfl (by rw[noRefs,Qa1];rfl) (Qcy l) ?_
  have hev:=events187 l h hl
  have hno:=Qa1 l
  have hlen:(l.map emV).length=l.length:=List.length_map ..
  simp(disch:=first|omega|exact PairsOK.mk rfl|(simp only[lenW]<;>omega)) only[TP.s96,Qaa,Qad,Qae,wW,wV,simprocAttr]
  refine cp hev ?_
  simp(disch:=first|omega|exact PairsOK.mk rfl|(simp only[lenW]<;>omega)) only[Qaa,Qad,Qae,wW,wV,simprocAttr]
  refine Qap 120 (fun i:Nat=>[(2,.ptr 51 0 0),(3,.ptr 52 0 0),(13,auts l),(14,.int .i64 l.length),(15,.int .i64 i)]) (fun i=>[(51,.cells 0 [.nilsl,.nilsl,.nilsl]),(52,.cells 0 [auts l,sliN (evA l),.sl 76 0 0 i 1]),(76,.cells 0 ((l.take i).map emV))]) (fun i=>i<=l.length) (fun i=>l.length-i) 0 0 300 (fun _:Unit=>[(2,.ptr 51 0 0),(3,.ptr 52 0 0)]) (fun _=>[(51,.cells 0 [.nilsl,.nilsl,.nilsl]),(52,.cells 0 [auts l,sliN (evA l),.fsl (l.map emV) l.length 1])]) (fun _=>True) ⟨[(51,.blk 64 0),(52,.blk 69 0),(76,.nil)],rfl,au0,?_,au19⟩ (Nat.zero_le _) ?_ ?_
  · exact RB.cells rfl rfl gg (RnL.same rfl) (RB.cells rfl rfl gg (RnL.cons (Rn.same hno) (RnL.cons (Rn.same (Qab _)) (RnL.cons (Rn.x4 rfl rfl) RnL.nil))) (RB.newnil rfl rfl RB.nil))
  · rintro i hi
    by_cases hlt:i<l.length
    · obtain ⟨x, hx⟩ := Qai hlt
      have hwi:=h x (List.mem_of_getElem? hx)
      have hdr:=Qdq hx
      have hdl:4<=((l.flatMap auC).drop (i*4)).length:=by rw[hdr];simp
      have hsuc:=take_succ' hx
      have htl:(l.take i).length=i:=by rw[List.length_take];omega
      have htm:((l.take i).map emV).length=i:=by rw[List.length_map,htl]
      have hel:=hwi.el
      simp(disch:=first|omega|exact PairsOK.mk rfl|(simp only[lenW]<;>omega)) only[hlt,hdr,hdl,Qaa,Qad,Qae,wW,wV,simprocAttr]
      refine Qap 220 (fun j:Nat=>[(2,.ptr 51 0 0),(3,.ptr 52 0 0),(13,auts l),(14,.int .i64 l.length),(15,.int .i64 i),(6,.map 77 0),(21,egsN x.es),(22,.int .i64 x.es.length),(23,.int .i64 j)]) (fun j=>[(51,.cells 0 [.nilsl,.nilsl,.nilsl]),(52,.cells 0 [auts l,sliN (evA l),.sl 76 0 0 i 1]),(76,.cells 0 ((l.take i).map emV)),(77,.map 0 (mapG kP (vE x.es) ((x.es.take j).map pE)))]) (fun j=>j<=x.es.length) (fun j=>x.es.length-j) 0 2 280 (fun _:Unit=>[(2,.ptr 51 0 0),(3,.ptr 52 0 0),(13,auts l),(14,.int .i64 l.length),(15,.int .i64 i),(6,emV x)]) (fun _=>[(51,.cells 0 [.nilsl,.nilsl,.nilsl]),(52,.cells 0 [auts l,sliN (evA l),.sl 76 0 0 i 1]),(76,.cells 0 ((l.take i).map emV))]) (fun _=>True) ⟨[(51,.blk 51 0),(52,.blk 52 0),(76,.blk 76 0),(77,.blk 125 0)],rfl,au0,?_,au19⟩ (Nat.zero_le _) ?_ ?_
      · exact RB.cells rfl rfl gg (RnL.same rfl) (RB.cells rfl rfl gg (RnL.cons (Rn.same hno) (RnL.cons (Rn.same (Qab _)) (RnL.cons (Rn.x1 rfl rfl) RnL.nil))) (RB.cells rfl rfl gg (RnL.same (Qaj Qb5 _)) (RB.map rfl rfl gg (RnM.mapG fun _ _=>⟨rfl,rfl⟩) RB.nil)))
      · rintro j hj
        by_cases hjl:j<x.es.length
        · obtain ⟨e, he⟩ := Qai hjl
          have hde:=QaR he
          have hdel:3<=((x.es.flatMap edC).drop (j*3)).length:=by rw[hde];simp
          have hnew:=Qpd hwi.wf.es he
          have hup:=Qq7 hwi.wf.es (List.mem_of_getElem? he)
          simp(disch:=first|omega|exact PairsOK.mk rfl|(simp only[lenW]<;>omega)) only[hjl,hde,hdel,Qaa,Qad,Qae,wW,wV,simprocAttr]
          refine Qb2 (c:=kP) (f:=vE x.es) (x:=(e.1,e.2.1)) (l:=(x.es.take j).map pE) (g:=0) gg Qkg hnew (by omega) ?_
          rw[hup]
          simp(disch:=first|omega|exact PairsOK.mk rfl|(simp only[lenW]<;>omega)) only[Qaa,Qad,Qae,wW,wV,simprocAttr]
          refine⟨j+1,by omega,by omega,?_⟩
          rw[take_succ' he,List.map_append]
          refine⟨[(51,.blk 51 0),(52,.blk 52 0),(76,.blk 76 0),(77,.blk 77 0)],rfl,au0,?_,au19⟩
          exact RB.cells rfl rfl gg (RnL.same rfl) (RB.cells rfl rfl gg (RnL.cons (Rn.same hno) (RnL.cons (Rn.same (Qab _)) (RnL.cons (Rn.x1 rfl rfl) RnL.nil))) (RB.cells rfl rfl gg (RnL.same (Qaj Qb5 _)) (RB.map rfl rfl gg (RnM.mapG fun _ _=>⟨rfl,rfl⟩) RB.nil)))
        · have e : j = x.es.length := by omega
          subst e
          simp(disch:=first|omega|exact PairsOK.mk rfl|(simp only[lenW]<;>omega)) only[hjl,List.take_length,Qaa,Qad,Qae,wW,wV,simprocAttr]
          refine⟨(),[(51,.blk 51 0),(52,.blk 52 0),(76,.blk 76 0)],rfl,RO.zero,?_,?_⟩
          · exact RB.cells rfl rfl gg (RnL.same rfl) (RB.cells rfl rfl gg (RnL.cons (Rn.same hno) (RnL.cons (Rn.same (Qab _)) (RnL.cons (Rn.x1 rfl rfl) RnL.nil))) (RB.cells rfl rfl gg (RnL.same (Qaj Qb5 _)) RB.nil))
          · exact RT.cons (Rn.x2 rfl rfl) (RT.cons (Rn.x2 rfl rfl) (RT.cons (Rn.same hno) (RT.cons (Rn.same rfl) (RT.cons (Rn.same rfl) (RT.cons (Rn.fzM (b:=77) (g:=0) gg rfl rfl fun _ _=>⟨rfl,rfl⟩) RT.nil)))))
      rintro _ _
      have hem:=Qb5 x
      simp(disch:=first|omega|exact PairsOK.mk rfl|(simp only[lenW]<;>omega)) only[htm,Qaa,Qad,Qae,wW,wV,simprocAttr]
      refine⟨i+1,by omega,by omega,?_⟩
      rw[hsuc,List.map_append]
      refine⟨[(51,.blk 51 0),(52,.blk 52 0),(76,.blk 76 1)],rfl,au0,?_,au19⟩
      exact RB.cells rfl rfl gg (RnL.same rfl) (RB.cells rfl rfl gg (RnL.cons (Rn.same hno) (RnL.cons (Rn.same (Qab _)) (RnL.cons (Rn.x1 rfl rfl) RnL.nil))) (RB.cells rfl rfl gg (RnL.same (SU.Qao (Qaj Qb5 _) (Qaj Qb5 [x]))) RB.nil))
    · have e : i = l.length := by omega
      subst e
      simp(disch:=first|omega|exact PairsOK.mk rfl|(simp only[lenW]<;>omega)) only[hlt,List.take_length,Qaa,Qad,Qae,wW,wV,simprocAttr]
      refine⟨(),?_⟩
      refine⟨[(51,.blk 51 0),(52,.blk 52 0)],rfl,au0,?_,au19⟩
      exact RB.cells rfl rfl gg (RnL.same rfl) (RB.cells rfl rfl gg (RnL.cons (Rn.same hno) (RnL.cons (Rn.same (Qab _)) (RnL.cons (Rn.fzm rfl rfl rfl rfl (by simp) (RnL.same (Qaj Qb5 _))) RnL.nil))) RB.nil)
  rintro _ _
  simp(disch:=first|omega|exact PairsOK.mk rfl|(simp only[lenW]<;>omega)) only[Qaa,Qad,Qae,wW,wV,simprocAttr]
  refine⟨.inr trivial,_,rfl,?_⟩
  exact Rn.same (Qcy l)
end Go.AM.SO
namespace Go.AM.SO
open Go.Proofs Go.AM.SD Go.AM.SE
theorem Qdh (l:List Aut):noRefs [auts l,sliN (evA l),.fsl (l.map emV) l.length 1]=true:=by
 have:=Qcy l
 rwa [macV,noRef]at this
theorem Qoe (n:Nat) (x:Int):(List.replicate n [AV.int .i64 x]).flatten=ints (List.replicate n x):=by
 induction n with
 |zero=>rfl
 |succ n ih=>rw[List.replicate_succ,List.flatten_cons,ih];rfl
theorem Qq8 (n:Nat):nz (List.replicate n 0)=List.replicate n 0:=by simp[nz]
theorem initial97 (l:List Aut) (h:∀a∈l,WfI a) (h0:0<l.length) (hl:l.length<=12):PSpec Tryz.prog 97 [macV l] (.tup [sliN (List.replicate l.length 0),.bool true]):=by
  refine PSpec.of_rn 64 TP.ok97 rfl (by rw[noRefs,Qcy];rfl) (by rw[noRef,noRefs,Qab];rfl) ?_
  have hno:=Qa1 l
  have hnm:=Qdh l
  have hn':(l.length:Int)<=1099511627776:=by omega
  have hn8:(8:Int)*l.length<=1099511627776:=by omega
  simp(disch:=first|omega|exact PairsOK.mk rfl|(simp only[lenW]<;>omega)) only[TP.s97,Qaa,Qad,Qae,wW,wV,simprocAttr]
  refine Qap 100 (fun i:Nat=>[(1,.ptr 51 0 0),(7,auts l),(8,.int .i64 l.length),(9,.int .i64 i)]) (fun _=>[(51,.cells 0 [auts l,sliN (evA l),.fsl (l.map emV) l.length 1])]) (fun i=>i<=l.length) (fun i=>l.length-i) 0 0 140 (fun _:Unit=>[(1,.ptr 51 0 0)]) (fun _=>[(51,.cells 0 [auts l,sliN (evA l),.fsl (l.map emV) l.length 1])]) (fun _=>True) ⟨[(51,.blk 64 0)],rfl,au0,?_,au19⟩ (Nat.zero_le _) ?_ ?_
  · exact RB.cells rfl rfl gg (RnL.same hnm) RB.nil
  · rintro i hi
    by_cases hlt:i<l.length
    · obtain ⟨x, hx⟩ := Qai hlt
      have hwi:=h x (List.mem_of_getElem? hx)
      have hdr:=Qdq hx
      have hdl:4<=((l.flatMap auC).drop (i*4)).length:=by rw[hdr];simp
      have hp:¬(x.n:Int)=0:=by have:=hwi.pos;omega
      simp(disch:=first|omega|exact PairsOK.mk rfl|(simp only[lenW]<;>omega)) only[hlt,hdr,hdl,hp,Qaa,Qad,Qae,wW,wV,simprocAttr]
      refine⟨i+1,by omega,by omega,?_⟩
      refine⟨[(51,.blk 51 0)],rfl,au0,?_,au19⟩
      exact RB.cells rfl rfl gg (RnL.same hnm) RB.nil
    · simp (disch := first | omega | exact PairsOK.mk rfl | (simp only [lenW] <;> omega)) only [hlt, Qaa, Qad, Qae, wW, wV, simprocAttr]
      refine⟨(),?_⟩
      refine⟨[(51,.blk 51 0)],rfl,au0,?_,au19⟩
      exact RB.cells rfl rfl gg (RnL.same hnm) RB.nil
  rintro _ _
  simp(disch:=first|omega|exact PairsOK.mk rfl|(simp only[lenW]<;>omega)) only[hn',hn8,Qoe,Qaa,Qad,Qae,wW,wV,simprocAttr]
  refine⟨.inr trivial,_,rfl,?_⟩
  refine Rn.tup (RnL.cons ?_ (RnL.same rfl))
  have e:sliN (List.replicate l.length 0)= .fsl (ints (List.replicate l.length 0)) l.length 1:=by rw[sliN,Qq8,List.length_replicate]
  rw[e]
  exact Rn.fz0 (b:=143) rfl (by simp[ints]) (RnL.same (Qac _))
theorem _root_.Go.AM.au20 {p:Prop} (h:p:=by repeat' (first|exact RB.nil|(refine RnL.same ?_;first|rfl|(simp only[noRef,noRefs,Qah,Bool.and_self,Bool.and_true,Bool.true_and,Qac,Qau,Qab,Qak,QaQ,Qaf];done))|exact RnM.keyM rfl|exact RnL.nil|exact(True.intro:RnM _ _ _ [] [])|refine RnL.cons ?_ ?_|(refine Rn.same ?_;first|rfl|(simp only[noRef,noRefs,Qah,Bool.and_self,Bool.and_true,Bool.true_and,Qac,Qau,Qab,Qak,QaQ,Qaf];done))|exact Rn.x1 rfl rfl|exact Rn.x2 rfl rfl|exact Rn.x3 rfl rfl|exact Rn.x4 rfl rfl|exact Rn.x5 rfl|exact Rn.x6 rfl|exact Rn.x7 rfl|refine RB.newnil rfl rfl ?_|refine RB.cells rfl rfl rfl ?_ ?_|refine RB.map rfl rfl rfl ?_ ?_|refine RB.cellsB rfl rfl ?_ ?_|refine RB.mapB rfl rfl ?_ ?_)):p:=h
theorem marked99 (l : List Aut) (t : List Nat) (h : ∀ a ∈ l, WfI a) (hl : l.length <= 12) (ht : t.length = l.length) : PSpec Tryz.prog 99 [macV l, sliN t] (.bool (mkdT l t)) := by
  refine PSpec.of_rn 64 TP.ok99 rfl (by rw[noRefs,Qcy,noRefs,Qab];rfl) rfl ?_
  have hno:=Qa1 l
  have hnm:=Qdh l
  simp(disch:=first|omega|exact PairsOK.mk rfl|(simp only[lenW]<;>omega)) only[TP.s99,Qaa,Qad,Qae,wW,wV,simprocAttr]
  refine Qap 100 (fun i:Nat=>[(1,sliN t),(8,auts l),(9,.int .i64 l.length),(10,.int .i64 i)]) (fun _=>[]) (fun i=>i<=l.length/\mkdT l t=mkdT (l.drop i) (t.drop i)) (fun i=>l.length-i) 0 0 140 (fun _:Unit=>[]) (fun _=>[]) (fun _=>mkdT l t=true) ⟨[],rfl,au0,au20,au19⟩ ⟨Nat.zero_le _,rfl⟩ ?_ ?_
  · rintro i ⟨hi, hm⟩
    by_cases hlt:i<l.length
    · obtain ⟨x, hx⟩ := Qai hlt
      obtain⟨y,hy⟩:=Qai (l:=t) (i:=i) (by omega)
      have hwi:=h x (List.mem_of_getElem? hx)
      have hdr:=Qdq hx
      have hdl:4<=((l.flatMap auC).drop (i*4)).length:=by rw[hdr];simp
      have hlt2:i<t.length:=by omega
      have hst:mkdT (l.drop i) (t.drop i)=(x.ms.contains y&&mkdT (l.drop (i+1)) (t.drop (i+1))):=by
        obtain⟨h1,e1⟩:=List.getElem?_eq_some_iff.1 hx
        obtain⟨h2,e2⟩:=List.getElem?_eq_some_iff.1 hy
        rw[List.drop_eq_getElem_cons h1,List.drop_eq_getElem_cons h2,e1,e2];rfl
      have hc:=has189 x.ms y hwi.wf.ms (by have:=QaV x.n x.ms hwi.wf.nd hwi.wf.msn;have:=hwi.n3;omega)
      cases hq:x.ms.contains y
      · rw [hq] at hc hst
        simp(disch:=first|omega|exact PairsOK.mk rfl|(simp only[lenW]<;>omega)) only[hlt,hlt2,hdr,hdl,QaB hy,Qaa,Qad,Qae,wW,wV,simprocAttr]
        refine cp hc ?_
        simp(disch:=first|omega|exact PairsOK.mk rfl|(simp only[lenW]<;>omega)) only[Qaa,Qad,Qae,wW,wV,simprocAttr]
        refine⟨.inr trivial,_,rfl,?_⟩
        rw[hm,hst]
        exact Rn.same rfl
      · rw [hq, Bool.true_and] at hst
        rw[hq]at hc
        simp(disch:=first|omega|exact PairsOK.mk rfl|(simp only[lenW]<;>omega)) only[hlt,hlt2,hdr,hdl,QaB hy,Qaa,Qad,Qae,wW,wV,simprocAttr]
        refine cp hc ?_
        simp(disch:=first|omega|exact PairsOK.mk rfl|(simp only[lenW]<;>omega)) only[Qaa,Qad,Qae,wW,wV,simprocAttr]
        exact⟨i+1,by omega,⟨by omega,by rw[hm,hst]⟩,⟨[],rfl,au0,au20,au19⟩⟩
    · have e : i = l.length := by omega
      subst e
      simp(disch:=first|omega|exact PairsOK.mk rfl|(simp only[lenW]<;>omega)) only[hlt,Qaa,Qad,Qae,wW,wV,simprocAttr]
      refine⟨(),by rw[hm,List.drop_eq_nil_of_le (Nat.le_refl _)];rfl,?_⟩
      exact⟨[],rfl,au0,au20,au19⟩
  rintro _ hm
  simp(disch:=first|omega|exact PairsOK.mk rfl|(simp only[lenW]<;>omega)) only[Qaa,Qad,Qae,wW,wV,simprocAttr]
  refine⟨.inr trivial,_,rfl,?_⟩
  rw[hm]
  exact Rn.same rfl
def stV:Option (List Nat)->AV
 |some n=> .tup [sliN n,.bool true]
 |none=> .tup [.nilsl,.bool false]
theorem Qof (o:Option (List Nat)):noRef (stV o)=true:=by
 cases o with
 |none=>rfl
 |some n=>rw[stV,noRef,noRefs,Qab];rfl
theorem QkC {l:List Aut} {t:List Nat} {e:Nat} {k:Nat} (h:stp l t e k=none):∀m,stp l t e (k+m)=none
 |0=>h
 |m+1=>by
  have:=QkC h m
  show stp l t e (k+m+1)=none
  unfold stp;rw[this]
theorem Qq9 {l:List Nat} {i x:Nat}:(ints (nz l)).set i (.int .i64 (x:Int))=ints (nz (l.set i x)):=by simp[ints,nz,List.map_set]
theorem Qp1 {l:List Aut} {i:Nat} {x:Aut} (h:l[i]?=some x):((l.map emV).drop i).head?=some (emV x):=by
 rw[List.head?_drop,List.getElem?_map,h];rfl
theorem step100 (l : List Aut) (t : List Nat) (e : Nat) (h : ∀ a ∈ l, WfI a) (h0 : 0 < l.length) (hl : l.length <= 12) (ht : t.length = l.length) : PSpec Tryz.prog 100 [macV l, sliN t, .int .i64 (e : Int)] (stV (stepT l t e)) := by
  refine PSpec.of_rn 64 TP.ok100 rfl (by rw[noRefs,Qcy,noRefs,Qab];rfl) (Qof _) ?_
  have hno:=Qa1 l
  have hnm:=Qdh l
  have hml:(l.map emV).length=l.length:=List.length_map ..
  have hcl:=clone56 t (by omega)
  simp(disch:=first|omega|exact PairsOK.mk rfl|(simp only[lenW]<;>omega)) only[TP.s100,Qaa,Qad,Qae,wW,wV,simprocAttr]
  refine ch (HSpec.of_O (b:=83) (by rw[noRefs,Qab];rfl) hcl (by repeat (first|exact Fresh.e|exact Fresh.le (by assumption) (by omega)|refine Fresh.set ?_ (by omega) (by omega))) rfl) ?_
  simp(disch:=first|omega|exact PairsOK.mk rfl|(simp only[lenW]<;>omega)) only[Qaa,Qad,Qae,wW,wV,simprocAttr]
  refine Qap 120 (fun s:Nat×List Nat=>[(1,sliN t),(2,.int .i64 (e:Int)),(3,.ptr 51 0 0),(8,.sl 60 0 0 t.length 1),(16,auts l),(17,.int .i64 l.length),(18,.int .i64 s.1)]) (fun s=>[(51,.cells 0 [auts l,sliN (evA l),.fsl (l.map emV) l.length 1]),(60,.cells 0 (ints (nz s.2)))]) (fun s=>s.1<=l.length/\s.2.length=t.length/\stp l t e s.1=some s.2) (fun s=>l.length-s.1) (0,t) 0 200 (fun n:List Nat=>[(8,.sl 60 0 0 t.length 1)]) (fun n=>[(60,.cells 0 (ints (nz n)))]) (fun n=>n.length=t.length/\stepT l t e=some n) ?_ ⟨Nat.zero_le _,rfl,rfl⟩ ?_ ?_
  · refine ⟨[(51, .blk 64 0), (60, .blk 83 0)], rfl, au0, ?_, au19⟩
    exact RB.cells rfl rfl gg (RnL.same hnm) (RB.cells rfl rfl gg (RnL.same (Qac _)) RB.nil)
  · rintro ⟨i, n⟩ ⟨hi, hn, hs⟩
    dsimp only at hi hn hs⊢
    by_cases hlt:i<l.length
    · obtain ⟨x, hx⟩ := Qai hlt
      obtain⟨y,hy⟩:=Qai (l:=t) (i:=i) (by omega)
      have hyd:t.getD i 0=y:=by rw[List.getD_eq_getElem?_getD,hy];rfl
      have hwi:=h x (List.mem_of_getElem? hx)
      have hdr:=Qdq hx
      have hdl:4<=((l.flatMap auC).drop (i*4)).length:=by rw[hdr];simp
      have hlt2:i<t.length:=by omega
      have hin:i+1<=n.length:=by omega
      have hc:=has189 x.al e hwi.wf.al (by have:=Qfw hwi.wf;omega)
      have hstep:stp l t e (i+1)=if e∈x.al then(match stepA x.es y e with|some to=>some (n.set i to)|none=>none)else some n:=by
        unfold stp;rw[hs,hx,hyd]
        rfl
      by_cases hq:e∈x.al
      · rw [List.contains_iff_mem.2 hq] at hc
        rw[if_pos hq]at hstep
        simp(disch:=first|omega|exact PairsOK.mk rfl|(simp only[lenW]<;>omega)) only[hlt,hlt2,hdr,hdl,Qaa,Qad,Qae,wW,wV,simprocAttr]
        refine cp hc ?_
        simp(disch:=first|omega|exact PairsOK.mk rfl|(simp only[lenW]<;>omega)) only[hlt,hlt2,Qp1 hx,QaB hy,hml,Qaa,Qad,Qae,wW,wV,simprocAttr]
        cases hst:stepA x.es y e with
        | none =>
          rw[hst]at hstep
          have hk:(y,e)∉x.es.map pE:=fun hm=>by
            obtain⟨d,hd,e2⟩:=List.mem_map.1 hm
            have h3:=QgL hwi.wf.es hd
            unfold pE at e2
            simp only[Prod.mk.injEq]at e2
            rw[e2.1,e2.2,hst]at h3;cases h3
          have hfin:stepT l t e=none:=by
            have:=QkC hstep (l.length-(i+1))
            rwa [show i+1+(l.length-(i+1))=l.length by omega]at this
          refine Qjg (c:=kP) (f:=vE x.es) (x:=(y,e)) (l:=x.es.map pE) Qkg hk ?_
          simp(disch:=first|omega|exact PairsOK.mk rfl|(simp only[lenW]<;>omega)) only[Qaa,Qad,Qae,wW,wV,simprocAttr]
          refine⟨.inr trivial,_,rfl,?_⟩
          rw[hfin]
          exact Rn.same rfl
        | some to =>
          rw[hst]at hstep
          have hv:vE x.es (y,e)= .int .i64 (to:Int):=by unfold vE;rw[hst];rfl
          refine Qfo (c:=kP) (f:=vE x.es) (x:=(y,e)) (l:=x.es.map pE) Qkg (QdY hst) ?_
          rw[hv]
          simp(disch:=first|omega|exact PairsOK.mk rfl|(simp only[lenW]<;>omega)) only[hlt2,hin,Qq9,Qaa,Qad,Qae,wW,wV,simprocAttr]
          refine⟨(i+1,n.set i to),by dsimp only;omega,⟨by dsimp only;omega,by rw[List.length_set];exact hn,hstep⟩,?_⟩
          refine⟨[(51,.blk 51 0),(60,.blk 60 0)],rfl,au0,?_,au19⟩
          exact RB.cells rfl rfl gg (RnL.same hnm) (RB.cells rfl rfl gg (RnL.same (Qac _)) RB.nil)
      · rw [show x.al.contains e = false by rw [Bool.eq_false_iff]; exact fun hh => hq (List.contains_iff_mem.1 hh)] at hc
        rw[if_neg hq]at hstep
        simp(disch:=first|omega|exact PairsOK.mk rfl|(simp only[lenW]<;>omega)) only[hlt,hlt2,hdr,hdl,Qaa,Qad,Qae,wW,wV,simprocAttr]
        refine cp hc ?_
        simp(disch:=first|omega|exact PairsOK.mk rfl|(simp only[lenW]<;>omega)) only[Qaa,Qad,Qae,wW,wV,simprocAttr]
        refine⟨(i+1,n),by dsimp only;omega,⟨by dsimp only;omega,hn,hstep⟩,?_⟩
        refine⟨[(51,.blk 51 0),(60,.blk 60 0)],rfl,au0,?_,au19⟩
        exact RB.cells rfl rfl gg (RnL.same hnm) (RB.cells rfl rfl gg (RnL.same (Qac _)) RB.nil)
    · have e2 : i = l.length := by omega
      subst e2
      simp(disch:=first|omega|exact PairsOK.mk rfl|(simp only[lenW]<;>omega)) only[hlt,Qaa,Qad,Qae,wW,wV,simprocAttr]
      refine⟨n,⟨hn,hs⟩,?_⟩
      refine⟨[(60,.blk 60 0)],rfl,au0,?_,au19⟩
      exact RB.cells rfl rfl gg (RnL.same (Qac _)) RB.nil
  rintro n ⟨hn,hs⟩
  simp(disch:=first|omega|exact PairsOK.mk rfl|(simp only[lenW]<;>omega)) only[Qaa,Qad,Qae,wW,wV,simprocAttr]
  refine⟨.inr trivial,_,rfl,?_⟩
  rw[hs]
  refine Rn.tup (RnL.cons ?_ (RnL.same rfl))
  rw[<-hn]
  exact Rn.fz0 gg (by simp[ints]) (RnL.same (Qac _))
end Go.AM.SO
namespace Go.AM.TK
open Go.Proofs
set_option maxHeartbeats 4000000
noncomputable section
def cf:YA.Cf:={}
noncomputable def ft:FT2:=YA.tre Tryz.prog cf 20 [72,98,154,155,156,188,200,201,232,263]
theorem ft_ok:ft.OK Tryz.prog:=YA.Qhe _ _ (YA.QgD (by kernel_rfl))
end
end Go.AM.TK
namespace Go.AM.SO
open Go.Proofs Go.AM.SD
noncomputable section
def keyT (t:List Nat):List UInt8:=t.flatMap fun x=>[UInt8.ofNat (48+x),32]
def keyB (k:Nat) (t:List Nat):Bool:=callR ansB noOrc TK.ft.get (exR ansB noOrc TK.ft.get 1000) (.c .pure) k [sliN t] .e 64 (fun u _ _=>eqAV (.str (keyT t)) u)
theorem Qhv {k:Nat} {t:List Nat} (h:keyB k t=true):PSpec Tryz.prog k [sliN t] (.str (keyT t)):=
 Qbx (t:=TK.ft) TK.ft_ok QcS (d:=1000) (eqAV _) (fun u h=>(QcQ _ _ h).symm) h
def allK (k n:Nat):List Nat->Bool:=@Nat.rec (fun _=>List Nat->Bool) (fun t=>keyB k t) (fun _ ih t=>ifB (ih (t++[0])) (ifB (ih (t++[1])) (ih (t++[2])) false) false) n
theorem Qek {k:Nat}:∀{t u:List Nat},allK k t.length u=true->(∀x∈t,x<3)->keyB k (u++t)=true
 |[],u,h,_=>by rw[List.append_nil];exact h
 | x :: t, u, h, h3 => by
  have e:allK k (x::t).length u=ifB (allK k t.length (u++[0])) (ifB (allK k t.length (u++[1])) (allK k t.length (u++[2])) false) false:=rfl
  rw[e]at h
  simp only[Qaw]at h
  have hx:=h3 x (by simp)
  have h4:allK k t.length (u++[x])=true:=by
   split at h
   ·rename_i h0
    split at h
    ·rename_i h1
     obtain rfl|rfl|rfl:x=0\/x=1\/x=2:=by omega
     ·exact h0
     ·exact h1
     ·exact h
    ·cases h
   ·cases h
  have:=Qek h4 fun y hy=>h3 y (by simp[hy])
  rw[List.append_assoc]at this
  exact this
theorem Qp2:allK 98 1 []=true:=by kernel_rfl
theorem Qp3:allK 98 2 []=true:=by kernel_rfl
theorem Qp4:allK 98 3 []=true:=by kernel_rfl
theorem key98 {t:List Nat} (h0:0<t.length) (hl:t.length<=3) (h3:∀x∈t,x<3):PSpec Tryz.prog 98 [sliN t] (.str (keyT t)):=by
 refine Qhv (Qek (u:=[]) ?_ h3)
 obtain e|e|e:t.length=1\/t.length=2\/t.length=3:=by omega
 ·rw[e];exact Qp2
 ·rw[e];exact Qp3
 ·rw[e];exact Qp4
theorem QkD:∀{s t:List Nat},s.length=t.length->(∀x∈s,x<10)->(∀x∈t,x<10)->keyT s=keyT t->s=t
 |[],[],_,_,_,_=>rfl
 | x :: s, y :: t, hl, hs, ht, h => by
  have e1:keyT (x::s)=UInt8.ofNat (48+x)::32::keyT s:=rfl
  have e2:keyT (y::t)=UInt8.ofNat (48+y)::32::keyT t:=rfl
  rw[e1,e2]at h
  simp only[List.cons.injEq,true_and]at h
  have hx:=hs x (by simp)
  have hy:=ht y (by simp)
  have h1:x=y:=by
   have:=congrArg UInt8.toNat h.1
   simp only[UInt8.toNat_ofNat']at this
   omega
  subst h1
  rw[QkD (by simpa using hl) (fun z hz=>hs z (by simp[hz])) (fun z hz=>ht z (by simp[hz])) h.2]
end
end Go.AM.SO
namespace Go.AM.SO
open Go.Proofs Go.AM.SD Go.AM.SE
abbrev ixT (T:List (List Nat)) (n:List Nat):Nat:=T.findIdx (· ==n)
theorem QfJ {A B:List (List Nat)} {n:List Nat} (h:A<+:B) (hn:n∈A):ixT A n=ixT B n:=by
 obtain⟨C,rfl⟩:=h
 have h1:A.findIdx (· ==n)<A.length:=List.findIdx_lt_length_of_exists ⟨n,hn,by simp⟩
 show _=(A++C).findIdx (· ==n)
 rw[List.findIdx_append,if_pos h1]
theorem Qel {A:List (List Nat)} {n:List Nat} (hn:n∉A):ixT A n=A.length:=by
 show A.findIdx (· ==n)=_
 rw[List.findIdx_eq_length]
 intro x hx
 simp
 exact fun e=>hn (e▸hx)
theorem Qma {A:List (List Nat)} {n:List Nat} (hn:n∉A):ixT A n=ixT (A++[n]) n:=by
 rw[Qel hn]
 show _=(A++[n]).findIdx (· ==n)
 have h:A.findIdx (· ==n)=A.length:=Qel hn
 rw[List.findIdx_append,h,if_neg (Nat.lt_irrefl _)]
 simp
theorem QhY {A:List (List Nat)} {n:List Nat} (hn:n∈A):A[ixT A n]?=some n:=by
 have h1:A.findIdx (· ==n)<A.length:=List.findIdx_lt_length_of_exists ⟨n,hn,by simp⟩
 rw[List.getElem?_eq_getElem h1]
 have:=List.findIdx_getElem (w:=h1)
 simp at this
 rw[this]
theorem Qhw {A:List (List Nat)} {n:List Nat} (hn:n∈A):ixT A n<A.length:=List.findIdx_lt_length_of_exists ⟨n,hn,by simp⟩
theorem Qog {A:List (List Nat)} {n:List Nat} {i:Nat} (hd:A.Nodup) (h:A[i]?=some n):ixT A n=i:=by
 have h1:=QhY (List.mem_of_getElem? h)
 have hi:i<A.length:=by
  rcases Nat.lt_or_ge i A.length with h2|h2
  ·exact h2
  ·rw[List.getElem?_eq_none h2]at h;cases h
 exact((List.getElem?_inj hi hd).1 (h.trans h1.symm)).symm
def rowE (l:List Aut) (ev:List Nat) (T:List (List Nat)) (j:Nat) (t:List Nat):List Ed:=ev.filterMap fun e=>(stepT l t e).map fun n=>(j,e,ixT T n)
theorem QmK {l:List Aut} {ev:List Nat} {A B:List (List Nat)} {j:Nat} {t:List Nat} (h:A<+:B) (hc:∀e∈ev,∀n,stepT l t e=some n->n∈A):rowE l ev A j t=rowE l ev B j t:=by
 unfold rowE
 refine filterMap_congr' fun e he=>?_
 cases hs:stepT l t e with
 |none=>rfl
 |some n=>simp only[Option.map_some,QfJ h (hc e he n hs)]
where
 filterMap_congr' {α β:Type} {f g:α->Option β}:∀{l:List α},(∀x∈l,f x=g x)->l.filterMap f=l.filterMap g
  |[],_=>rfl
  |x::l,h=>by
   rw[List.filterMap_cons,List.filterMap_cons,h x (by simp),filterMap_congr' (l:=l) fun y hy=>h y (by simp[hy])]
theorem QiV {l:List Aut} {i:Nat} {t:List Nat}:∀{ev:List Nat} {s:List (List Nat)×List Ed},
  (pRow l ev i t s).2=s.2++rowE l ev (pRow l ev i t s).1 i t/\∀e∈ev,∀n,stepT l t e=some n->n∈(pRow l ev i t s).1
 |[],s=>by refine⟨by simp[pRow,rowE],fun e he=>by cases he⟩
 | e :: ev, s => by
  have ih:=QiV (l:=l) (i:=i) (t:=t) (ev:=ev) (s:=pEv l i t s e)
  have hp:=Qcl (l:=l) (i:=i) (t:=t) (ev:=ev) (s:=pEv l i t s e)
  have h1:pRow l (e::ev) i t s=pRow l ev i t (pEv l i t s e):=rfl
  rw[h1]
  obtain⟨i1,i2⟩:=ih
  cases hs:stepT l t e with
  | none =>
   have h2:pEv l i t s e=s:=by unfold pEv;rw[hs]
   rw[h2]at i1 i2 hp⊢
   refine⟨?_,fun e' he' n hn=>?_⟩
   ·rw [i1]; congr 1
    unfold rowE;rw[List.filterMap_cons,hs];rfl
   ·rcases List.mem_cons.1 he' with rfl | he'
    ·rw[hs]at hn;cases hn
    ·exact i2 e' he' n hn
  | some n =>
   have h2:pEv l i t s e=(if n∈s.1 then s.1 else s.1++[n],s.2++[(i,e,ixT s.1 n)]):=by unfold pEv;rw[hs]
   rw[h2]at i1 i2 hp⊢
   have hmem:n∈(if n∈s.1 then s.1 else s.1++[n]):=by split<;>simp[*]
   have hix:ixT s.1 n=ixT (if n∈s.1 then s.1 else s.1++[n]) n:=by
    split
    ·rfl
    ·rename_i hm;exact Qma hm
   have hix2:=QfJ hp hmem
   refine⟨?_,fun e' he' n' hn=>?_⟩
   ·generalize pRow l ev i t (if n ∈ s.1 then s.1 else s.1 ++ [n], s.2 ++ [(i, e, ixT s.1 n)]) = R at *
    have e1:rowE l (e::ev) R.1 i t=(i,e,ixT R.1 n)::rowE l ev R.1 i t:=by
     unfold rowE;rw[List.filterMap_cons,hs];rfl
    have e2:ixT s.1 n=ixT R.1 n:=hix.trans hix2
    rw[i1,e1,<-e2]
    show s.2++[(i,e,ixT s.1 n)]++_=_
    simp
   ·rcases List.mem_cons.1 he' with rfl | he'
    ·rw [hs] at hn; cases hn
     exact hp.subset hmem
    ·exact i2 e' he' n' hn
structure PE (l:List Aut) (ev:List Nat) (i:Nat) (s:List (List Nat)×List Ed):Prop where
 ed:s.2=(List.range i).flatMap fun j=>rowE l ev s.1 j (s.1.getD j [])
 cl:∀j t,j<i->s.1[j]?=some t->∀e∈ev,∀n,stepT l t e=some n->n∈s.1
 le:i<=s.1.length
theorem QgM {A B:List (List Nat)} (h:A<+:B) {j:Nat} (hj:j<A.length):B.getD j []=A.getD j []:=by
 obtain⟨C,rfl⟩:=h
 rw[List.getD_eq_getElem?_getD,List.getD_eq_getElem?_getD,List.getElem?_append_left hj]
theorem QfK {A B:List (List Nat)} (h:A<+:B) {j:Nat} (hj:j<A.length):B[j]?=A[j]?:=by
 obtain⟨C,rfl⟩:=h
 rw[List.getElem?_append_left hj]
theorem flatMap_congr' {α β:Type} {f g:α->List β}:∀{l:List α},(∀x∈l,f x=g x)->l.flatMap f=l.flatMap g
 |[],_=>rfl
 |x::l,h=>by
  rw[List.flatMap_cons,List.flatMap_cons,h x (by simp),flatMap_congr' (l:=l) fun y hy=>h y (by simp[hy])]
theorem PE.row {l:List Aut} {ev:List Nat} {i:Nat} {s:List (List Nat)×List Ed} {t:List Nat} (h:PE l ev i s) (ht:s.1[i]?=some t):PE l ev (i+1) (pRow l ev i t s):=by
  have hp:=Qcl (l:=l) (i:=i) (t:=t) (ev:=ev) (s:=s)
  obtain⟨h1,h2⟩:=QiV (l:=l) (i:=i) (t:=t) (ev:=ev) (s:=s)
  have hi:i<s.1.length:=by
    rcases Nat.lt_or_ge i s.1.length with h|h
    · exact h
    · rw[List.getElem?_eq_none h]at ht;cases ht
  refine⟨?_,fun j u hj hu e he n hn=>?_,Nat.le_trans hi hp.length_le⟩
  · rw [h1, List.range_succ, List.flatMap_append, List.flatMap_cons, List.flatMap_nil, List.append_nil]
    have e1:(pRow l ev i t s).1.getD i []=t:=by rw[QgM hp hi,List.getD_eq_getElem?_getD,ht];rfl
    rw[e1]
    congr 1
    rw[h.ed]
    refine flatMap_congr' fun j hj=>?_
    have hj':=List.mem_range.1 hj
    obtain⟨u,hu⟩:=Qai (l:=s.1) (i:=j) (by omega)
    rw[QgM hp (by omega)]
    refine QmK hp fun e he n hn=>?_
    rw[List.getD_eq_getElem?_getD,hu]at hn
    exact h.cl j u hj' hu e he n hn
  · rcases Nat.lt_succ_iff_lt_or_eq.1 hj with hj | rfl
    · rw [QfK hp (by omega)] at hu
      exact hp.subset (h.cl j u hj hu e he n hn)
    · rw [QfK hp (by omega), ht] at hu; cases hu
      exact h2 e he n hn
theorem Qmb {l:List Aut} {ev:List Nat} (hw:∀a∈l,∀e∈a.es,e.1<a.n/\e.2.2<a.n):∀{k i:Nat} {s:List (List Nat)×List Ed},PI l s->box l<k+i->PE l ev i s->PE l ev (pQ l ev k i s).1.length (pQ l ev k i s)
 |0,i,s,h,hk,he=>by
  have h1:=QcH h.nd h.inT
  have h2:=he.le
  unfold pQ
  have:i=s.1.length:=by omega
  rwa [this]at he
 | k + 1, i, s, h, hk, he => by
  unfold pQ
  cases hs:s.1[i]? with
  | none =>
   have h2:=he.le
   have:i=s.1.length:=by
    rcases Nat.lt_or_ge i s.1.length with h|h
    ·rw[List.getElem?_eq_getElem h]at hs;cases hs
    ·omega
   rwa [this]at he
  |some t=>exact Qmb hw (Qdp hw (h.inT t (List.mem_of_getElem? hs)) h) (by omega) (he.row hs)
theorem QdZ {l:List Aut} (h0:∀a∈l,0<a.n) (hw:∀a∈l,∀e∈a.es,e.1<a.n/\e.2.2<a.n):PE l (evA l) (sync0 l).1.length (sync0 l):=
 Qmb hw (QeI h0) (by omega) ⟨rfl,fun j t hj=>absurd hj (Nat.not_lt_zero _),Nat.zero_le _⟩
theorem sync_pre {l:List Aut}:[List.replicate l.length 0]<+:(sync0 l).1:=Qn2 (s:=([List.replicate l.length 0],[]))
end Go.AM.SO
namespace Go.AM.SO
open Go.Proofs Go.AM.SD Go.AM.SE
def keyC (t:List Nat):AV:= .str (keyT t)
def ixV (T:List (List Nat)) (t:List Nat):AV:= .int .i64 ((ixT T t:Nat):Int)
abbrev tuV (T:List (List Nat)):AV:= .fsl (T.map sliN) T.length 1
theorem Qbu (T:List (List Nat)):noRef (tuV T)=true:=by rw[tuV,noRef];exact Qaj Qab _
theorem InT.lt {l:List Aut} (h:∀a∈l,WfI a) {t:List Nat} (ht:InT l t) {x:Nat} (hx:x∈t):x<3:=by
 obtain⟨i,hi,hil⟩:=QdN hx
 obtain⟨a,ha⟩:=Qai (l:=l) (i:=i) (by rw[<-ht.1];exact hil)
 have h1:=ht.2 i a ha
 rw[List.getD_eq_getElem?_getD,hi]at h1
 have h2:=(h a (List.mem_of_getElem? ha)).n3
 simp only[Option.getD_some]at h1
 omega
theorem Qfy {l:List Aut} (h:∀a∈l,WfI a) {x:List Nat} {T:List (List Nat)} (hx:InT l x) (hT:∀t∈T,InT l t):KeyG false [.s] keyC x T:=by
 have key:∀y,InT l y->keyEq false [.s] (keyC x) (keyC y)=some (decide (x=y)):=by
  intro y hy
  have e:keyEq false [.s] (keyC x) (keyC y)=some (decide (keyT x=keyT y)):=Qfk
  rw[e]
  congr 1
  refine decide_eq_decide.2 ⟨fun hh=>QkD (by rw[hx.1,hy.1]) (fun z hz=>?_) (fun z hz=>?_) hh,fun hh=>by rw[hh]⟩
  ·have:=hx.lt h hz;omega
  ·have:=hy.lt h hz;omega
 refine⟨?_,fun y hy=>key y (hT y hy)⟩
 unfold keyOK
 rw[key x hx]
theorem Qmc {T:List (List Nat)} {n:List Nat} (hn:n∉T):mapG keyC (updG (ixV T) n (.int .i64 ((T.length:Nat):Int))) (T++[n])=mapG keyC (ixV (T++[n])) (T++[n]):=by
 refine Qhm fun x hx=>?_
 unfold updG
 split
 ·rename_i e; subst e
  unfold ixV
  rw[<-Qma hn,Qel hn]
 ·rename_i e
  unfold ixV
  rw[QfJ (List.prefix_append T [n]) (by
   rcases List.mem_append.1 hx with hx|hx
   ·exact hx
   ·simp at hx;exact absurd hx e)]
def marks (l:List Aut) (T:List (List Nat)) (i:Nat):List Nat:=(List.range i).filter fun j=>mkdT l (T.getD j [])
theorem QmL {l:List Aut} {T:List (List Nat)} {i:Nat} {t:List Nat} (ht:T[i]?=some t):marks l T (i+1)=if mkdT l t=true then marks l T i++[i]else marks l T i:=by
 have e:T.getD i []=t:=by rw[List.getD_eq_getElem?_getD,ht];rfl
 unfold marks
 rw[List.range_succ,List.filter_append]
 by_cases hm:mkdT l t=true
 ·rw[if_pos hm,List.filter_cons_of_pos (by rw[e];exact hm),List.filter_nil]
 ·rw[if_neg hm,List.filter_cons_of_neg (by rw[e];exact hm),List.filter_nil,List.append_nil]
theorem QiW {l:List Aut} {A B:List (List Nat)} (h:A<+:B) {i:Nat} (hi:i<=A.length):marks l B i=marks l A i:=by
 unfold marks
 refine List.filter_congr fun j hj=>?_
 rw[QgM h (by have:=List.mem_range.1 hj;omega)]
theorem QiX {l:List Aut} {T:List (List Nat)} {i:Nat}:(marks l T i).length<=i:=by
 have:=List.length_filter_le (fun j=>mkdT l (T.getD j [])) (List.range i)
 rwa [List.length_range]at this
theorem Qp5 {l:List Aut} {i e:Nat} {t:List Nat} {s:List (List Nat)×List Ed}:(pEv l i t s e).2.length<=s.2.length+1:=by
 unfold pEv
 cases stepT l t e with
 |none=>exact Nat.le_succ _
 |some n=>simp
theorem QdS {l:List Aut} {i:Nat} {t:List Nat}:∀{ev:List Nat} {s:List (List Nat)×List Ed},(pRow l ev i t s).2.length<=s.2.length+ev.length
 |[],s=>Nat.le_refl _
 |e::ev,s=>by
  have h1:=QdS (l:=l) (i:=i) (t:=t) (ev:=ev) (s:=pEv l i t s e)
  have h2:=@Qp5 l i e t s
  show(pRow l ev i t (pEv l i t s e)).2.length<=_
  rw[List.length_cons];omega
theorem QiY {l:List Aut} {ev:List Nat} {i j e:Nat} {t:List Nat} {s:List (List Nat)×List Ed} (h:ev[j]?=some e):pRow l (ev.take (j+1)) i t s=pEv l i t (pRow l (ev.take j) i t s) e:=by
 unfold pRow
 rw[take_succ' h,List.foldl_append];rfl
theorem QdT {T:List (List Nat)} {i:Nat} {t:List Nat} (h:T[i]?=some t):(T.map sliN)[i]?=some (sliN t):=by rw[List.getElem?_map,h];rfl
theorem Qp6 {l:List Aut} {ev:List Nat} {k i:Nat} {s:List (List Nat)×List Ed} (h:s.1[i]?=none):pQ l ev k i s=s:=by
 cases k with
 |zero=>rfl
 |succ k=>unfold pQ;rw[h]
theorem sync28 (l : List Aut) (h : ∀ a ∈ l, WfI a) (h0 : 0 < l.length) (hl : l.length <= 5) (hkey : ∀ t, InT l t -> PSpec Tryz.prog 98 [sliN t] (.str (keyT t))) :
    PSpec Tryz.prog 28 [auts l] (.tup [aV (syncA l),tuV (sync0 l).1,.int .i64 0]):=by
  have hno:=Qa1 l
  have hnm:=Qdh l
  have hnr:noRef (.tup [aV (syncA l),tuV (sync0 l).1,.int .i64 0])=true:=by
    rw[noRef,noRefs,noRefs,Qbu,noRef,noRefs,noRefs,noRefs,noRefs,Qab,Qab,Qak];rfl
  refine PSpec.of_rn 64 TP.ok28 rfl (by rw[noRefs,hno];rfl) hnr ?_
  have hw:∀a∈l,∀e∈a.es,e.1<a.n/\e.2.2<a.n:=fun a ha=>(h a ha).wf.esn
  have hpos:∀a∈l,0<a.n:=fun a ha=>(h a ha).pos
  have hbox:box l<=243:=Nat.le_trans (Qky (fun a ha=>(h a ha).n3) (by omega)) (Nat.pow_le_pow_right (n:=3) (by omega) hl)
  have hc:=check95 l h (by omega)
  have ho:=open96 l h (by omega)
  have hi:=initial97 l h h0 (by omega)
  have hst0:=QeI (l:=l) hpos
  have hin0:InT l (List.replicate l.length 0):=hst0.inT _ (by simp)
  have hk0:=hkey _ hin0
  have hev5:=QfI h
  have hml:(l.map emV).length=l.length:=List.length_map ..
  simp(disch:=first|omega|exact PairsOK.mk rfl|(simp only[lenW]<;>omega)) only[TP.s28,Qaa,Qad,Qae,wW,wV,simprocAttr]
  refine cp hc ?_
  simp(disch:=first|omega|exact PairsOK.mk rfl|(simp only[lenW]<;>omega)) only[Qaa,Qad,Qae,wW,wV,simprocAttr]
  refine cp ho ?_
  simp(disch:=first|omega|exact PairsOK.mk rfl|(simp only[lenW]<;>omega)) only[Qaa,Qad,Qae,wW,wV,simprocAttr]
  refine cp hi ?_
  simp(disch:=first|omega|exact PairsOK.mk rfl|(simp only[lenW]<;>omega)) only[Qaa,Qad,Qae,wW,wV,simprocAttr]
  refine cp hk0 ?_
  simp(disch:=first|omega|exact PairsOK.mk rfl|(simp only[lenW]<;>omega)) only[Qaa,Qad,Qae,wW,wV,simprocAttr]
  refine Qb2 (c:=keyC) (f:=fun _=> .nilsl) (x:=List.replicate l.length 0) (l:=[]) (g:=0) gg (Qfy h hin0 fun t ht=>by cases ht) (by simp) (by omega) ?_
  have hm0:mapG keyC (updG (fun _=> .nilsl) (List.replicate l.length 0) (.int .i64 0)) ([]++[List.replicate l.length 0])=mapG keyC (ixV [List.replicate l.length 0]) [List.replicate l.length 0]:=by
    refine Qhm fun x hx=>?_
    have hx:x=List.replicate l.length 0:=by simpa using hx
    subst hx
    unfold updG ixV
    rw[if_pos rfl]
    simp[ixT]
  rw[hm0]
  simp(disch:=first|omega|exact PairsOK.mk rfl|(simp only[lenW]<;>omega)) only[Qaa,Qad,Qae,wW,wV,simprocAttr]
  refine Qap 320 (fun q:Nat×(List (List Nat)×List Ed)=>[(2,.ptr 51 0 0),(6,.ptr 52 0 0),(3,.sl 60 0 0 q.2.1.length 1),(9,.map 53 0),(10,.int .i64 (q.1))]) (fun q=>[(51,.cells 0 [sliN (evA l),.int .i64 0,.sl 70 0 0 (marks l q.2.1 q.1).length 1,.sl 71 0 0 q.2.2.length 3]),(52,.cells 0 [auts l,sliN (evA l),.fsl (l.map emV) l.length 1]),(53,.map 0 (mapG keyC (ixV q.2.1) q.2.1)),(60,.cells 0 (q.2.1.map sliN)),(70,.cells 0 (ints (nz (marks l q.2.1 q.1)))),(71,.cells 0 (q.2.2.flatMap edC))]) (fun q=>q.1<=q.2.1.length/\PI l q.2/\q.2.2.length<=q.1*5/\pQ l (evA l) (box l+1-q.1) q.1 q.2=sync0 l) (fun q=>box l+1-q.1) (0,([List.replicate l.length 0],[])) 0 900
    (fun _:Unit=>[(2,.ptr 51 0 0),(3,tuV (sync0 l).1)]) (fun _=>[(51,.cells 0 [sliN (evA l),.int .i64 0,sliN (marks l (sync0 l).1 (sync0 l).1.length),egsN (sync0 l).2])]) (fun _=>True) ?_ ⟨Nat.zero_le _,hst0,Nat.zero_le _,rfl⟩ ?_ ?_
  · refine ⟨[(51, .blk 64 0), (52, .blk 74 0), (53, .blk 92 0), (60, .blk 90 0), (70, .nil), (71, .nil)], rfl, au0, ?_, au19⟩
    exact RB.cells rfl rfl gg (RnL.cons (Rn.same (Qab _)) (RnL.cons (Rn.same rfl) (RnL.cons (Rn.x4 rfl rfl) (RnL.cons (Rn.x4 rfl rfl) RnL.nil)))) (RB.cells rfl rfl gg (RnL.same hnm) (RB.map rfl rfl gg (RnM.mapG fun _ _=>⟨rfl,rfl⟩) (RB.cells rfl rfl gg (RnL.eq (by simp) (Qaj Qab _)) (RB.newnil rfl rfl (RB.newnil rfl rfl RB.nil)))))
  · rintro ⟨i, s⟩ ⟨hi, hp, hel, hq⟩
    dsimp only at hi hp hel hq⊢
    have hsb:=QcH hp.nd hp.inT
    have hsml:(s.1.map sliN).length=s.1.length:=List.length_map ..
    by_cases hlt:i<s.1.length
    · obtain ⟨t, ht⟩ := Qai hlt
      have hti:=hp.inT t (List.mem_of_getElem? ht)
      have hmc:=marked99 l t h (by omega) hti.1
      have hms:=QmL (l:=l) ht
      have hml5:=@QiX l s.1 i
      have hpw:=Qcl (l:=l) (i:=i) (t:=t) (ev:=evA l) (s:=s)
      have hpo:=Qdp (i:=i) (ev:=evA l) hw hti hp
      have hpn:=QdS (l:=l) (i:=i) (t:=t) (ev:=evA l) (s:=s)
      have hq':pQ l (evA l) (box l+1-(i+1)) (i+1) (pRow l (evA l) i t s)=sync0 l:=by
        rw[<-hq,show box l+1-i=(box l+1-(i+1))+1 by omega]
        simp only[pQ,ht]
      cases hmb:mkdT l t
      · rw [hmb] at hmc hms
        rw[if_neg (by simp)]at hms
        simp(disch:=first|omega|exact PairsOK.mk rfl|(simp only[lenW]<;>omega)) only[hlt,QdT ht,Qaa,Qad,Qae,wW,wV,simprocAttr]
        refine cp hmc ?_
        simp(disch:=first|omega|exact PairsOK.mk rfl|(simp only[lenW]<;>omega)) only[Qaa,Qad,Qae,wW,wV,simprocAttr]
        have hmk:marks l s.1 (i+1)=marks l s.1 i:=hms
        refine Qap 420 (fun j:Nat=>[(2,.ptr 51 0 0),(6,.ptr 52 0 0),(3,.sl 60 0 0 (pRow l ((evA l).take j) i t s).1.length 1),(9,.map 53 0),(10,.int .i64 (i)),(61,sliN (evA l)),(62,.int .i64 (evA l).length),(63,.int .i64 j)]) (fun j=>[(51,.cells 0 [sliN (evA l),.int .i64 0,.sl 70 0 0 (marks l s.1 (i+1)).length 1,.sl 71 0 0 (pRow l ((evA l).take j) i t s).2.length 3]),(52,.cells 0 [auts l,sliN (evA l),.fsl (l.map emV) l.length 1]),(53,.map 0 (mapG keyC (ixV (pRow l ((evA l).take j) i t s).1) (pRow l ((evA l).take j) i t s).1)),(60,.cells 0 ((pRow l ((evA l).take j) i t s).1.map sliN)),(70,.cells 0 (ints (nz (marks l s.1 (i+1))))),(71,.cells 0 ((pRow l ((evA l).take j) i t s).2.flatMap edC))]) (fun j=>j<=(evA l).length) (fun j=>(evA l).length-j) 0 2 700 (fun _:Unit=>[(2,.ptr 51 0 0),(6,.ptr 52 0 0),(3,.sl 60 0 0 (pRow l (evA l) i t s).1.length 1),(9,.map 53 0),(10,.int .i64 (i))]) (fun _=>[(51,.cells 0 [sliN (evA l),.int .i64 0,.sl 70 0 0 (marks l s.1 (i+1)).length 1,.sl 71 0 0 (pRow l (evA l) i t s).2.length 3]),(52,.cells 0 [auts l,sliN (evA l),.fsl (l.map emV) l.length 1]),(53,.map 0 (mapG keyC (ixV (pRow l (evA l) i t s).1) (pRow l (evA l) i t s).1)),(60,.cells 0 ((pRow l (evA l) i t s).1.map sliN)),(70,.cells 0 (ints (nz (marks l s.1 (i+1))))),(71,.cells 0 ((pRow l (evA l) i t s).2.flatMap edC))]) (fun _=>True) ?_ (Nat.zero_le _) ?_ ?_
        · show Rec _ _ [(51, .cells 0 [sliN (evA l), .int .i64 0, .sl 70 0 0 (marks l s.1 (i + 1)).length 1, .sl 71 0 0 s.2.length 3]), (52, .cells 0 [auts l, sliN (evA l), .fsl (l.map emV) l.length 1]), (53, .map 0 (mapG keyC (ixV s.1) s.1)), (60, .cells 0 (s.1.map sliN)), (70, .cells 0 (ints (nz (marks l s.1 (i + 1))))), (71, .cells 0 (s.2.flatMap edC))] _ _
          rw[hmk]
          refine⟨[(51,.blk 51 0),(52,.blk 52 0),(53,.blk 53 0),(60,.blk 60 0),(70,.blk 70 0),(71,.blk 71 0)],rfl,au0,?_,au19⟩
          exact RB.cells rfl rfl gg (RnL.cons (Rn.same (Qab _)) (RnL.cons (Rn.same rfl) (RnL.cons (Rn.x1 rfl rfl) (RnL.cons (Rn.x1 rfl rfl) RnL.nil)))) (RB.cells rfl rfl gg (RnL.same hnm) (RB.map rfl rfl gg (RnM.mapG fun _ _=>⟨rfl,rfl⟩) (RB.cells rfl rfl gg (RnL.same (Qaj Qab _)) (RB.cells rfl rfl gg (RnL.same (Qac _)) (RB.cells rfl rfl gg (RnL.same (Qaf _)) RB.nil)))))
        · rintro j hj
          by_cases hjl:j<(evA l).length
          · obtain ⟨e, he⟩ := Qai hjl
            have hpi:=Qdp (i:=i) (ev:=(evA l).take j) hw hti hp
            have hpp:=Qcl (l:=l) (i:=i) (t:=t) (ev:=(evA l).take j) (s:=s)
            have hpl:=QdS (l:=l) (i:=i) (t:=t) (ev:=(evA l).take j) (s:=s)
            have hps:=QiY (l:=l) (i:=i) (t:=t) (s:=s) he
            rw[List.length_take]at hpl
            generalize pRow l ((evA l).take j) i t s=u at*
            have hui:i<u.1.length:=Nat.lt_of_lt_of_le hlt hpp.length_le
            have hut:u.1[i]?=some t:=by rw[QfK hpp hlt];exact ht
            have hub:=QcH hpi.nd hpi.inT
            have huml:(u.1.map sliN).length=u.1.length:=List.length_map ..
            have huel:(u.2.flatMap edC).length=u.2.length*3:=Qbq (k:=3) (fun _=>rfl) u.2
            have hst:=step100 l t e h h0 (by omega) hti.1
            cases hs:stepT l t e with
            | none =>
              rw[hs]at hst
              have hpe:pEv l i t u e=u:=by unfold pEv;rw[hs]
              rw[hpe]at hps
              simp(disch:=first|omega|exact PairsOK.mk rfl|(simp only[lenW]<;>omega)) only[hjl,hui,QaB he,QdT hut,Qaa,Qad,Qae,wW,wV,simprocAttr]
              refine cp hst ?_
              simp(disch:=first|omega|exact PairsOK.mk rfl|(simp only[lenW]<;>omega)) only[stV,Qaa,Qad,Qae,wW,wV,simprocAttr]
              refine⟨j+1,by omega,by omega,?_⟩
              rw[hps]
              refine⟨[(51,.blk 51 0),(52,.blk 52 0),(53,.blk 53 0),(60,.blk 60 0),(70,.blk 70 0),(71,.blk 71 0)],rfl,au0,?_,au19⟩
              exact RB.cells rfl rfl gg (RnL.cons (Rn.same (Qab _)) (RnL.cons (Rn.same rfl) (RnL.cons (Rn.x1 rfl rfl) (RnL.cons (Rn.x1 rfl rfl) RnL.nil)))) (RB.cells rfl rfl gg (RnL.same hnm) (RB.map rfl rfl gg (RnM.mapG fun _ _=>⟨rfl,rfl⟩) (RB.cells rfl rfl gg (RnL.same (Qaj Qab _)) (RB.cells rfl rfl gg (RnL.same (Qac _)) (RB.cells rfl rfl gg (RnL.same (Qaf _)) RB.nil)))))
            | some n =>
              rw[hs]at hst
              have hni:=QdQ hw hti hs
              have hkn:=hkey n hni
              have hkg:=Qfy h hni hpi.inT
              simp(disch:=first|omega|exact PairsOK.mk rfl|(simp only[lenW]<;>omega)) only[hjl,hui,QaB he,QdT hut,Qaa,Qad,Qae,wW,wV,simprocAttr]
              refine cp hst ?_
              simp(disch:=first|omega|exact PairsOK.mk rfl|(simp only[lenW]<;>omega)) only[stV,Qaa,Qad,Qae,wW,wV,simprocAttr]
              refine cp hkn ?_
              simp(disch:=first|omega|exact PairsOK.mk rfl|(simp only[lenW]<;>omega)) only[Qaa,Qad,Qae,wW,wV,simprocAttr]
              by_cases hm:n∈u.1
              · have hpe : pEv l i t u e = (u.1, u.2 ++ [(i, e, ixT u.1 n)]) := by unfold pEv; rw [hs]; simp only [if_pos hm]
                rw[hpe]at hps
                refine Qgi (c:=keyC) (f:=ixV u.1) (x:=n) (l:=u.1) (g:=0) gg hkg hm ?_
                simp(disch:=first|omega|exact PairsOK.mk rfl|(simp only[lenW]<;>omega)) only[ixV,huel,Qaa,Qad,Qae,wW,wV,simprocAttr]
                refine⟨j+1,by omega,by omega,?_⟩
                rw[hps,List.length_append,List.flatMap_append]
                refine⟨[(51,.blk 51 0),(52,.blk 52 0),(53,.blk 53 0),(60,.blk 60 0),(70,.blk 70 0),(71,.blk 71 1)],rfl,au0,?_,au19⟩
                exact RB.cells rfl rfl gg (RnL.cons (Rn.same (Qab _)) (RnL.cons (Rn.same rfl) (RnL.cons (Rn.x1 rfl rfl) (RnL.cons (Rn.x1 rfl rfl) RnL.nil)))) (RB.cells rfl rfl gg (RnL.same hnm) (RB.map rfl rfl gg (RnM.mapG fun _ _=>⟨rfl,rfl⟩) (RB.cells rfl rfl gg (RnL.same (Qaj Qab _)) (RB.cells rfl rfl gg (RnL.same (Qac _)) (RB.cells rfl rfl gg (RnL.same (SU.Qao (Qaf _) rfl)) RB.nil)))))
              · have hpe : pEv l i t u e = (u.1 ++ [n], u.2 ++ [(i, e, u.1.length)]) := by unfold pEv; rw [hs]; simp only [if_neg hm]; rw [show u.1.findIdx (· == n) = u.1.length from Qel hm]
                rw[hpe]at hps
                have hlim:¬((u.1.length:Nat):Int)=4096:=by omega
                have hmn:=Qmc hm
                refine Qfn (c:=keyC) (f:=ixV u.1) (x:=n) (l:=u.1) (g:=0) gg hkg hm ?_
                simp(disch:=first|omega|exact PairsOK.mk rfl|(simp only[lenW]<;>omega)) only[hlim,Qaa,Qad,Qae,wW,wV,simprocAttr]
                refine cp hkn ?_
                simp(disch:=first|omega|exact PairsOK.mk rfl|(simp only[lenW]<;>omega)) only[Qaa,Qad,Qae,wW,wV,simprocAttr]
                refine Qb2 (c:=keyC) (f:=ixV u.1) (x:=n) (l:=u.1) (g:=0) gg hkg hm (by omega) ?_
                rw[hmn]
                simp(disch:=first|omega|exact PairsOK.mk rfl|(simp only[lenW]<;>omega)) only[huml,huel,Qab,Qaa,Qad,Qae,wW,wV,simprocAttr]
                refine⟨j+1,by omega,by omega,?_⟩
                rw[hps,List.length_append,List.length_append,List.flatMap_append,List.map_append]
                refine⟨[(51,.blk 51 0),(52,.blk 52 0),(53,.blk 53 0),(60,.blk 60 1),(70,.blk 70 0),(71,.blk 71 1)],rfl,au0,?_,au19⟩
                exact RB.cells rfl rfl gg (RnL.cons (Rn.same (Qab _)) (RnL.cons (Rn.same rfl) (RnL.cons (Rn.x1 rfl rfl) (RnL.cons (Rn.x1 rfl rfl) RnL.nil)))) (RB.cells rfl rfl gg (RnL.same hnm) (RB.map rfl rfl gg (RnM.mapG fun _ _=>⟨rfl,rfl⟩) (RB.cells rfl rfl gg (RnL.same (SU.Qao (Qaj Qab _) (Qaj Qab [n]))) (RB.cells rfl rfl gg (RnL.same (Qac _)) (RB.cells rfl rfl gg (RnL.same (SU.Qao (Qaf _) rfl)) RB.nil)))))
          · have e2 : j = (evA l).length := by omega
            subst e2
            simp(disch:=first|omega|exact PairsOK.mk rfl|(simp only[lenW]<;>omega)) only[hjl,List.take_length,Qaa,Qad,Qae,wW,wV,simprocAttr]
            refine⟨(),?_⟩
            refine⟨[(51,.blk 51 0),(52,.blk 52 0),(53,.blk 53 0),(60,.blk 60 0),(70,.blk 70 0),(71,.blk 71 0)],rfl,au0,?_,au19⟩
            exact RB.cells rfl rfl gg (RnL.cons (Rn.same (Qab _)) (RnL.cons (Rn.same rfl) (RnL.cons (Rn.x1 rfl rfl) (RnL.cons (Rn.x1 rfl rfl) RnL.nil)))) (RB.cells rfl rfl gg (RnL.same hnm) (RB.map rfl rfl gg (RnM.mapG fun _ _=>⟨rfl,rfl⟩) (RB.cells rfl rfl gg (RnL.same (Qaj Qab _)) (RB.cells rfl rfl gg (RnL.same (Qac _)) (RB.cells rfl rfl gg (RnL.same (Qaf _)) RB.nil)))))
        rintro _ _
        simp(disch:=first|omega|exact PairsOK.mk rfl|(simp only[lenW]<;>omega)) only[Qaa,Qad,Qae,wW,wV,simprocAttr]
        refine⟨(i+1,pRow l (evA l) i t s),by dsimp only;omega,⟨Nat.le_trans hlt hpw.length_le,hpo,by dsimp only;omega,hq'⟩,?_⟩
        dsimp only
        rw[QiW hpw hlt]
        refine⟨[(51,.blk 51 0),(52,.blk 52 0),(53,.blk 53 0),(60,.blk 60 0),(70,.blk 70 0),(71,.blk 71 0)],rfl,au0,?_,au19⟩
        exact RB.cells rfl rfl gg (RnL.cons (Rn.same (Qab _)) (RnL.cons (Rn.same rfl) (RnL.cons (Rn.x1 rfl rfl) (RnL.cons (Rn.x1 rfl rfl) RnL.nil)))) (RB.cells rfl rfl gg (RnL.same hnm) (RB.map rfl rfl gg (RnM.mapG fun _ _=>⟨rfl,rfl⟩) (RB.cells rfl rfl gg (RnL.same (Qaj Qab _)) (RB.cells rfl rfl gg (RnL.same (Qac _)) (RB.cells rfl rfl gg (RnL.same (Qaf _)) RB.nil)))))
      · rw [hmb] at hmc hms
        rw[if_pos rfl]at hms
        simp(disch:=first|omega|exact PairsOK.mk rfl|(simp only[lenW]<;>omega)) only[hlt,QdT ht,Qaa,Qad,Qae,wW,wV,simprocAttr]
        refine cp hmc ?_
        simp(disch:=first|omega|exact PairsOK.mk rfl|(simp only[lenW]<;>omega)) only[Qaa,Qad,Qae,wW,wV,simprocAttr]
        have hmk:marks l s.1 (i+1)=marks l s.1 i++[i]:=hms
        refine Qap 420 (fun j:Nat=>[(2,.ptr 51 0 0),(6,.ptr 52 0 0),(3,.sl 60 0 0 (pRow l ((evA l).take j) i t s).1.length 1),(9,.map 53 0),(10,.int .i64 (i)),(61,sliN (evA l)),(62,.int .i64 (evA l).length),(63,.int .i64 j)]) (fun j=>[(51,.cells 0 [sliN (evA l),.int .i64 0,.sl 70 0 0 (marks l s.1 (i+1)).length 1,.sl 71 0 0 (pRow l ((evA l).take j) i t s).2.length 3]),(52,.cells 0 [auts l,sliN (evA l),.fsl (l.map emV) l.length 1]),(53,.map 0 (mapG keyC (ixV (pRow l ((evA l).take j) i t s).1) (pRow l ((evA l).take j) i t s).1)),(60,.cells 0 ((pRow l ((evA l).take j) i t s).1.map sliN)),(70,.cells 0 (ints (nz (marks l s.1 (i+1))))),(71,.cells 0 ((pRow l ((evA l).take j) i t s).2.flatMap edC))]) (fun j=>j<=(evA l).length) (fun j=>(evA l).length-j) 0 2 700 (fun _:Unit=>[(2,.ptr 51 0 0),(6,.ptr 52 0 0),(3,.sl 60 0 0 (pRow l (evA l) i t s).1.length 1),(9,.map 53 0),(10,.int .i64 (i))]) (fun _=>[(51,.cells 0 [sliN (evA l),.int .i64 0,.sl 70 0 0 (marks l s.1 (i+1)).length 1,.sl 71 0 0 (pRow l (evA l) i t s).2.length 3]),(52,.cells 0 [auts l,sliN (evA l),.fsl (l.map emV) l.length 1]),(53,.map 0 (mapG keyC (ixV (pRow l (evA l) i t s).1) (pRow l (evA l) i t s).1)),(60,.cells 0 ((pRow l (evA l) i t s).1.map sliN)),(70,.cells 0 (ints (nz (marks l s.1 (i+1))))),(71,.cells 0 ((pRow l (evA l) i t s).2.flatMap edC))]) (fun _=>True) ?_ (Nat.zero_le _) ?_ ?_
        · show Rec _ _ [(51, .cells 0 [sliN (evA l), .int .i64 0, .sl 70 0 0 (marks l s.1 (i + 1)).length 1, .sl 71 0 0 s.2.length 3]), (52, .cells 0 [auts l, sliN (evA l), .fsl (l.map emV) l.length 1]), (53, .map 0 (mapG keyC (ixV s.1) s.1)), (60, .cells 0 (s.1.map sliN)), (70, .cells 0 (ints (nz (marks l s.1 (i + 1))))), (71, .cells 0 (s.2.flatMap edC))] _ _
          rw[hmk,List.length_append,QaF,QaA]
          refine⟨[(51,.blk 51 0),(52,.blk 52 0),(53,.blk 53 0),(60,.blk 60 0),(70,.blk 70 1),(71,.blk 71 0)],rfl,au0,?_,au19⟩
          exact RB.cells rfl rfl gg (RnL.cons (Rn.same (Qab _)) (RnL.cons (Rn.same rfl) (RnL.cons (Rn.x1 rfl rfl) (RnL.cons (Rn.x1 rfl rfl) RnL.nil)))) (RB.cells rfl rfl gg (RnL.same hnm) (RB.map rfl rfl gg (RnM.mapG fun _ _=>⟨rfl,rfl⟩) (RB.cells rfl rfl gg (RnL.same (Qaj Qab _)) (RB.cells rfl rfl gg (RnL.same (SU.Qao (Qac _) rfl)) (RB.cells rfl rfl gg (RnL.same (Qaf _)) RB.nil)))))
        · rintro j hj
          by_cases hjl:j<(evA l).length
          · obtain ⟨e, he⟩ := Qai hjl
            have hpi:=Qdp (i:=i) (ev:=(evA l).take j) hw hti hp
            have hpp:=Qcl (l:=l) (i:=i) (t:=t) (ev:=(evA l).take j) (s:=s)
            have hpl:=QdS (l:=l) (i:=i) (t:=t) (ev:=(evA l).take j) (s:=s)
            have hps:=QiY (l:=l) (i:=i) (t:=t) (s:=s) he
            rw[List.length_take]at hpl
            generalize pRow l ((evA l).take j) i t s=u at*
            have hui:i<u.1.length:=Nat.lt_of_lt_of_le hlt hpp.length_le
            have hut:u.1[i]?=some t:=by rw[QfK hpp hlt];exact ht
            have hub:=QcH hpi.nd hpi.inT
            have huml:(u.1.map sliN).length=u.1.length:=List.length_map ..
            have huel:(u.2.flatMap edC).length=u.2.length*3:=Qbq (k:=3) (fun _=>rfl) u.2
            have hst:=step100 l t e h h0 (by omega) hti.1
            cases hs:stepT l t e with
            | none =>
              rw[hs]at hst
              have hpe:pEv l i t u e=u:=by unfold pEv;rw[hs]
              rw[hpe]at hps
              simp(disch:=first|omega|exact PairsOK.mk rfl|(simp only[lenW]<;>omega)) only[hjl,hui,QaB he,QdT hut,Qaa,Qad,Qae,wW,wV,simprocAttr]
              refine cp hst ?_
              simp(disch:=first|omega|exact PairsOK.mk rfl|(simp only[lenW]<;>omega)) only[stV,Qaa,Qad,Qae,wW,wV,simprocAttr]
              refine⟨j+1,by omega,by omega,?_⟩
              rw[hps]
              refine⟨[(51,.blk 51 0),(52,.blk 52 0),(53,.blk 53 0),(60,.blk 60 0),(70,.blk 70 0),(71,.blk 71 0)],rfl,au0,?_,au19⟩
              exact RB.cells rfl rfl gg (RnL.cons (Rn.same (Qab _)) (RnL.cons (Rn.same rfl) (RnL.cons (Rn.x1 rfl rfl) (RnL.cons (Rn.x1 rfl rfl) RnL.nil)))) (RB.cells rfl rfl gg (RnL.same hnm) (RB.map rfl rfl gg (RnM.mapG fun _ _=>⟨rfl,rfl⟩) (RB.cells rfl rfl gg (RnL.same (Qaj Qab _)) (RB.cells rfl rfl gg (RnL.same (Qac _)) (RB.cells rfl rfl gg (RnL.same (Qaf _)) RB.nil)))))
            | some n =>
              rw[hs]at hst
              have hni:=QdQ hw hti hs
              have hkn:=hkey n hni
              have hkg:=Qfy h hni hpi.inT
              simp(disch:=first|omega|exact PairsOK.mk rfl|(simp only[lenW]<;>omega)) only[hjl,hui,QaB he,QdT hut,Qaa,Qad,Qae,wW,wV,simprocAttr]
              refine cp hst ?_
              simp(disch:=first|omega|exact PairsOK.mk rfl|(simp only[lenW]<;>omega)) only[stV,Qaa,Qad,Qae,wW,wV,simprocAttr]
              refine cp hkn ?_
              simp(disch:=first|omega|exact PairsOK.mk rfl|(simp only[lenW]<;>omega)) only[Qaa,Qad,Qae,wW,wV,simprocAttr]
              by_cases hm:n∈u.1
              · have hpe : pEv l i t u e = (u.1, u.2 ++ [(i, e, ixT u.1 n)]) := by unfold pEv; rw [hs]; simp only [if_pos hm]
                rw[hpe]at hps
                refine Qgi (c:=keyC) (f:=ixV u.1) (x:=n) (l:=u.1) (g:=0) gg hkg hm ?_
                simp(disch:=first|omega|exact PairsOK.mk rfl|(simp only[lenW]<;>omega)) only[ixV,huel,Qaa,Qad,Qae,wW,wV,simprocAttr]
                refine⟨j+1,by omega,by omega,?_⟩
                rw[hps,List.length_append,List.flatMap_append]
                refine⟨[(51,.blk 51 0),(52,.blk 52 0),(53,.blk 53 0),(60,.blk 60 0),(70,.blk 70 0),(71,.blk 71 1)],rfl,au0,?_,au19⟩
                exact RB.cells rfl rfl gg (RnL.cons (Rn.same (Qab _)) (RnL.cons (Rn.same rfl) (RnL.cons (Rn.x1 rfl rfl) (RnL.cons (Rn.x1 rfl rfl) RnL.nil)))) (RB.cells rfl rfl gg (RnL.same hnm) (RB.map rfl rfl gg (RnM.mapG fun _ _=>⟨rfl,rfl⟩) (RB.cells rfl rfl gg (RnL.same (Qaj Qab _)) (RB.cells rfl rfl gg (RnL.same (Qac _)) (RB.cells rfl rfl gg (RnL.same (SU.Qao (Qaf _) rfl)) RB.nil)))))
              · have hpe : pEv l i t u e = (u.1 ++ [n], u.2 ++ [(i, e, u.1.length)]) := by unfold pEv; rw [hs]; simp only [if_neg hm]; rw [show u.1.findIdx (· == n) = u.1.length from Qel hm]
                rw[hpe]at hps
                have hlim:¬((u.1.length:Nat):Int)=4096:=by omega
                have hmn:=Qmc hm
                refine Qfn (c:=keyC) (f:=ixV u.1) (x:=n) (l:=u.1) (g:=0) gg hkg hm ?_
                simp(disch:=first|omega|exact PairsOK.mk rfl|(simp only[lenW]<;>omega)) only[hlim,Qaa,Qad,Qae,wW,wV,simprocAttr]
                refine cp hkn ?_
                simp(disch:=first|omega|exact PairsOK.mk rfl|(simp only[lenW]<;>omega)) only[Qaa,Qad,Qae,wW,wV,simprocAttr]
                refine Qb2 (c:=keyC) (f:=ixV u.1) (x:=n) (l:=u.1) (g:=0) gg hkg hm (by omega) ?_
                rw[hmn]
                simp(disch:=first|omega|exact PairsOK.mk rfl|(simp only[lenW]<;>omega)) only[huml,huel,Qab,Qaa,Qad,Qae,wW,wV,simprocAttr]
                refine⟨j+1,by omega,by omega,?_⟩
                rw[hps,List.length_append,List.length_append,List.flatMap_append,List.map_append]
                refine⟨[(51,.blk 51 0),(52,.blk 52 0),(53,.blk 53 0),(60,.blk 60 1),(70,.blk 70 0),(71,.blk 71 1)],rfl,au0,?_,au19⟩
                exact RB.cells rfl rfl gg (RnL.cons (Rn.same (Qab _)) (RnL.cons (Rn.same rfl) (RnL.cons (Rn.x1 rfl rfl) (RnL.cons (Rn.x1 rfl rfl) RnL.nil)))) (RB.cells rfl rfl gg (RnL.same hnm) (RB.map rfl rfl gg (RnM.mapG fun _ _=>⟨rfl,rfl⟩) (RB.cells rfl rfl gg (RnL.same (SU.Qao (Qaj Qab _) (Qaj Qab [n]))) (RB.cells rfl rfl gg (RnL.same (Qac _)) (RB.cells rfl rfl gg (RnL.same (SU.Qao (Qaf _) rfl)) RB.nil)))))
          · have e2 : j = (evA l).length := by omega
            subst e2
            simp(disch:=first|omega|exact PairsOK.mk rfl|(simp only[lenW]<;>omega)) only[hjl,List.take_length,Qaa,Qad,Qae,wW,wV,simprocAttr]
            refine⟨(),?_⟩
            refine⟨[(51,.blk 51 0),(52,.blk 52 0),(53,.blk 53 0),(60,.blk 60 0),(70,.blk 70 0),(71,.blk 71 0)],rfl,au0,?_,au19⟩
            exact RB.cells rfl rfl gg (RnL.cons (Rn.same (Qab _)) (RnL.cons (Rn.same rfl) (RnL.cons (Rn.x1 rfl rfl) (RnL.cons (Rn.x1 rfl rfl) RnL.nil)))) (RB.cells rfl rfl gg (RnL.same hnm) (RB.map rfl rfl gg (RnM.mapG fun _ _=>⟨rfl,rfl⟩) (RB.cells rfl rfl gg (RnL.same (Qaj Qab _)) (RB.cells rfl rfl gg (RnL.same (Qac _)) (RB.cells rfl rfl gg (RnL.same (Qaf _)) RB.nil)))))
        rintro _ _
        simp(disch:=first|omega|exact PairsOK.mk rfl|(simp only[lenW]<;>omega)) only[Qaa,Qad,Qae,wW,wV,simprocAttr]
        refine⟨(i+1,pRow l (evA l) i t s),by dsimp only;omega,⟨Nat.le_trans hlt hpw.length_le,hpo,by dsimp only;omega,hq'⟩,?_⟩
        dsimp only
        rw[QiW hpw hlt]
        refine⟨[(51,.blk 51 0),(52,.blk 52 0),(53,.blk 53 0),(60,.blk 60 0),(70,.blk 70 0),(71,.blk 71 0)],rfl,au0,?_,au19⟩
        exact RB.cells rfl rfl gg (RnL.cons (Rn.same (Qab _)) (RnL.cons (Rn.same rfl) (RnL.cons (Rn.x1 rfl rfl) (RnL.cons (Rn.x1 rfl rfl) RnL.nil)))) (RB.cells rfl rfl gg (RnL.same hnm) (RB.map rfl rfl gg (RnM.mapG fun _ _=>⟨rfl,rfl⟩) (RB.cells rfl rfl gg (RnL.same (Qaj Qab _)) (RB.cells rfl rfl gg (RnL.same (Qac _)) (RB.cells rfl rfl gg (RnL.same (Qaf _)) RB.nil)))))
    · have hfin : s = sync0 l := by
        rw[<-hq,Qp6 (List.getElem?_eq_none (by omega))]
      have e2:i=s.1.length:=by omega
      subst e2
      rw[<-hfin]
      simp(disch:=first|omega|exact PairsOK.mk rfl|(simp only[lenW]<;>omega)) only[hlt,Qaa,Qad,Qae,wW,wV,simprocAttr]
      refine⟨(),[(51,.blk 51 0)],rfl,RO.zero,?_,?_⟩
      · exact RB.cells rfl rfl gg (RnL.cons (Rn.same (Qab _)) (RnL.cons (Rn.same rfl) (RnL.cons (Rn.fzm rfl rfl rfl rfl (by simp[ints]) (RnL.same (Qac _))) (RnL.cons (Rn.fzm rfl rfl rfl rfl (Qbq (k:=3) (fun _=>rfl) _) (RnL.same (Qaf _))) RnL.nil)))) RB.nil
      · exact RT.cons (Rn.x2 rfl rfl) (RT.cons (Rn.fz (b:=60) (g:=0) gg rfl rfl (by simp) (RnL.same (Qaj Qab _))) RT.nil)
  rintro _ _
  simp(disch:=first|omega|exact PairsOK.mk rfl|(simp only[lenW]<;>omega)) only[Qaa,Qad,Qae,wW,wV,simprocAttr]
  refine⟨.inr trivial,_,rfl,?_⟩
  exact Rn.same hnr
end Go.AM.SO
namespace Go.AM.SO
open Go.Proofs Go.AM.SD Go.AM.SE
abbrev auL (l:List (Nat×Aut)):List Aut:=l.map (·.2)
theorem Qoh {x:Nat×Aut}:List.flatMap auC (List.map (fun x:Nat×Aut=>x.2) [x])=[sliN x.2.al,.int .i64 (x.2.n:Int),sliN x.2.ms,egsN x.2.es]:=rfl
theorem QaU {l:List (Nat×Aut)}:(auL l).length=l.length:=List.length_map ..
theorem _root_.Go.AM.au21 {p:Prop} (h:p:=by repeat (first|exact RT.nil|(refine RT.cons ?_ ?_; · (first|exact Rn.any|exact Rn.x1 rfl rfl|exact Rn.x2 rfl rfl|exact Rn.x3 rfl rfl|exact Rn.x4 rfl rfl|exact Rn.x5 rfl|exact Rn.x6 rfl|exact Rn.x7 rfl|(refine Rn.slot ?_ ?_;(first|rfl|(rw[Int.natCast_add];rfl));(first|rfl|(simp only[noRef,noRefs,Qah,Bool.and_self,Bool.and_true,Bool.true_and,Qac,Qau,Qab,Qak,QaQ,Qaf,SU.Qbb];done)))|(refine Rn.fn ?_ ?_<;>(repeat' (first|exact RnL.nil|refine RnL.cons ?_ ?_|exact Rn.same rfl|exact Rn.x6 rfl|exact Rn.x2 rfl rfl|exact Rn.x5 rfl|exact Rn.x1 rfl rfl))))))):p:=h
theorem automata69 {ch:UInt8} (l:List (Nat×Aut)) (hl:l.length<=1000):PSpec Tryz.prog 69 [its ch l] (auts (auL l)):=by
  refine PSpec.of_rn 64 TP.ok69 rfl (by rw[noRefs,SU.Qas];rfl) (Qa1 _) ?_
  have hni:=@SU.Qas ch l
  simp(disch:=first|omega|exact PairsOK.mk rfl|(simp only[lenW]<;>omega)) only[TP.s69,Qaa,Qad,Qae,wW,wV,simprocAttr]
  refine Qap 100 (fun i:Nat=>[(3,.sl 60 0 0 i 4),(6,its ch l),(7,.int .i64 l.length),(8,.int .i64 i)]) (fun i=>[(60,.cells 0 ((auL (l.take i)).flatMap auC))]) (fun i=>i<=l.length) (fun i=>l.length-i) 0 0 160 (fun _:Unit=>[(3,auts (auL l))]) (fun _=>[]) (fun _=>True) ?_ (Nat.zero_le _) ?_ ?_
  · refine ⟨[(60, .nil)], rfl, au0, ?_, au21⟩
    exact RB.newnil rfl rfl RB.nil
  · rintro i hi
    by_cases hlt:i<l.length
    · obtain ⟨x, hx⟩ := Qai hlt
      have hdr:=SU.Qcx (ch:=ch) hx
      have hdl:5<=((l.flatMap (itC ch)).drop (i*5)).length:=by rw[hdr];simp
      have htl:(auL (l.take i)).length=i:=by rw[QaU,List.length_take];omega
      have htm:((auL (l.take i)).flatMap auC).length=i*4:=by rw[Qfx,htl]
      simp(disch:=first|omega|exact PairsOK.mk rfl|(simp only[lenW]<;>omega)) only[hlt,hdr,hdl,htm,Qab,Qak,Qaa,Qad,Qae,wW,wV,simprocAttr]
      refine⟨i+1,by omega,by omega,?_⟩
      rw[take_succ' hx]
      show Rec _ _ [(60,.cells 0 ((List.map (fun x:Nat×Aut=>x.2) (l.take i++[x])).flatMap auC))] _ _
      rw[List.map_append,List.flatMap_append,Qoh]
      refine⟨[(60,.blk 60 1)],rfl,au0,?_,au21⟩
      exact RB.cells rfl rfl gg (RnL.same (SU.Qao (QaQ _) (QaQ [x.2]))) RB.nil
    · have e : i = l.length := by omega
      subst e
      simp(disch:=first|omega|exact PairsOK.mk rfl|(simp only[lenW]<;>omega)) only[hlt,List.take_length,Qaa,Qad,Qae,wW,wV,simprocAttr]
      exact⟨(),[],rfl,RO.zero,RB.nil,RT.cons (Rn.fzm (b:=60) (g:=0) gg rfl rfl QaU (by rw[Qfx,QaU]) (RnL.same (QaQ _))) RT.nil⟩
  rintro _ _
  simp(disch:=first|omega|exact PairsOK.mk rfl|(simp only[lenW]<;>omega)) only[Qaa,Qad,Qae,wW,wV,simprocAttr]
  exact⟨.inr trivial,_,rfl,Rn.same (Qa1 _)⟩
theorem Qoi (l:List Aut):noRef (.tup [aV (syncA l),tuV (sync0 l).1,.int .i64 0])=true:=by
 rw[noRef,noRefs,noRefs,Qbu,noRef,noRefs,noRefs,noRefs,noRefs,Qab,Qab,Qak];rfl
theorem Qa2 {c:Cel} (h:WfCel c):∀a∈auL c.cs,WfI a:=fun a ha=>by
 obtain⟨x,hx,rfl⟩:=List.mem_map.1 ha
 exact h.ca x hx
theorem Qpe {c:Cel} (h:WfCel c) (t:List Nat) (ht:InT (auL c.cs) t):PSpec Tryz.prog 98 [sliN t] (.str (keyT t)):=by
 have h0:=h.c0
 have h3:=h.c3
 have hl:=ht.1
 rw[QaU]at hl
 exact key98 (by omega) (by omega) fun x hx=>ht.lt (Qa2 h) hx
theorem Qp7 (c:Cel) (h:WfCel c):PSpec Tryz.prog 28 [auts (auL c.cs)] (.tup [aV (syncA (auL c.cs)),tuV (sync0 (auL c.cs)).1,.int .i64 0]):=by
 have h0:=h.c0
 have h3:=h.c3
 exact sync28 (auL c.cs) (Qa2 h) (by rw[QaU];omega) (by rw[QaU];omega) (Qpe h)
theorem plant17 (c:Cel) (h:WfCel c):PSpec Tryz.prog 17 [celV c] (.tup [aV (syncA (auL c.cs)),tuV (sync0 (auL c.cs)).1,.int .i64 0]):=by
 have hnr:=Qcg c
 refine PSpec.of_rn 64 TP.ok17 rfl (by rw[noRefs,SU.Qbk];rfl) (Qoi _) ?_
 have h3:=h.c3
 have hc:=check21 c h
 have ha:=automata69 (ch:=99) c.cs (by omega)
 have hs:=Qp7 c h
 simp(disch:=first|omega|exact PairsOK.mk rfl|(simp only[lenW]<;>omega)) only[TP.s17,Qaa,Qad,Qae,wW,wV,simprocAttr]
 refine cp hc ?_
 simp(disch:=first|omega|exact PairsOK.mk rfl|(simp only[lenW]<;>omega)) only[Qaa,Qad,Qae,wW,wV,simprocAttr]
 refine cp ha ?_
 simp(disch:=first|omega|exact PairsOK.mk rfl|(simp only[lenW]<;>omega)) only[Qaa,Qad,Qae,wW,wV,simprocAttr]
 refine cp hs ?_
 simp(disch:=first|omega|exact PairsOK.mk rfl|(simp only[lenW]<;>omega)) only[Qaa,Qad,Qae,wW,wV,simprocAttr]
 exact⟨.inr trivial,_,rfl,Rn.same (Qoi _)⟩
theorem Qmd {T:List (List Nat)} {i:Nat} {t:List Nat} (h:T[i]?=some t):((T.map sliN).drop i).head?=some (sliN t):=by
 rw[List.head?_drop,QdT h]
end Go.AM.SO
namespace Go.AM.SO
open Go.Proofs Go.AM.SD Go.AM.SE
theorem index195 {K : Nat} {cap : List AV} (q : (Nat × Nat) -> Bool) (l : List (Nat × Nat)) (hl : l.length <= 1000000) (hc : noRefs cap = true) (hk : ∀ x ∈ l, PSpec Tryz.prog K (.agg [.int .i64 (x.1 : Int), .int .i64 (x.2 : Int)] :: cap) (.bool (q x))) : PSpec Tryz.prog 195 [los l, .fn K [] cap] (.int .i64 (idxQ q l)) := by
  refine PSpec.Qan 64 TQ.ok195 rfl (by rw[noRefs,noRefs,Qbl hc,(SU.QbL _)];rfl) rfl ?_
  have hfn:=Qbl (K:=K) hc
  have hln:=SU.Qfu l
  simp(disch:=first|omega|exact PairsOK.mk rfl|(simp only[lenW]<;>omega)) only[TQ.s195,Qaa,Qad,Qae,wW,wV,simprocAttr]
  refine QaH 100 (fun i:Nat=>[(0,los l),(1,.fn K [] cap),(7,.int .i64 l.length),(8,.int .i64 i)]) (fun _=>[]) (fun i=>i<=l.length/\∀(j:Nat) y,j<i->l[j]?=some y->q y=false) (fun i=>l.length-i) 0 ?_ ⟨Nat.zero_le _,fun j y hj=>absurd hj (Nat.not_lt_zero _)⟩ ?_
  · exact⟨[],rfl,RO.zero,RB.nil,RT.cons (Rn.same (SU.QbL _)) (RT.cons (Rn.same hfn) (RT.cons (Rn.same rfl) (RT.cons (Rn.same rfl) RT.nil)))⟩
  rintro i ⟨hi,hb⟩
  by_cases hlt:i<l.length
  · obtain ⟨x, hx⟩ := Qai hlt
    have hn:=hk x (List.mem_of_getElem? hx)
    have hdr:=QhT hx
    have hdl:2<=(List.drop (i*2) (l.flatMap loC)).length:=by rw[List.length_drop,hln];omega
    cases hq:q x
    · rw [hq] at hn
      simp(disch:=first|omega|exact PairsOK.mk rfl|(simp only[lenW]<;>omega)) only[hlt,hdr,hdl,List.head?_cons,Qaa,Qad,Qae,wW,wV,simprocAttr]
      refine⟨_,by simpa using hn,?_⟩
      simp(disch:=first|omega|exact PairsOK.mk rfl|(simp only[lenW]<;>omega)) only[Qaa,Qad,Qae,wW,wV,simprocAttr]
      refine⟨i+1,by omega,⟨by omega,fun j y hj hy=>?_⟩,?_⟩
      · by_cases e : j = i
        · subst e;rw[hx]at hy;cases hy;exact hq
        · exact hb j y (by omega) hy
      · exact⟨[],rfl,RO.zero,RB.nil,RT.cons (Rn.same (SU.QbL _)) (RT.cons (Rn.same hfn) (RT.cons (Rn.same rfl) (RT.cons (Rn.same rfl) RT.nil)))⟩
    · rw [hq] at hn
      simp(disch:=first|omega|exact PairsOK.mk rfl|(simp only[lenW]<;>omega)) only[hlt,hdr,hdl,List.head?_cons,Qaa,Qad,Qae,wW,wV,simprocAttr]
      refine⟨_,by simpa using hn,?_⟩
      simp(disch:=first|omega|exact PairsOK.mk rfl|(simp only[lenW]<;>omega)) only[Qaa,Qad,Qae,wW,wV,simprocAttr]
      refine⟨.inr trivial,_,rfl,?_⟩
      rw[Qej hx hq hb];rfl
  · simp (disch := first | omega | exact PairsOK.mk rfl | (simp only [lenW] <;> omega)) only [hlt, Qaa, Qad, Qae, wW, wV, simprocAttr]
    refine⟨.inr trivial,_,rfl,?_⟩
    rw[Qda fun x hx=>by
      obtain⟨j,hj,hjl⟩:=List.getElem_of_mem hx
      exact hb j x (by omega) (by rw[List.getElem?_eq_getElem hj,hjl])];rfl
theorem index48 {K : Nat} {cap : List AV} (q : Ed -> Bool) (l : List Ed) (hl : l.length <= 1000000) (hc : noRefs cap = true) (hk : ∀ x ∈ l, PSpec Tryz.prog K (.agg [.int .i64 (x.1 : Int), .int .i64 (x.2.1 : Int), .int .i64 (x.2.2 : Int)] :: cap) (.bool (q x))) : PSpec Tryz.prog 48 [egsN l, .fn K [] cap] (.int .i64 (idxQ q l)) := by
  refine PSpec.Qan 64 TQ.ok48 rfl (by rw[noRefs,noRefs,Qbl hc,(Qak _)];rfl) rfl ?_
  have hfn:=Qbl (K:=K) hc
  have hln:=(Qbq (k:=3) (fun _=>rfl) l:(l.flatMap edC).length=l.length*3)
  simp(disch:=first|omega|exact PairsOK.mk rfl|(simp only[lenW]<;>omega)) only[TQ.s48,Qaa,Qad,Qae,wW,wV,simprocAttr]
  refine QaH 100 (fun i:Nat=>[(0,egsN l),(1,.fn K [] cap),(7,.int .i64 l.length),(8,.int .i64 i)]) (fun _=>[]) (fun i=>i<=l.length/\∀(j:Nat) y,j<i->l[j]?=some y->q y=false) (fun i=>l.length-i) 0 ?_ ⟨Nat.zero_le _,fun j y hj=>absurd hj (Nat.not_lt_zero _)⟩ ?_
  · exact⟨[],rfl,RO.zero,RB.nil,RT.cons (Rn.same (Qak _)) (RT.cons (Rn.same hfn) (RT.cons (Rn.same rfl) (RT.cons (Rn.same rfl) RT.nil)))⟩
  rintro i ⟨hi,hb⟩
  by_cases hlt:i<l.length
  · obtain ⟨x, hx⟩ := Qai hlt
    have hn:=hk x (List.mem_of_getElem? hx)
    have hdr:=QaR hx
    have hdl:3<=(List.drop (i*3) (l.flatMap edC)).length:=by rw[List.length_drop,hln];omega
    cases hq:q x
    · rw [hq] at hn
      simp(disch:=first|omega|exact PairsOK.mk rfl|(simp only[lenW]<;>omega)) only[hlt,hdr,hdl,List.head?_cons,Qaa,Qad,Qae,wW,wV,simprocAttr]
      refine⟨_,by simpa using hn,?_⟩
      simp(disch:=first|omega|exact PairsOK.mk rfl|(simp only[lenW]<;>omega)) only[Qaa,Qad,Qae,wW,wV,simprocAttr]
      refine⟨i+1,by omega,⟨by omega,fun j y hj hy=>?_⟩,?_⟩
      · by_cases e : j = i
        · subst e;rw[hx]at hy;cases hy;exact hq
        · exact hb j y (by omega) hy
      · exact⟨[],rfl,RO.zero,RB.nil,RT.cons (Rn.same (Qak _)) (RT.cons (Rn.same hfn) (RT.cons (Rn.same rfl) (RT.cons (Rn.same rfl) RT.nil)))⟩
    · rw [hq] at hn
      simp(disch:=first|omega|exact PairsOK.mk rfl|(simp only[lenW]<;>omega)) only[hlt,hdr,hdl,List.head?_cons,Qaa,Qad,Qae,wW,wV,simprocAttr]
      refine⟨_,by simpa using hn,?_⟩
      simp(disch:=first|omega|exact PairsOK.mk rfl|(simp only[lenW]<;>omega)) only[Qaa,Qad,Qae,wW,wV,simprocAttr]
      refine⟨.inr trivial,_,rfl,?_⟩
      rw[Qej hx hq hb];rfl
  · simp (disch := first | omega | exact PairsOK.mk rfl | (simp only [lenW] <;> omega)) only [hlt, Qaa, Qad, Qae, wW, wV, simprocAttr]
    refine⟨.inr trivial,_,rfl,?_⟩
    rw[Qda fun x hx=>by
      obtain⟨j,hj,hjl⟩:=List.getElem_of_mem hx
      exact hb j x (by omega) (by rw[List.getElem?_eq_getElem hj,hjl])];rfl
theorem contains115 {K:Nat} {cap:List AV} (q:Nat×Nat->Bool) (l:List (Nat×Nat)) (hl:l.length<=1000000) (hc:noRefs cap=true) (hk:∀x∈l,PSpec Tryz.prog K (.agg [.int .i64 (x.1:Int),.int .i64 (x.2:Int)]::cap) (.bool (q x))):PSpec Tryz.prog 115 [los l,.fn K [] cap] (.bool (l.any q)):=by
 refine PSpec.Qan 64 TQ.ok115 rfl (by rw[noRefs,noRefs,Qbl hc,SU.QbL];rfl) rfl ?_
 have h:=index195 q l hl hc hk
 have hfn:=Qbl (K:=K) hc
 have hge:=@Ql8 _ q l
 generalize idxQ q l=a at*
 simp(disch:=first|omega|exact PairsOK.mk rfl|(simp only[lenW]<;>omega)) only[TQ.s115,Qaa,Qad,Qae,wW,wV,simprocAttr]
 refine cp h ?_
 simp(disch:=first|omega|exact PairsOK.mk rfl|(simp only[lenW]<;>omega)) only[hge,Qaa,Qad,Qae,wW,wV,simprocAttr]
 exact⟨.inr trivial,_,rfl,rfl⟩
theorem other234 (t:List Nat) (c s y:Nat) (hy:t[c]?=some y):PSpec Tryz.prog 234 [.agg [.int .i64 (c:Int),.int .i64 (s:Int)],.fptr [sliN t]] (.bool (!decide (y=s))):=by
 refine PSpec.Qan 64 TQ.ok234 rfl (by simp only[noRefs,noRef,Qac];rfl) rfl ?_
 have hc:c<t.length:=(List.getElem?_eq_some_iff.1 hy).1
 have hd:decide ((y:Int)=(s:Int))=decide (y=s):=decide_eq_decide.2 (by omega)
 simp(disch:=first|omega|exact PairsOK.mk rfl|(simp only[lenW]<;>omega)) only[TQ.s234,QaB hy,hc,hd,Qaa,Qad,Qae,wW,wV,simprocAttr]
 exact⟨.inr trivial,_,rfl,rfl⟩
def exQ (t:List Nat) (x:Nat×List (Nat×Nat)):Bool:= !x.2.any fun l=> !decide (t.getD l.1 0=l.2)
theorem excl233 (t:List Nat) (x:Nat×List (Nat×Nat)) (hl:x.2.length<=1000) (ht:∀l∈x.2,l.1<t.length):PSpec Tryz.prog 233 [sliN t,.fptr (exC x)] (.bool (exQ t x)):=by
  have hnx:noRefs (exC x)=true:=by simp only[exC,noRefs,noRef,SU.Qbc];rfl
  refine PSpec.Qan 64 TQ.ok233 rfl (by rw[noRefs,noRefs,Qab,noRef,hnx];rfl) rfl ?_
  have hC:=contains115 (K:=234) (cap:=[.fptr [sliN t]]) (fun l=> !decide (t.getD l.1 0=l.2)) x.2 (by omega) (by simp only[noRefs,noRef,Qac];rfl) fun l hm=>by
    obtain⟨y,hy⟩:=Qai (ht l hm)
    have:=other234 t l.1 l.2 y hy
    rwa [show t.getD l.1 0=y by rw[List.getD_eq_getElem?_getD,hy];rfl]
  show wS _ _ _ _ _ (argT 0 [sliN t,.fptr [.str [101,UInt8.ofNat (48+x.1)],los x.2]]) _ _
  unfold exQ
  generalize x.2.any (fun l=> !decide (t.getD l.1 0=l.2))=b at*
  simp(disch:=first|omega|exact PairsOK.mk rfl|(simp only[lenW]<;>omega)) only[TQ.s233,Qaa,Qad,Qae,wW,wV,simprocAttr]
  refine SU.chc (HSpec.lend (FrzL.cons (FrzTo.same _) (FrzL.cons (FrzTo.fn FrzL.nil (FrzL.cons (FrzTo.ptr (g:=0) (cs:=[sliN t]) gg (FrzL.same _)) FrzL.nil)) FrzL.nil)) hC rfl) ?_
  simp(disch:=first|omega|exact PairsOK.mk rfl|(simp only[lenW]<;>omega)) only[Qaa,Qad,Qae,wW,wV,simprocAttr]
  exact⟨.inr trivial,_,rfl,rfl⟩
def koV (t:List Nat) (l:List (Nat×Int)):Int:=(l.map fun x=>x.2*(t.getD x.1 0:Int)).foldl (· + ·) 0
theorem QkE {t:List Nat} {l:List (Nat×Int)} {i:Nat} {x:Nat×Int} (h:l[i]?=some x):koV t (l.take (i+1))=koV t (l.take i)+x.2*(t.getD x.1 0:Int):=by
 unfold koV
 rw[take_succ' h,List.map_append,List.foldl_append];rfl
theorem QiZ {a b:Int} (h: -4<a/\a<4) (hb:0<=b/\b<3): -12<=a*b/\a*b<=12:=by
 obtain rfl|rfl|rfl:b=0\/b=1\/b=2:=by omega
 ·omega
 ·omega
 ·omega
theorem Qi0 {t : List Nat} (ht : ∀ x ∈ t, x < 3) {l : List (Nat × Int)} (hl : ∀ x ∈ l, -4 < x.2 /\ x.2 < 4) : ∀ i, i <= l.length -> -12 * (i : Int) <= koV t (l.take i) /\ koV t (l.take i) <= 12 * (i : Int)
  |0,_=>by simp[koV]
  | i + 1, hi => by
    obtain⟨x,hx⟩:=Qai (l:=l) (i:=i) (by omega)
    rw[QkE hx]
    have h1:=Qi0 ht hl i (by omega)
    have hb:(0:Int)<=(t.getD x.1 0:Int)/\(t.getD x.1 0:Int)<3:=by
      refine⟨by omega,?_⟩
      rcases Nat.lt_or_ge x.1 t.length with h|h
      · have := ht (t.getD x.1 0) (by rw [List.getD_eq_getElem?_getD, List.getElem?_eq_getElem h]; exact List.getElem_mem h)
        omega
      · rw[List.getD_eq_getElem?_getD,List.getElem?_eq_none h];decide
    have h2:=QiZ (hl x (List.mem_of_getElem? hx)) hb
    omega
theorem _root_.Go.AM.au22 {p:Prop} (h:p:=by repeat' (first|exact RB.nil|(refine RnL.same ?_;first|rfl|(simp only[noRef,noRefs,Qah,Bool.and_self,Bool.and_true,Bool.true_and,Qac,Qau,Qab,SU.Qbc,SU.QaL,SU.Qbb,SU.Qa6,SU.Qcw];done))|exact RnM.keyM rfl|exact RnL.nil|exact(True.intro:RnM _ _ _ [] [])|refine RnL.cons ?_ ?_|(refine Rn.same ?_;first|rfl|(simp only[noRef,noRefs,Qah,Bool.and_self,Bool.and_true,Bool.true_and,Qac,Qau,Qab,SU.Qbc,SU.QaL,SU.Qbb,SU.Qa6,SU.Qcw];done))|exact Rn.x1 rfl rfl|exact Rn.x2 rfl rfl|exact Rn.x3 rfl rfl|exact Rn.x4 rfl rfl|exact Rn.x5 rfl|exact Rn.x6 rfl|exact Rn.x7 rfl|refine RB.newnil rfl rfl ?_|refine RB.cells rfl rfl rfl ?_ ?_|refine RB.map rfl rfl rfl ?_ ?_|refine RB.cellsB rfl rfl ?_ ?_|refine RB.mapB rfl rfl ?_ ?_)):p:=h
theorem value236 (t:List Nat) (k:List (Nat×Int)×Int) (hk:k.1.length<=1000) (ht:∀x∈t,x<3) (hc:∀x∈k.1,x.1<t.length/\ -4<x.2/\x.2<4):PSpec Tryz.prog 236 [.agg (coC k),sliN t] (.int .i64 (koV t k.1)):=by
  have hnk:noRefs (coC k)=true:=by simp only[coC,noRefs,noRef,SU.QaL];rfl
  refine PSpec.Qan 64 TQ.ok236 rfl (by rw[noRefs,noRefs,Qab,noRef,hnk];rfl) rfl ?_
  have hln:=SU.QcI k.1
  have hsm:=Qi0 ht fun x hx=>(hc x hx).2
  show wS _ _ _ _ _ (argT 0 [.agg [.str [107],tes k.1,.int .i64 k.2],sliN t]) _ _
  simp(disch:=first|omega|exact PairsOK.mk rfl|(simp only[lenW]<;>omega)) only[TQ.s236,Qaa,Qad,Qae,wW,wV,simprocAttr]
  refine Qap 100 (fun i:Nat=>[(1,sliN t),(5,.int .i64 (koV t (k.1.take i))),(9,tes k.1),(10,.int .i64 k.1.length),(11,.int .i64 i)]) (fun _=>[]) (fun i=>i<=k.1.length) (fun i=>k.1.length-i) 0 0 160 (fun _:Unit=>[(5,.int .i64 (koV t k.1))]) (fun _=>[]) (fun _=>True) ?_ (Nat.zero_le _) ?_ ?_
  · exact⟨[],rfl,RO.zero,RB.nil,RT.cons (Rn.same (Qab _)) (RT.cons (Rn.same rfl) (RT.cons (Rn.same (SU.Qb4 _)) au16))⟩
  · rintro i hi
    by_cases hlt:i<k.1.length
    · obtain ⟨x, hx⟩ := Qai hlt
      obtain⟨h1,h2⟩:=hc x (List.mem_of_getElem? hx)
      obtain⟨y,hy⟩:=Qai h1
      have hyt:=ht y (List.mem_of_getElem? hy)
      have hyd:t.getD x.1 0=y:=by rw[List.getD_eq_getElem?_getD,hy];rfl
      have hdr:=SU.QcX hx
      have hdl:2<=((k.1.flatMap teC).drop (i*2)).length:=by rw[hdr];simp
      have hsu:=QkE (t:=t) hx
      rw[hyd]at hsu
      have hp:=QiZ h2 (b:=(y:Int)) ⟨by omega,by omega⟩
      have hs1:=hsm i hi
      have hw1:wr .i64 (x.2*(y:Int))=x.2*(y:Int):=Qfb (by omega) (by omega)
      have hw2:wr .i64 (koV t (k.1.take i)+x.2*(y:Int))=koV t (k.1.take i)+x.2*(y:Int):=Qfb (by omega) (by omega)
      simp(disch:=first|omega|exact PairsOK.mk rfl|(simp only[lenW]<;>omega)) only[hlt,hdr,hdl,h1,QaB hy,hw1,hw2,Qaa,Qad,Qae,wW,wV,simprocAttr]
      refine⟨i+1,by omega,by omega,?_⟩
      rw[hsu]
      exact⟨[],rfl,RO.zero,RB.nil,RT.cons (Rn.same (Qab _)) (RT.cons (Rn.same rfl) (RT.cons (Rn.same (SU.Qb4 _)) au16))⟩
    · have e : i = k.1.length := by omega
      subst e
      simp(disch:=first|omega|exact PairsOK.mk rfl|(simp only[lenW]<;>omega)) only[hlt,List.take_length,Qaa,Qad,Qae,wW,wV,simprocAttr]
      exact⟨(),⟨[],rfl,au0,au22,au16⟩⟩
  rintro _ _
  simp(disch:=first|omega|exact PairsOK.mk rfl|(simp only[lenW]<;>omega)) only[Qaa,Qad,Qae,wW,wV,simprocAttr]
  exact⟨.inr trivial,_,rfl,rfl⟩
def koQ (t:List Nat) (k:List (Nat×Int)×Int):Bool:=decide (k.2<koV t k.1)
theorem excd235 (t:List Nat) (k:List (Nat×Int)×Int) (hk:k.1.length<=1000) (ht:∀x∈t,x<3) (hc:∀x∈k.1,x.1<t.length/\ -4<x.2/\x.2<4):PSpec Tryz.prog 235 [sliN t,.fptr (coC k)] (.bool (koQ t k)):=by
 have hnk:noRefs (coC k)=true:=by simp only[coC,noRefs,noRef,SU.QaL];rfl
 refine PSpec.Qan 64 TQ.ok235 rfl (by rw[noRefs,noRefs,Qab,noRef,hnk];rfl) rfl ?_
 have hv:=value236 t k hk ht hc
 show wS _ _ _ _ _ (argT 0 [sliN t,.fptr [.str [107],tes k.1,.int .i64 k.2]]) _ _
 unfold koQ
 simp(disch:=first|omega|exact PairsOK.mk rfl|(simp only[lenW]<;>omega)) only[TQ.s235,Qaa,Qad,Qae,wW,wV,simprocAttr]
 refine cp hv ?_
 simp(disch:=first|omega|exact PairsOK.mk rfl|(simp only[lenW]<;>omega)) only[Qaa,Qad,Qae,wW,wV,simprocAttr]
 exact⟨.inr trivial,_,rfl,rfl⟩
def cdF:(Nat×List (Nat×Nat))⊕(List (Nat×Int)×Int)->AV
 | .inl x=> .fn 233 [] [.fptr (exC x)]
 | .inr k=> .fn 235 [] [.fptr (coC k)]
def cdQ (t:List Nat):(Nat×List (Nat×Nat))⊕(List (Nat×Int)×Int)->Bool
 | .inl x=>exQ t x
 | .inr k=>koQ t k
def cdA (xs:List (Nat×List (Nat×Nat))) (ks:List (List (Nat×Int)×Int)):List ((Nat×List (Nat×Nat))⊕(List (Nat×Int)×Int)):=xs.map .inl++ks.map .inr
abbrev cdL (l:List ((Nat×List (Nat×Nat))⊕(List (Nat×Int)×Int))):AV:= .fsl (l.map cdF) l.length 1
theorem Qbm (x:(Nat×List (Nat×Nat))⊕(List (Nat×Int)×Int)):noRef (cdF x)=true:=by
 cases x with
 |inl x=>simp only[cdF,exC,noRef,noRefs,SU.Qbc];rfl
 |inr k=>simp only[cdF,coC,noRef,noRefs,SU.QaL];rfl
theorem Qcz (l:List ((Nat×List (Nat×Nat))⊕(List (Nat×Int)×Int))):noRef (cdL l)=true:=by rw[cdL,noRef];exact Qaj Qbm _
theorem Qp8 {l:List ((Nat×List (Nat×Nat))⊕(List (Nat×Int)×Int))} {i:Nat} {x:(Nat×List (Nat×Nat))⊕(List (Nat×Int)×Int)} (h:l[i]?=some x):((l.map cdF).drop i).head?=some (cdF x):=by
 rw[List.head?_drop,List.getElem?_map,h];rfl
theorem index203 {K : Nat} {cap : List AV} (q : ((Nat × List (Nat × Nat)) ⊕ (List (Nat × Int) × Int)) -> Bool) (l : List ((Nat × List (Nat × Nat)) ⊕ (List (Nat × Int) × Int))) (hl : l.length <= 1000000) (hc : noRefs cap = true) (hk : ∀ x ∈ l, PSpec Tryz.prog K (cdF x :: cap) (.bool (q x))) : PSpec Tryz.prog 203 [cdL l, .fn K [] cap] (.int .i64 (idxQ q l)) := by
  refine PSpec.Qan 64 TQ.ok203 rfl (by rw[noRefs,noRefs,Qbl hc,(Qcz _)];rfl) rfl ?_
  have hfn:=Qbl (K:=K) hc
  have hln:=(show(l.map cdF).length=l.length*1 by simp)
  simp(disch:=first|omega|exact PairsOK.mk rfl|(simp only[lenW]<;>omega)) only[TQ.s203,Qaa,Qad,Qae,wW,wV,simprocAttr]
  refine QaH 100 (fun i:Nat=>[(0,cdL l),(1,.fn K [] cap),(7,.int .i64 l.length),(8,.int .i64 i)]) (fun _=>[]) (fun i=>i<=l.length/\∀(j:Nat) y,j<i->l[j]?=some y->q y=false) (fun i=>l.length-i) 0 ?_ ⟨Nat.zero_le _,fun j y hj=>absurd hj (Nat.not_lt_zero _)⟩ ?_
  · exact⟨[],rfl,RO.zero,RB.nil,RT.cons (Rn.same (Qcz _)) (RT.cons (Rn.same hfn) (RT.cons (Rn.same rfl) (RT.cons (Rn.same rfl) RT.nil)))⟩
  rintro i ⟨hi,hb⟩
  by_cases hlt:i<l.length
  · obtain ⟨x, hx⟩ := Qai hlt
    have hn:=hk x (List.mem_of_getElem? hx)
    have hdr:=Qp8 hx
    have hdl:1<=(List.drop (i*1) (l.map cdF)).length:=by rw[List.length_drop,hln];omega
    cases hq:q x
    · rw [hq] at hn
      simp(disch:=first|omega|exact PairsOK.mk rfl|(simp only[lenW]<;>omega)) only[hlt,hdr,hdl,List.head?_cons,Qaa,Qad,Qae,wW,wV,simprocAttr]
      refine⟨_,by simpa using hn,?_⟩
      simp(disch:=first|omega|exact PairsOK.mk rfl|(simp only[lenW]<;>omega)) only[Qaa,Qad,Qae,wW,wV,simprocAttr]
      refine⟨i+1,by omega,⟨by omega,fun j y hj hy=>?_⟩,?_⟩
      · by_cases e : j = i
        · subst e;rw[hx]at hy;cases hy;exact hq
        · exact hb j y (by omega) hy
      · exact⟨[],rfl,RO.zero,RB.nil,RT.cons (Rn.same (Qcz _)) (RT.cons (Rn.same hfn) (RT.cons (Rn.same rfl) (RT.cons (Rn.same rfl) RT.nil)))⟩
    · rw [hq] at hn
      simp(disch:=first|omega|exact PairsOK.mk rfl|(simp only[lenW]<;>omega)) only[hlt,hdr,hdl,List.head?_cons,Qaa,Qad,Qae,wW,wV,simprocAttr]
      refine⟨_,by simpa using hn,?_⟩
      simp(disch:=first|omega|exact PairsOK.mk rfl|(simp only[lenW]<;>omega)) only[Qaa,Qad,Qae,wW,wV,simprocAttr]
      refine⟨.inr trivial,_,rfl,?_⟩
      rw[Qej hx hq hb];rfl
  · simp (disch := first | omega | exact PairsOK.mk rfl | (simp only [lenW] <;> omega)) only [hlt, Qaa, Qad, Qae, wW, wV, simprocAttr]
    refine⟨.inr trivial,_,rfl,?_⟩
    rw[Qda fun x hx=>by
      obtain⟨j,hj,hjl⟩:=List.getElem_of_mem hx
      exact hb j x (by omega) (by rw[List.getElem?_eq_getElem hj,hjl])];rfl
end Go.AM.SO
namespace Go.AM.SO
open Go.Proofs Go.AM.SD Go.AM.SE
structure TOk (S:List Nat) (t:List Nat) (xs:List (Nat×List (Nat×Nat))) (ks:List (List (Nat×Int)×Int)):Prop where
 ln:t.length=S.length
 l3:t.length<=1000
 t3:∀x∈t,x<3
 lt:∀(i:Nat) x n,t[i]?=some x->S[i]?=some n->x<n
 xl:∀x∈xs,x.2.length<=1000/\∀l∈x.2,l.1<t.length
 kl:∀k∈ks,k.1.length<=1000/\∀x∈k.1,x.1<t.length/\ -4<x.2/\x.2<4
 xn:xs.length<=1000
 kn:ks.length<=1000
variable {S t:List Nat} {xs:List (Nat×List (Nat×Nat))} {ks:List (List (Nat×Int)×Int)}
theorem call204 (h:TOk S t xs ks) {x:(Nat×List (Nat×Nat))⊕(List (Nat×Int)×Int)} (hx:x∈cdA xs ks):PSpec Tryz.prog 204 [cdF x,.fptr [sliN t]] (.bool (cdQ t x)):=by
 refine PSpec.Qan 64 TQ.ok204 rfl (by rw[noRefs,Qbm,noRefs];simp only[noRefs,noRef,Qac];rfl) rfl ?_
 unfold cdA at hx
 rcases List.mem_append.1 hx with hx|hx
 ·obtain ⟨y, hy, rfl⟩ := List.mem_map.1 hx
  have hc:=excl233 t y (h.xl y hy).1 (h.xl y hy).2
  simp(disch:=first|omega|exact PairsOK.mk rfl|(simp only[lenW]<;>omega)) only[TQ.s204,cdF,Qaa,Qad,Qae,wW,wV,simprocAttr]
  refine⟨_,by simpa using hc,?_⟩
  simp(disch:=first|omega|exact PairsOK.mk rfl|(simp only[lenW]<;>omega)) only[Qaa,Qad,Qae,wW,wV,simprocAttr]
  exact⟨.inr trivial,_,rfl,rfl⟩
 ·obtain ⟨y, hy, rfl⟩ := List.mem_map.1 hx
  have hc:=excd235 t y (h.kl y hy).1 h.t3 (h.kl y hy).2
  simp(disch:=first|omega|exact PairsOK.mk rfl|(simp only[lenW]<;>omega)) only[TQ.s204,cdF,Qaa,Qad,Qae,wW,wV,simprocAttr]
  refine⟨_,by simpa using hc,?_⟩
  simp(disch:=first|omega|exact PairsOK.mk rfl|(simp only[lenW]<;>omega)) only[Qaa,Qad,Qae,wW,wV,simprocAttr]
  exact⟨.inr trivial,_,rfl,rfl⟩
theorem Qdr:(cdA xs ks).length=xs.length+ks.length:=by simp[cdA]
theorem violated158 (h:TOk S t xs ks):PSpec Tryz.prog 158 [cdL (cdA xs ks),sliN t] (.int .i64 (idxQ (cdQ t) (cdA xs ks))):=by
 have hnl:=Qcz (cdA xs ks)
 refine PSpec.Qan 64 TQ.ok158 rfl (by rw[noRefs,hnl,noRefs,Qab];rfl) rfl ?_
 have hI:=index203 (K:=204) (cap:=[.fptr [sliN t]]) (cdQ t) (cdA xs ks) (by rw[Qdr];have:=h.xn;have:=h.kn;omega) (by simp only[noRefs,noRef,Qac];rfl) fun x hx=>call204 h hx
 generalize cdA xs ks=l at*
 simp(disch:=first|omega|exact PairsOK.mk rfl|(simp only[lenW]<;>omega)) only[TQ.s158,Qaa,Qad,Qae,wW,wV,simprocAttr]
 refine SU.chc (HSpec.lend (FrzL.cons (FrzTo.same _) (FrzL.cons (FrzTo.fn FrzL.nil (FrzL.cons (FrzTo.ptr (g:=0) (cs:=[sliN t]) gg (FrzL.same _)) FrzL.nil)) FrzL.nil)) hI rfl) ?_
 simp(disch:=first|omega|exact PairsOK.mk rfl|(simp only[lenW]<;>omega)) only[Qaa,Qad,Qae,wW,wV,simprocAttr]
 exact⟨.inr trivial,_,rfl,rfl⟩
theorem mk205 (x:Nat×List (Nat×Nat)):PSpec Tryz.prog 205 [.agg (exC x)] (cdF (.inl x)):=by
 have hnx:noRefs (exC x)=true:=by simp only[exC,noRefs,noRef,SU.Qbc];rfl
 refine PSpec.of_rn 64 TQ.ok205 rfl (by rw[noRefs,noRef,hnx];rfl) (Qbm _) ?_
 show wS _ _ _ _ _ (argT 0 [.agg [.str [101,UInt8.ofNat (48+x.1)],los x.2]]) _ _
 simp(disch:=first|omega|exact PairsOK.mk rfl|(simp only[lenW]<;>omega)) only[TQ.s205,Qaa,Qad,Qae,wW,wV,simprocAttr]
 refine⟨.inr trivial,_,rfl,?_⟩
 exact Rn.fn RnL.nil (RnL.cons (Rn.frzp (b:=64) (g:=0) rfl (Nat.zero_le _) (fun b' g' _ e=>by simp[π0]at e) (by simp) (RnL.same hnx)) RnL.nil)
theorem mk206 (k:List (Nat×Int)×Int):PSpec Tryz.prog 206 [.agg (coC k)] (cdF (.inr k)):=by
 have hnx:noRefs (coC k)=true:=by simp only[coC,noRefs,noRef,SU.QaL];rfl
 refine PSpec.of_rn 64 TQ.ok206 rfl (by rw[noRefs,noRef,hnx];rfl) (Qbm _) ?_
 show wS _ _ _ _ _ (argT 0 [.agg [.str [107],tes k.1,.int .i64 k.2]]) _ _
 simp(disch:=first|omega|exact PairsOK.mk rfl|(simp only[lenW]<;>omega)) only[TQ.s206,Qaa,Qad,Qae,wW,wV,simprocAttr]
 refine⟨.inr trivial,_,rfl,?_⟩
 exact Rn.fn RnL.nil (RnL.cons (Rn.frzp (b:=64) (g:=0) rfl (Nat.zero_le _) (fun b' g' _ e=>by simp[π0]at e) (by simp) (RnL.same hnx)) RnL.nil)
theorem Qi1 (x:(Nat×List (Nat×Nat))⊕(List (Nat×Int)×Int)):(cdF x).cells=[cdF x]:=by cases x<;>rfl
theorem Qme (x:(Nat×List (Nat×Nat))⊕(List (Nat×Int)×Int)):(cdF x).one=true:=by cases x<;>rfl
theorem Qmf (x:(Nat×List (Nat×Nat))⊕(List (Nat×Int)×Int)):(cdF x).boxable=true:=by cases x<;>rfl
theorem conds159 (hx:xs.length<=1000) (hk:ks.length<=1000):PSpec Tryz.prog 159 [cdV S xs ks] (cdL (cdA xs ks)):=by
  have hncd:=@QbB S xs ks
  refine PSpec.of_rn 64 TQ.ok159 rfl (by rw[noRefs,noRef,hncd];rfl) (Qcz _) ?_
  have hxi:=SU.QdR xs
  have hki:=Qfv ks
  show wS _ _ _ _ _ (argT 0 [.agg [sliN S,exs xs,cos ks]]) _ _
  simp(disch:=first|omega|exact PairsOK.mk rfl|(simp only[lenW]<;>omega)) only[TQ.s159,Qaa,Qad,Qae,wW,wV,simprocAttr]
  refine Qap 100 (fun i:Nat=>[(1,.ptr 51 0 0),(3,.sl 60 0 0 i 1),(9,exs xs),(10,.int .i64 xs.length),(11,.int .i64 i)]) (fun i=>[(51,.cells 0 [sliN S,exs xs,cos ks]),(60,.cells 0 ((cdA (xs.take i) []).map cdF))]) (fun i=>i<=xs.length) (fun i=>xs.length-i) 0 0 160 (fun _:Unit=>[(1,.ptr 51 0 0),(3,.sl 60 0 0 xs.length 1)]) (fun _=>[(51,.cells 0 [sliN S,exs xs,cos ks]),(60,.cells 0 ((cdA xs []).map cdF))]) (fun _=>True) ⟨[(51,.blk 64 0),(60,.nil)],rfl,au0,?_,au16⟩ (Nat.zero_le _) ?_ ?_
  · exact RB.cells rfl rfl gg (RnL.same hncd) (RB.newnil rfl rfl RB.nil)
  · rintro i hi
    by_cases hlt:i<xs.length
    · obtain ⟨x, hx⟩ := Qai hlt
      have hdr:=QhU hx
      have hdl:2<=((xs.flatMap exC).drop (i*2)).length:=by rw[hdr];simp
      have htl:((cdA (xs.take i) []).map cdF).length=i:=by rw[List.length_map,Qdr,List.length_take];simp;omega
      have hm:=mk205 x
      have hc:=Qi1 (.inl x)
      have ho:=Qme (.inl x)
      have hb:=Qmf (.inl x)
      have hsu:(cdA (xs.take (i+1)) []).map cdF=(cdA (xs.take i) []).map cdF++[cdF (.inl x)]:=by rw[take_succ' hx];simp[cdA]
      have hno:=Qbm (.inl x)
      generalize cdF (.inl x)=F at*
      simp(disch:=first|omega|exact PairsOK.mk rfl|(simp only[lenW]<;>omega)) only[hlt,hdr,hdl,Qaa,Qad,Qae,wW,wV,simprocAttr]
      refine cp hm ?_
      simp(disch:=first|omega|exact PairsOK.mk rfl|(simp only[lenW]<;>omega)) only[hc,ho,hb,htl,hno,Qaa,Qad,Qae,wW,wV,simprocAttr]
      refine⟨i+1,by omega,by omega,?_⟩
      rw[hsu]
      refine⟨[(51,.blk 51 0),(60,.blk 60 1)],rfl,au0,?_,au16⟩
      exact RB.cells rfl rfl gg (RnL.same hncd) (RB.cells rfl rfl gg (RnL.same (SU.Qao (Qaj Qbm _) (by rw[noRefs,hno];rfl))) RB.nil)
    · have e : i = xs.length := by omega
      subst e
      simp(disch:=first|omega|exact PairsOK.mk rfl|(simp only[lenW]<;>omega)) only[hlt,List.take_length,Qaa,Qad,Qae,wW,wV,simprocAttr]
      refine⟨(),?_⟩
      refine⟨[(51,.blk 51 0),(60,.blk 60 0)],rfl,au0,?_,au16⟩
      exact RB.cells rfl rfl gg (RnL.same hncd) (RB.cells rfl rfl gg (RnL.same (Qaj Qbm _)) RB.nil)
  rintro _ _
  simp(disch:=first|omega|exact PairsOK.mk rfl|(simp only[lenW]<;>omega)) only[Qaa,Qad,Qae,wW,wV,simprocAttr]
  refine Qap 200 (fun i:Nat=>[(3,.sl 60 0 0 (xs.length+i) 1),(22,cos ks),(23,.int .i64 ks.length),(24,.int .i64 i)]) (fun i=>[(60,.cells 0 ((cdA xs (ks.take i)).map cdF))]) (fun i=>i<=ks.length) (fun i=>ks.length-i) 0 2 260 (fun _:Unit=>[(3,cdL (cdA xs ks))]) (fun _=>[]) (fun _=>True) ⟨[(60,.blk 60 0)],rfl,au0,?_,au16⟩ (Nat.zero_le _) ?_ ?_
  · exact RB.cells rfl rfl gg (RnL.same (Qaj Qbm _)) RB.nil
  · rintro i hi
    by_cases hlt:i<ks.length
    · obtain ⟨k, hk⟩ := Qai hlt
      have hdr:=QhV hk
      have hdl:3<=((ks.flatMap coC).drop (i*3)).length:=by rw[hdr];simp
      have htl:((cdA xs (ks.take i)).map cdF).length=xs.length+i:=by rw[List.length_map,Qdr,List.length_take];omega
      have hm:=mk206 k
      have hc:=Qi1 (.inr k)
      have ho:=Qme (.inr k)
      have hb:=Qmf (.inr k)
      have hsu:(cdA xs (ks.take (i+1))).map cdF=(cdA xs (ks.take i)).map cdF++[cdF (.inr k)]:=by rw[take_succ' hk];simp[cdA]
      have hno:=Qbm (.inr k)
      generalize cdF (.inr k)=F at*
      simp(disch:=first|omega|exact PairsOK.mk rfl|(simp only[lenW]<;>omega)) only[hlt,hdr,hdl,Qaa,Qad,Qae,wW,wV,simprocAttr]
      refine cp hm ?_
      simp(disch:=first|omega|exact PairsOK.mk rfl|(simp only[lenW]<;>omega)) only[hc,ho,hb,htl,hno,Qaa,Qad,Qae,wW,wV,simprocAttr]
      refine⟨i+1,by omega,by omega,?_⟩
      rw[hsu]
      refine⟨[(60,.blk 60 1)],rfl,au0,?_,au16⟩
      exact RB.cells rfl rfl gg (RnL.same (SU.Qao (Qaj Qbm _) (by rw[noRefs,hno];rfl))) RB.nil
    · have e : i = ks.length := by omega
      subst e
      simp(disch:=first|omega|exact PairsOK.mk rfl|(simp only[lenW]<;>omega)) only[hlt,List.take_length,Qaa,Qad,Qae,wW,wV,simprocAttr]
      exact⟨(),[],rfl,RO.zero,RB.nil,RT.cons (Rn.fzm (b:=60) (g:=0) gg rfl rfl Qdr (by rw[List.length_map,Qdr];simp) (RnL.same (Qaj Qbm _))) RT.nil⟩
  rintro _ _
  simp(disch:=first|omega|exact PairsOK.mk rfl|(simp only[lenW]<;>omega)) only[Qaa,Qad,Qae,wW,wV,simprocAttr]
  exact⟨.inr trivial,_,rfl,Rn.same (Qcz _)⟩
end Go.AM.SO
namespace Go.AM.SO
open Go.Proofs Go.AM.SD Go.AM.SE
variable {S t:List Nat} {xs:List (Nat×List (Nat×Nat))} {ks:List (List (Nat×Int)×Int)}
theorem checkT202 (h:TOk S t xs ks):PSpec Tryz.prog 202 [cdV S xs ks,sliN t] (.int .i64 0):=by
  have hncd:=@QbB S xs ks
  refine PSpec.Qan 64 TQ.ok202 rfl (by rw[noRefs,noRef,hncd,noRefs,Qab];rfl) rfl ?_
  have hl3:=h.l3
  have hE1:(t.length=S.length)=True:=eq_true h.ln
  have hE2:((t.length:Int)=(S.length:Int))=True:=eq_true (by rw[h.ln])
  show wS _ _ _ _ _ (argT 0 [.agg [sliN S,exs xs,cos ks],sliN t]) _ _
  simp(disch:=first|omega|exact PairsOK.mk rfl|(simp only[lenW]<;>omega)) only[TQ.s202,hE1,hE2,Qaa,Qad,Qae,wW,wV,simprocAttr]
  refine Qap 100 (fun i:Nat=>[(2,.ptr 51 0 0),(13,sliN t),(14,.int .i64 t.length),(15,.int .i64 i)]) (fun _=>[(51,.cells 0 [sliN S,exs xs,cos ks])]) (fun i=>i<=t.length) (fun i=>t.length-i) 0 0 160 (fun _:Unit=>[]) (fun _=>[]) (fun _=>True) ?_ (Nat.zero_le _) ?_ ?_
  · refine ⟨[(51, .blk 64 0)], rfl, au0, ?_, au16⟩
    exact RB.cells rfl rfl gg (RnL.same hncd) RB.nil
  · rintro i hi
    by_cases hlt:i<t.length
    · obtain ⟨x, hx⟩ := Qai hlt
      obtain⟨n,hn⟩:=Qai (l:=S) (i:=i) (by rw[<-h.ln];exact hlt)
      have hlS:i<S.length:=by rw[<-h.ln];exact hlt
      have hxn:=h.lt i x n hx hn
      have g1:¬(x:Int)<0:=by omega
      have g2:¬(n:Int)<=(x:Int):=by omega
      simp(disch:=first|omega|exact PairsOK.mk rfl|(simp only[lenW]<;>omega)) only[hlt,hlS,QaB hx,QaB hn,g1,g2,Qaa,Qad,Qae,wW,wV,simprocAttr]
      refine⟨i+1,by omega,by omega,?_⟩
      refine⟨[(51,.blk 51 0)],rfl,au0,?_,au16⟩
      exact RB.cells rfl rfl gg (RnL.same hncd) RB.nil
    · simp (disch := first | omega | exact PairsOK.mk rfl | (simp only [lenW] <;> omega)) only [hlt, Qaa, Qad, Qae, wW, wV, simprocAttr]
      exact⟨(),⟨[],rfl,au0,au22,au16⟩⟩
  rintro _ _
  simp(disch:=first|omega|exact PairsOK.mk rfl|(simp only[lenW]<;>omega)) only[Qaa,Qad,Qae,wW,wV,simprocAttr]
  exact⟨.inr trivial,_,rfl,rfl⟩
theorem Qoj {c:Cel} (h:WfCel c) {t:List Nat} (ht:InT (auL c.cs) t):TOk (szs c) t c.xs c.ks:=by
  have hl:t.length=c.cs.length:=by rw[ht.1,QaU]
  have h3:=h.c3
  have hx:=h.x2
  have hk:=h.k1
  refine⟨by rw[hl,h.slen],by omega,fun x hx=>ht.lt (Qa2 h) hx,fun i x n hi hn=>?_,fun x hx=>⟨by have:=h.xlen hx;omega,fun l hl2=>?_⟩,fun k hk=>⟨by have:=h.klen hk;omega,fun x hx=>?_⟩,by omega,by omega⟩
  · have hil : i < c.cs.length := by rw [<- hl]; exact (List.getElem?_eq_some_iff.1 hi).1
    obtain⟨y,hy⟩:=Qai hil
    have h1:=ht.2 i y.2 (by rw[List.getElem?_map,hy];rfl)
    rw[List.getD_eq_getElem?_getD,hi]at h1
    unfold szs at hn
    rw[List.getElem?_map,hy]at hn
    simp only[Option.map_some,Option.some.injEq]at hn
    subst hn
    simpa using h1
  · obtain ⟨y, hy, _⟩ := (h.xl x hx).2.2 l hl2
    rw[hl]
    exact(List.getElem?_eq_some_iff.1 hy).1
  · obtain ⟨h1, _, h4, h5⟩ := (h.kl k hk).2.2.1 x hx
    exact⟨by rw[hl];exact h1,h4,h5⟩
theorem checkT157 (c:Cel) (h:WfCel c) {t:List Nat} (ht:InT (auL c.cs) t):PSpec Tryz.prog 157 [cdV (szs c) c.xs c.ks,sliN t] (.int .i64 0):=by
 have hncd:=@QbB (szs c) c.xs c.ks
 refine PSpec.Qan 64 TQ.ok157 rfl (by rw[noRefs,noRef,hncd,noRefs,Qab];rfl) rfl ?_
 have h1:=conds32 c h
 have h2:=checkT202 (Qoj h ht)
 show wS _ _ _ _ _ (argT 0 [.agg [sliN (szs c),exs c.xs,cos c.ks],sliN t]) _ _
 simp(disch:=first|omega|exact PairsOK.mk rfl|(simp only[lenW]<;>omega)) only[TQ.s157,Qaa,Qad,Qae,wW,wV,simprocAttr]
 refine cp h1 ?_
 simp(disch:=first|omega|exact PairsOK.mk rfl|(simp only[lenW]<;>omega)) only[Qaa,Qad,Qae,wW,wV,simprocAttr]
 refine cp h2 ?_
 simp(disch:=first|omega|exact PairsOK.mk rfl|(simp only[lenW]<;>omega)) only[Qaa,Qad,Qae,wW,wV,simprocAttr]
 exact⟨.inr trivial,_,rfl,rfl⟩
theorem QgN {α:Type} {q:α->Bool} {A:List α}: -1<=idxQ q A/\(0<=idxQ q A->idxQ q A<A.length):=by
 unfold idxQ
 by_cases ha:A.any q=true
 ·rw [if_pos ha]
  have:A.findIdx q<A.length:=List.findIdx_lt_length_of_exists (by simpa using ha)
  exact⟨by omega,fun _=>by omega⟩
 ·rw [if_neg ha]
  exact⟨by omega,fun h=>by omega⟩
def vioV (t:List Nat) (xs:List (Nat×List (Nat×Nat))) (ks:List (List (Nat×Int)×Int)):Int×Int×Bool:=
 if idxQ (cdQ t) (cdA xs ks)<0 then(0,0,false)else if idxQ (cdQ t) (cdA xs ks)<xs.length then(1,idxQ (cdQ t) (cdA xs ks),true)else(2,idxQ (cdQ t) (cdA xs ks)-xs.length,true)
theorem violated73 (c:Cel) (h:WfCel c) {t:List Nat} (ht:InT (auL c.cs) t):PSpec Tryz.prog 73 [cdV (szs c) c.xs c.ks,sliN t] (.tup [.int .i64 (vioV t c.xs c.ks).1,.int .i64 (vioV t c.xs c.ks).2.1,.bool (vioV t c.xs c.ks).2.2,.int .i64 0]):=by
  have hncd:=@QbB (szs c) c.xs c.ks
  refine PSpec.Qan 64 TQ.ok73 rfl (by rw[noRefs,noRef,hncd,noRefs,Qab];rfl) rfl ?_
  have h1:=checkT157 c h ht
  have ho:=Qoj h ht
  have h2:=conds159 (S:=szs c) ho.xn ho.kn
  have h3:=violated158 ho
  have hle:=@QgN _ (cdQ t) (cdA c.xs c.ks)
  have hx2:=h.x2
  have hk1:=h.k1
  rw[Qdr]at hle
  unfold vioV
  generalize idxQ (cdQ t) (cdA c.xs c.ks)=a at*
  show wS _ _ _ _ _ (argT 0 [.agg [sliN (szs c),exs c.xs,cos c.ks],sliN t]) _ _
  simp(disch:=first|omega|exact PairsOK.mk rfl|(simp only[lenW]<;>omega)) only[TQ.s73,Qaa,Qad,Qae,wW,wV,simprocAttr]
  refine cp h1 ?_
  simp(disch:=first|omega|exact PairsOK.mk rfl|(simp only[lenW]<;>omega)) only[Qaa,Qad,Qae,wW,wV,simprocAttr]
  refine cp h2 ?_
  simp(disch:=first|omega|exact PairsOK.mk rfl|(simp only[lenW]<;>omega)) only[Qaa,Qad,Qae,wW,wV,simprocAttr]
  refine cp h3 ?_
  by_cases ha:a<0
  · simp (disch := first | omega | exact PairsOK.mk rfl | (simp only [lenW] <;> omega)) only [ha, Qaa, Qad, Qae, wW, wV, simprocAttr]
    exact⟨.inr trivial,_,rfl,rfl⟩
  · by_cases hb : a < c.xs.length
    · simp (disch := first | omega | exact PairsOK.mk rfl | (simp only [lenW] <;> omega)) only [ha, hb, Qaa, Qad, Qae, wW, wV, simprocAttr]
      exact⟨.inr trivial,_,rfl,rfl⟩
    · have hw : wr .i64 (a - (c.xs.length : Int)) = a - (c.xs.length : Int) := Qfb (by omega) (by omega)
      simp(disch:=first|omega|exact PairsOK.mk rfl|(simp only[lenW]<;>omega)) only[ha,hb,hw,Qaa,Qad,Qae,wW,wV,simprocAttr]
      exact⟨.inr trivial,_,rfl,rfl⟩
end Go.AM.SO
namespace Go.AM.TR
open Go.Proofs
set_option maxHeartbeats 4000000
noncomputable section
def cf:YA.Cf:={most:= .pure,always:=[28,69].map fun k=>(k,.heap)}
def s70:SFn:=by
 refine(?f:YA.Yt Tryz.prog cf 70 [[0,2,3],[8,9,10],[5],[12,13,14,15,11,16,17,18,19,20,21,22],[23],[1,4,5,24,25],[2,3,24,27,28,29,30,31,32,33,34,35,36,26,37,38,39,40,41,42,43],[44],[1,4,5,45,46],[2,3,1,5,45,47,48,49,50,51,52,53,54,55],[56,57,58],[],[62,63,64,65],[6,7,66,67,68,69,70,71,72],[73],[4,59,60,61,74]] [(9,[(4,6)])]) ?s ?h
 case h=>conv=>lhs;reduce;simp only[Int.reduceOfNat,Int.reduceNegSucc,YA.u8e,UInt8.reduceOfNat]
 case f=>exact fun s _=>s
def s160:SFn:=by
 refine(?f:YA.Yt Tryz.prog cf 160 [[2,11,12,13,14,15,16,10,17,18,6],[5],[],[22,23,24],[25,26,27,28],[8,9,29,30,31],[37,38]]) ?s ?h
 case h=>conv=>lhs;reduce;simp only[Int.reduceOfNat,Int.reduceNegSucc,YA.u8e,UInt8.reduceOfNat]
 case f=>exact fun s _=>s
theorem ok70:okFn Tryz.prog 70 s70=true:=by kernel_rfl
theorem ok160:okFn Tryz.prog 160 s160=true:=by kernel_rfl
end
end Go.AM.TR
namespace Go.AM
variable {P:Program}
theorem HRel.give {ok : Okc} {c : Ctx ok} {h : Heap} {w : World} (H : HRel c h w) {b g len sz : Nat} {ds : List AV} (hb : h.get b = some (.cells g ds)) (hr : noRefs ds = true) (hl : ds.length = len * sz) (hlim : Nat.blt b 1099511627775 = true) :
    ∃c2,Evo c w c2 w/\HRel c2 (h.set b (.dead g)) w/\(∀v,VRel c w (.sl b g 0 len sz) v->VRel c2 w (.fsl ds len sz) v)/\∀x v,noRef x=true->VRel c w x v->VRel c2 w x v:=by
  have hlim':b<1099511627775:=by simpa using hlim
  have hlive:Live h b g:=⟨_,hb,rfl,fun _=>by simp⟩
  let c2:Ctx ok:={c with F:=fun k=>c.F k\/∃base,c.ρ b g=some (.loc k base),O:=fun k=>c.O k/\¬∃base,c.ρ b g=some (.loc k base)}
  have hset:∀k,(h.set b (.dead g)).get k=if k=b then some (.dead g)else h.get k:=fun k=>by
    by_cases e:k=b
    · subst e;rw[QaG hlim',if_pos rfl]
    · rw[QaK hlim' e,if_neg e]
  have hlv:∀k y,Live (h.set b (.dead g)) k y->k≠b/\Live h k y:=by
    rintro k y ⟨x,hk,hg,hd⟩
    rw[hset]at hk
    split at hk
    · cases hk;exact absurd rfl (hd g)
    · rename_i e;exact⟨e,x,hk,hg,hd⟩
  have E:=Evo.refl c w
  have E2:Evo c w c2 w:=⟨E.os,E.tape,E.output,E.size,E.shape,E.keep,E.rho,fun k hk=> .inl (E.frz k hk),fun k hk=>by
    rcases hk with hk|⟨base,hk⟩
    · exact E.frzNew k hk
    · exact .inr (.inl (H.owned hlive hk)),fun k hk=>E.own k hk.1,E.base⟩
  refine⟨c2,E2,⟨fun k hk y=>?_,fun k x hk y hlt=>?_,fun k x hk=>?_,fun k y k' y' cb base base' l1 l2 p1 p2=>H.inj k y k' y' cb base base' (hlv _ _ l1).2 (hlv _ _ l2).2 p1 p2,fun k hF hO=>?_,fun k hF=>?_,fun k hO=>H.inO k hO.1⟩,fun v V=>?_,fun x v hn hv=>VRel.noRef (c:=c) (c':=c2) (fun _ h=> .inl h) _ _ hn hv⟩
  · rw [hset] at hk
    split at hk
    · cases hk
    · exact H.fresh k hk y
  · rw [hset] at hk
    split at hk
    · rename_i e; subst e; cases hk
      exact H.later k _ hb y hlt
    · exact H.later k x hk y hlt
  · rw [hset] at hk
    split at hk
    · cases hk;trivial
    · rename_i e
      refine BRel.mono (c:=c) (c':=c2) (w:=w) (w':=w) ⟨fun _ _ _ h=>h,fun _ h=> .inl h,fun _ _ _ h=>h,fun _ C _ fr h=>⟨C,fr,h,rfl⟩⟩ (fun cb base hd hp=>?_) (H.blk k x hk)
      have hlk:Live h k x.gen:=⟨x,hk,rfl,hd⟩
      exact⟨⟨H.owned hlk hp,fun⟨base',hp'⟩=>e (H.inj _ _ _ _ _ _ _ hlk hlive hp hp')⟩,rfl⟩
  · rcases hF with hF | hF
    · exact H.disj k hF hO.1
    · exact hO.2 hF
  · rcases hF with hF | ⟨base, hF⟩
    · exact H.inF k hF
    · exact H.inO k (H.owned hlive hF)
  · simp only [VRel] at V
    rcases V with⟨hp,rfl,_,rfl⟩|⟨cb,base,o,cap,C,e,fr,hp,rfl,hlc,hC,hcap⟩
    · have : ds = [] := List.eq_nil_of_length_eq_zero (by rw [hl]; simp)
      subst this
      simp only[VRel];exact .inl (by simp)
    · obtain ⟨C', e', fr', hO, hC', hfr, hbs, hpre⟩ := H.here hb hp
      rw[hC]at hC';cases hC'
      have hF:c2.F cb:= .inr ⟨base,hp⟩
      by_cases h0:cap=0
      · have hl0 : len = 0 := by omega
        subst hl0
        have:ds=[]:=List.eq_nil_of_length_eq_zero (by rw[hl];simp)
        subst this
        simp only[VRel]
        exact .inr ⟨cb,o,cap,C,e,fr,rfl,hlc,by simp,hF,hC,by simp[VPre]⟩
      · obtain ⟨rfl, hbd⟩ := hcap.resolve_left h0
        have hp2:=VPre.noRef2 (c:=c) (c':=c2) (fun _ h=> .inl h) hr hpre
        simp only[VRel]
        exact .inr ⟨cb,_,cap,C,e,fr,rfl,hlc,hl,hF,hC,by simpa using hp2⟩
theorem HSpec.give1 {f b g len sz:Nat} {ds:List AV} {h:Heap} {v:AV} (S:PSpec P f [.fsl ds len sz] v) (hb:h.get b=some (.cells g ds)) (hr:noRefs ds=true) (hl:ds.length=len*sz) (hlim:Nat.blt b 1099511627775=true):
  HSpec P f [.sl b g 0 len sz] h v (h.set b (.dead g)):=by
 have hS:=S
 obtain⟨_,_,h',hc,_⟩:=S
 refine⟨hc,fun c w cargs H ha=>?_⟩
 obtain⟨c2,E2,H2,V2,_⟩:=H.give hb hr hl hlim
 have ha2:VRels c2 w [.fsl ds len sz] cargs.toList:=by
  simp only[VRels]at ha⊢
  obtain⟨v1,vs,e,h1,h2⟩:=ha
  exact⟨v1,vs,e,V2 _ h1,h2⟩
 refine((hS.pure H2 ha2).2).mono ?_
 rintro e w' ⟨cv,c',rfl,E,H',V⟩
 exact⟨cv,c',rfl,E2.trans E,H',V⟩
end Go.AM
namespace Go.AM
variable {P:Program}
def tight (i:Nat) (f:FP):Prop:=f.all=false/\∀b,b∈f.R\/b∈f.W->b∈[i]
def wpRS (P:Program) (z:Nat):Nat->List SOper->Tmps->Heap->(Tmps->Heap->Nat->Prop)->Prop
 |n,[],T,h,K=>K T h n
 |n,s::r,T,h,K=>∃v h1 f,StepV P n s T h v h1 f/\(n=z->tight n f)/\wpRS P z (n+1) r (putD T s.dst v) h1 K
theorem Qi2 {z:Nat}:∀{r:List SOper} {n:Nat} {T:Tmps} {h:Heap} {K:Tmps->Heap->Nat->Prop},z<n->wpR P n r T h K->wpRS P z n r T h K
 |[],n,T,h,K,_,hk=>hk
 |s::r,n,T,h,K,hz,⟨v,h1,f,hs,hr⟩=>⟨v,h1,f,hs,fun e=>by omega,Qi2 (by omega) hr⟩
theorem Qp9 {s:SOper} {K:Tmps->Heap->Nat->Prop}:∀(k:Nat) (r:List SOper) (n:Nat) (T:Tmps) (h:Heap),r[k]?=some s->
  wpR P n (r.take k) T h (fun T1 h1 n1=>∃v h2 f,StepV P n1 s T1 h1 v h2 f/\tight n1 f/\wpR P (n1+1) (r.drop (k+1)) (putD T1 s.dst v) h2 K)->wpRS P (n+k) n r T h K:=by
 intro k
 induction k with
 | zero =>
  intro r n T h e hw
  cases r with
  |nil=>cases e
  |cons t r=>
   rw[List.getElem?_cons_zero,Option.some.injEq]at e
   subst e
   rw[List.take_zero]at hw
   simp only[wpR]at hw
   obtain⟨v,h2,f,h3,h4,h5⟩:=hw
   rw[List.drop_succ_cons,List.drop_zero]at h5
   exact⟨v,h2,f,h3,fun _=>h4,Qi2 (by omega) h5⟩
 | succ k ih =>
  intro r n T h e hw
  cases r with
  |nil=>cases e
  |cons t r=>
   rw[List.take_succ_cons]at hw
   simp only[wpR]at hw
   obtain⟨v,h1,f,h3,h4⟩:=hw
   refine⟨v,h1,f,h3,fun e=>by omega,?_⟩
   rw[show n+(k+1)=n+1+k by omega]
   exact ih r (n+1) _ _ (by simpa using e) h4
theorem QkF {z:Nat}:∀{r:List SOper} {n:Nat} {T:Tmps} {h:Heap} {K:Tmps->Heap->Nat->Prop},wpRS P z n r T h K->∃T' h' n',K T' h' n'/\∀d,(∀s∈r,s.dst≠some d)->lk T' d=lk T d
 |[],n,T,h,K,hk=>⟨T,h,n,hk,fun _ _=>rfl⟩
 |s::r,n,T,h,K,⟨v,h1,f,hs,_,hr⟩=>by
  obtain⟨T',h',n',hk,he⟩:=QkF hr
  refine⟨T',h',n',hk,fun d hd=>?_⟩
  rw[he d fun s' hs'=>hd s' (by simp[hs'])]
  have:=hd s (by simp)
  rw[Qa8,if_neg this]
def touch3 (z i:Nat) (ax:Opd->Option (List Nat)) (s:SOp):Option (List Nat):=bif Nat.beq i z then some [i]else touch2 i ax s
def touchesN (z:Nat) (C:Claims) (n:Nat) (T:Tmps):List SOper->Abs->List (Option (List Nat))
 |[],_=>[]
 |s::r,A=>touch3 z n (absO T A) s.op::touchesN z C (n+1) T r (match s.dst with|some d=>(d,absH C d (s.op.absV n (absO T A)))::A|none=>A)
theorem QkG {T0:Tmps} {C:Claims} {z:Nat}:∀{r:List SOper} {n:Nat} {A:Abs} {T:Tmps} {h:Heap} {K:Tmps->Heap->Nat->Prop} (hA:AbsOK T0 A T) (K':List FP->Tmps->Heap->Nat->Prop)
  (hC:∀T h n,K T h n->∀d bs,clm C d=some bs->Pts (lk T d) bs) (hssa:ssa C r=true),
  (∀fs T h n',fs.length=r.length->(∀(j:Nat) ts,(touchesN z C n T0 r A).getD j none=some ts->(fs.getD j ⟨false,[],[]⟩).all=false/\∀b,b∈(fs.getD j ⟨false,[],[]⟩).R\/b∈(fs.getD j ⟨false,[],[]⟩).W->b∈ts)->K T h n'->K' fs T h n')->
  wpRS P z n r T h K->wpRF P n r T h K'
 |[],n,A,T,h,K,hA,K',hC,hssa,hK,hw=>hK [] T h n rfl (fun j ts hj=>by simp[touchesN]at hj) hw
 | s :: r, n, A, T, h, K, hA, K', hC, hssa, hK, hw => by
  obtain⟨v,h1,f,hs,hz,hr⟩:=hw
  simp only[ssa,Bool.and_eq_true]at hssa
  obtain⟨hs1,hs2⟩:=hssa
  refine⟨v,h1,f,hs,?_⟩
  have hA2:AbsOK T0 (match s.dst with|some d=>(d,absH C d (s.op.absV n (absO T0 A)))::A|none=>A) (putD T s.dst v):=by
   cases e:s.dst with
   |none=>exact hA
   | some d =>
    refine AbsOK.up hA fun bs hb=>?_
    unfold absH at hb
    split at hb
    ·rename_i bs' hc
     cases hb
     obtain⟨T',h',n',hk,he⟩:=QkF hr
     have h3:=hC T' h' n' hk d _ hc
     rw[he d ?_,Qa8,if_pos e]at h3
     ·exact h3
     ·intro s' hs'
      rw[e]at hs1
      simp only[hc,Option.isNone_some,Bool.false_or,List.all_eq_true]at hs1
      have:=hs1 s' hs'
      intro e2
      rw[e2]at this
      simp at this
    ·exact Qez hA.opd hb hs
  refine QkG hA2 (fun fs T h n=>K' (f::fs) T h n) hC hs2 (fun fs T h n' hl hf hk=>?_) hr
  refine hK (f::fs) T h n' (by simp[hl]) (fun j ts hj=>?_) hk
  cases j with
  | zero =>
   simp only[touchesN,List.getD_cons_zero]at hj⊢
   unfold touch3 at hj
   cases e:Nat.beq n z with
   |true=>
    rw[e]at hj
    simp only[cond_true,Option.some.injEq]at hj
    subst hj
    exact hz (by simpa using e)
   |false=>
    rw[e]at hj
    exact Qfi hA.opd hj hs
  |succ j=>
   simp only[touchesN,List.getD_cons_succ]at hj⊢
   exact hf j ts hj
def NewAt (P:Program) (N:NM) (x:Opd) (ag:List Opd) (d:Option Nat) (r:List SOper) (n:Nat) (T:Tmps) (h:Heap) (Q:QC):Prop:=
 ∃f ys len sz,ev T x= .fn f [] []/\NSpec P f (evs T ag) ys len sz/\noRefs ys=true/\n<lim/\h.get n=none/\wR P N r [] [] (n+1) (putD T d (.sl n 0 0 len sz)) (h.set n (.cells 0 ys)) Q
theorem QmM (C:Claims) (k:Nat) {x:Opd} {ag:List Opd} {d:Option Nat} {N:NM} {ops:List SOper} {p:Nat×Nat} {ps:List (Nat×Nat)} {dead:List Nat} {fs:List Fr} {n:Nat} {T:Tmps} {h:Heap} {Q:QC} {af:List Nat} (hk:ops[k]?=some ⟨d,.call .heap x ag,af,none⟩) (hssa:ssa C ops=true) (hp:pairsOK (touchesN (n+k) C n T ops []) (p::ps)=true)
  (hw:wR P N (ops.take k) [] [] n T h fun e T h n=>NewAt P N x ag d (ops.drop (k+1)) n T h fun e T h n=>Clms T C/\wX P N .normal fs n (rm T dead) h Q):wS P N (.region ops (p::ps) dead) fs n T h Q:=by
 have rm0:∀T:Tmps,rm T []=T:=by
  intro T
  induction T with
  |nil=>rfl
  |cons p T ih=>obtain⟨j,v⟩:=p;simp[rm,ih]
 refine QkG (C:=C) (z:=n+k) (K:=fun T h n=>Clms T C/\wX P N .normal fs n (rm T dead) h Q) AbsOK.nil _ (fun T h n hk d bs hc=>hk.1.get d bs hc) hssa (fun fs' T h n' hl hf hk=>⟨?_,hk.2⟩) ?_
 ·rw [List.all_eq_true]
  intro q hq
  have:=List.all_eq_true.1 hp q hq
  split at this
  ·rename_i a b ha hb
   obtain⟨f1,f2⟩:=hf _ _ ha
   obtain⟨g1,g2⟩:=hf _ _ hb
   have hd:∀x y,x∈a->y∈b->x≠y:=by
    rintro x y hx hy rfl
    have:=List.all_eq_true.1 this x hx
    simp[hy]at this
   have dj:∀xs ys:List Nat,(∀x∈xs,∀y∈ys,x≠y)->disj xs ys=true:=by
    intro xs ys hh
    unfold disj
    rw[List.all_eq_true]
    intro x hx
    simp only[Bool.not_eq_true',List.contains_eq_mem,decide_eq_false_iff_not]
    intro hy
    exact hh x hx x hy rfl
   unfold FP.apart
   rw[f1,g1]
   simp only[Bool.and_eq_true]
   refine⟨⟨dj _ _ fun x hx y hy=>?_,dj _ _ fun x hx y hy=>?_⟩,dj _ _ fun x hx y hy=>?_⟩
   ·first|exact hd x y (f2 x (.inr hx)) (g2 y (.inl hy))|exact fun e=>hd y x (f2 y (.inl hy)) (g2 x (.inr hx)) e.symm
   ·first|exact hd x y (f2 x (.inr hx)) (g2 y (.inr hy))|exact fun e=>hd y x (f2 y (.inr hy)) (g2 x (.inr hx)) e.symm
   ·first|exact fun e=>hd y x (f2 y (.inl hy)) (g2 x (.inr hx)) e.symm|exact fun e=>hd y x (f2 y (.inr hy)) (g2 x (.inl hx)) e.symm|exact hd x y (f2 x (.inl hx)) (g2 y (.inr hy))
  ·cases this
 ·refine Qp9 k ops n T h hk ?_
  have hw':wpR P n (ops.take k) T h fun T h n=>NewAt P N x ag d (ops.drop (k+1)) n (rm T []) h fun e T h n=>Clms T C/\wX P N .normal fs n (rm T dead) h Q:=hw
  simp only[rm0]at hw'
  have mono:∀{r:List SOper} {n:Nat} {T:Tmps} {h:Heap} {K K':Tmps->Heap->Nat->Prop},(∀T h n,K T h n->K' T h n)->wpR P n r T h K->wpR P n r T h K':=by
   intro r
   induction r with
   |nil=>intro n T h K K' hi hw;exact hi _ _ _ hw
   |cons s r ih=>intro n T h K K' hi hw;obtain⟨v,h1,f,hs,hr⟩:=hw;exact⟨v,h1,f,hs,ih hi hr⟩
  refine mono (fun T1 h1 n1 hh=>?_) hw'
  obtain⟨f,ys,len,sz,e1,e2,e3,e4,e5,e6⟩:=hh
  refine⟨.sl n1 0 0 len sz,h1.set n1 (.cells 0 ys),⟨false,[n1],[n1]⟩,?_,⟨rfl,fun b hb=>?_⟩,?_⟩
  ·refine ⟨.call .heap f (evs T1 ag), h1, ?_, .inr (.inr (.inl ⟨evs T1 ag, [], .inl ⟨rfl, rfl⟩, .inl ⟨ys, len, sz, e2, .inr ⟨e3, rfl⟩, e4, e5, rfl, rfl, rfl⟩⟩))⟩
   simp only[aop,e1,aCall,HM.run,List.nil_append,List.append_nil]
  ·simpa using hb
  ·have e6' : wpR P (n1 + 1) (ops.drop (k + 1)) (putD T1 d (.sl n1 0 0 len sz)) (h1.set n1 (.cells 0 ys)) fun T h n => Clms (rm T []) C /\ wX P N .normal fs n (rm (rm T []) dead) h Q := e6
   simp only[rm0]at e6'
   exact e6'
end Go.AM
namespace Go.AM.SL
open Go.Proofs
set_option maxHeartbeats 4000000
noncomputable section
end
end Go.AM.SL
namespace Go.AM.SO
open Go.Proofs Go.AM.SD Go.AM.SE
theorem u8_wf {n:Int} (h:(Lit.int .u8 n).wf=true):0<=n/\n<256:=by
 simp[Lit.wf,IntKind.min,IntKind.max,IntKind.signed,IntKind.bits]at h
 omega
theorem i8_wf {n:Int} (h:(Lit.int .i8 n).wf=true): -128<=n/\n<128:=by
 simp[Lit.wf,IntKind.min,IntKind.max,IntKind.signed,IntKind.bits]at h
 omega
def u8O:Ty->Bool
 | .int k=>k== .u8
 | .arr _ t=>u8O t
 | .st t=>u8O t
 | .unit=>true
 | .pair a b=>u8O a&&u8O b
 |_=>false
theorem QeN {a b:List Nat}:u8s (a++b)=u8s a++u8s b:=by simp[u8s]
theorem QbH:∀(t:Ty),u8O t=true->∀(d:t.D),t.wf d->∃l:List Nat,l.length=t.sz/\(∀x∈l,x<256)/\t.cells d=u8s l
 | .int k,h,d,hw=>by
  have:k= .u8:=by simpa[u8O]using h
  subst this
  have:=u8_wf hw
  refine⟨[Int.toNat d],rfl,by simp;omega,?_⟩
  show[AV.int .u8 d]=[AV.int .u8 ((Int.toNat d:Nat):Int)]
  rw[Int.toNat_of_nonneg this.1]
 | .bool,h,_,_=>by cases h
 | .str,h,_,_=>by cases h
 | .sl _,h,_,_=>by cases h
 | .st t,h,d,hw=>QbH t h d hw
 | .unit,_,_,_=>⟨[],rfl,by simp,rfl⟩
 | .pair a b,h,d,hw=>by
  simp only[u8O,Bool.and_eq_true]at h
  obtain⟨l,h1,h2,h3⟩:=QbH a h.1 d.1 hw.1
  obtain⟨m,g1,g2,g3⟩:=QbH b h.2 d.2 hw.2
  refine⟨l++m,by rw[List.length_append,h1,g1];rfl,fun x hx=>(List.mem_append.1 hx).elim (h2 x) (g2 x),?_⟩
  show a.cells d.1++b.cells d.2=_
  rw[h3,g3,QeN]
 | .arr n t, h, d, hw => by
  obtain⟨hl,hx⟩:=hw
  have key:∀l:List t.D,(∀x∈l,t.wf x)->∃r:List Nat,r.length=l.length*t.sz/\(∀x∈r,x<256)/\l.flatMap t.cells=u8s r:=by
   intro l
   induction l with
   |nil=>intro _;exact⟨[],by simp,by simp,rfl⟩
   |cons a l ih=>
    intro hl
    obtain⟨r,g1,g2,g3⟩:=ih fun y hy=>hl y (by simp[hy])
    obtain⟨m,h1,h2,h3⟩:=QbH t h a (hl a (by simp))
    refine⟨m++r,by rw[List.length_append,h1,g1,List.length_cons,Nat.succ_mul];omega,fun x hx=>(List.mem_append.1 hx).elim (h2 x) (g2 x),?_⟩
    rw[List.flatMap_cons,g3,h3,QeN]
  obtain⟨r,g1,g2,g3⟩:=key d hx
  refine⟨r,by rw[g1];show List.length d*t.sz=n*t.sz;rw[hl],g2,g3⟩
abbrev tyTo:Ty:= .arr 5 (.arr 5 (.int .u8))
abbrev tyGr:Ty:= .st (.pair (.int .u8) (.pair (.int .u8) (.pair tyTo .unit)))
abbrev tyPln:Ty:= .st (.pair (.arr 5 (.int .u8)) (.pair (.int .u8) (.pair (.arr 3 (.int .u8)) (.pair (.arr 3 tyGr) (.pair (.int .u8) (.pair (.arr 2 (.int .u8)) (.pair (.arr 2 tyGr)
 (.pair (.sl (.arr 4 (.int .u8))) (.pair (.arr 3 (.int .i8)) (.pair (.int .i8) .unit))))))))))
theorem Qra {d:tyPln.D} (h:tyPln.wf d):∃p:Pln,POk p/\p.xn<=9223372036854775807/\tyPln.val d=plnV p:=by
 obtain⟨a,b,c,g,e,f,k,x,y,z,u⟩:=d
 obtain⟨h1,h2,h3,h4,h5,h6,h7,h8,h9,h10,_⟩:=h
 dsimp only at h1 h2 h3 h4 h5 h6 h7 h8 h9 h10
 obtain⟨l1,a1,b1,c1⟩:=QbH (.arr 5 (.int .u8)) rfl _ h1
 obtain⟨l2,a2,b2,c2⟩:=QbH (.int .u8) rfl _ h2
 obtain⟨l3,a3,b3,c3⟩:=QbH (.arr 3 (.int .u8)) rfl _ h3
 obtain⟨l4,a4,b4,c4⟩:=QbH (.arr 3 tyGr) rfl _ h4
 obtain⟨l5,a5,b5,c5⟩:=QbH (.int .u8) rfl _ h5
 obtain⟨l6,a6,b6,c6⟩:=QbH (.arr 2 (.int .u8)) rfl _ h6
 obtain⟨l7,a7,b7,c7⟩:=QbH (.arr 2 tyGr) rfl _ h7
 obtain⟨h80,h8⟩:=h8
 obtain⟨l8,a8,b8,c8⟩:=QbH (.arr (List.length x) (.arr 4 (.int .u8))) rfl x ⟨rfl,h8⟩
 obtain⟨hy,hyw⟩:=h9
 obtain⟨y0,y1,y2,rfl⟩:∃y0 y1 y2,y=[y0,y1,y2]:=by
  match y,hy with
  |[y0,y1,y2],_=>exact⟨y0,y1,y2,rfl⟩
 have w0:=i8_wf (hyw y0 (by simp))
 have w1:=i8_wf (hyw y1 (by simp))
 have w2:=i8_wf (hyw y2 (by simp))
 have wz:=i8_wf h10
 refine⟨⟨l1++l2++l3++l4++l5++l6++l7,l8,List.length x,y0,y1,y2,z⟩,⟨?_,?_,a8,b8,w0,w1,w2,wz⟩,h80,?_⟩
 ·simp only[List.length_append,a1,a2,a3,a4,a5,a6,a7];rfl
 ·intro v hv
  simp only[List.mem_append]at hv
  rcases hv with(((((hv|hv)|hv)|hv)|hv)|hv)|hv
  ·exact b1 v hv
  ·exact b2 v hv
  ·exact b3 v hv
  ·exact b4 v hv
  ·exact b5 v hv
  ·exact b6 v hv
  ·exact b7 v hv
 ·show AV.agg (tyPln.cells _) = _
  congr 1
  show(Ty.arr 5 (.int .u8)).cells a++((Ty.int .u8).cells b++((Ty.arr 3 (.int .u8)).cells c++((Ty.arr 3 tyGr).cells g++((Ty.int .u8).cells e++((Ty.arr 2 (.int .u8)).cells f++((Ty.arr 2 tyGr).cells k++
   ([.fsl ((Ty.arr (List.length x) (.arr 4 (.int .u8))).cells x) (List.length x) 4]++((Ty.arr 3 (.int .i8)).cells [y0,y1,y2]++((Ty.int .i8).cells z++[])))))))))=_
  rw[c1,c2,c3,c4,c5,c6,c7,c8]
  simp only[plnC,QeN,List.append_assoc]
  rfl
end Go.AM.SO
namespace Go.AM.SO
open Go.Proofs Go.AM.SD Go.AM.SE
end Go.AM.SO
namespace Go.AM.SK
open Go.Proofs
noncomputable section
def isT:AV->Bool| .bool true=>true|_=>false
theorem Qrb:∀u,isT u=true->u= .bool true:=by
 intro u h
 unfold isT at h
 split at h
 ·rfl
 ·cases h
theorem known15:PSpec Tryz.prog 15 [] (.bool true):=
 Qbx (t:=ft) ft_ok QcS (d:=100000) isT Qrb (by kernel_rfl)
end
end Go.AM.SK
namespace Go.AM.SO
open Go.Proofs Go.AM.SD Go.AM.SE
theorem short25 (p:Pln) (h:POk p) (hx:p.xn<=9223372036854775807):PSpec Tryz.prog 25 [plnV p] (.bool (decide (p.xn<=4))):=by
 refine PSpec.Qan 64 ok25 rfl (by simp only[noRefs,noRef,SU.Qdf];rfl) rfl ?_
 have hlen:=SU.QhQ h
 have hone:=SU.QhR h
 have a147:(plnC p)[147]?=some (.fsl (u8s p.X) p.xn 4):=SU.Qei h (k:=0)
 show wS _ _ _ _ _ (argT 0 [.agg (plnC p)]) _ _
 generalize plnC p=C at*
 have e:decide ((p.xn:Int)<=4)=decide (p.xn<=4):=decide_eq_decide.2 (by omega)
 simp(disch:=first|omega|(simp only[lenW]<;>omega)) only[s25,hlen,hone,a147,e,wW,wV,simprocAttr]
 exact⟨.inr trivial,_,rfl,rfl⟩
end Go.AM.SO
namespace Go.AM.SO
open Go.Proofs Go.AM.SD Go.AM.SE
theorem QkH {l:List Aut} {ev:List Nat}:∀{k i:Nat} {s:List (List Nat)×List Ed},(pQ l ev k i s).2.length<=s.2.length+k*ev.length
 |0,_,s=>by simp[pQ]
 | k + 1, i, s => by
  unfold pQ
  cases s.1[i]? with
  |none=>dsimp only;omega
  |some t=>
   have h1:=QkH (l:=l) (ev:=ev) (k:=k) (i:=i+1) (s:=pRow l ev i t s)
   have h2:=QdS (l:=l) (i:=i) (t:=t) (ev:=ev) (s:=s)
   have h3:(k+1)*ev.length=k*ev.length+ev.length:=Nat.succ_mul ..
   dsimp only
   omega
theorem QiP (x:Aut):autB x x=true:=by simp[autB]
theorem QgO {l:List Aut} (h:∀a∈l,WfI a) (hl:l.length<=5):AOk (syncA l)/\(sync0 l).1.length<=243/\∀t∈(sync0 l).1,t.length<=5:=by
 have hw:∀a∈l,∀e∈a.es,e.1<a.n/\e.2.2<a.n:=fun a ha=>(h a ha).wf.esn
 have hpos:∀a∈l,0<a.n:=fun a ha=>(h a ha).pos
 have hbox:box l<=243:=Nat.le_trans (Qky (fun a ha=>(h a ha).n3) (by omega)) (Nat.pow_le_pow_right (n:=3) (by omega) hl)
 have hs:=Qo3 hpos hw
 have h5:=QfI h
 have he:(sync0 l).2.length<=244*5:=by
  refine Nat.le_trans QkH ?_
  have:=Nat.mul_le_mul (show box l+1<=244 by omega) h5
  simpa using this
 refine⟨⟨by show(evA l).length<=_;omega,?_,by show(sync0 l).2.length<=_;omega⟩,by omega,fun t ht=>?_⟩
 ·have := @QiX l (sync0 l).1 (sync0 l).1.length
  show(marks l (sync0 l).1 (sync0 l).1.length).length<=_
  omega
 ·have := ((Qeh hpos hw).inT t ht).1
  omega
end Go.AM.SO
namespace Go.AM.SO
open Go.Proofs Go.AM.SD Go.AM.SE
theorem Qqa:allK 72 1 []=true:=by kernel_rfl
theorem Qqb:allK 72 2 []=true:=by kernel_rfl
theorem Qqc:allK 72 3 []=true:=by kernel_rfl
theorem key72 {c:Cel} (h:WfCel c) {t:List Nat} (ht:InT (auL c.cs) t):PSpec Tryz.prog 72 [sliN t] (.str (keyT t)):=by
 have h0:=h.c0
 have h3:=h.c3
 have hl:=ht.1
 rw[QaU]at hl
 refine Qhv (Qek (u:=[]) ?_ fun x hx=>ht.lt (Qa2 h) hx)
 obtain e|e|e:t.length=1\/t.length=2\/t.length=3:=by omega
 ·rw[e];exact Qqa
 ·rw[e];exact Qqb
 ·rw[e];exact Qqc
def allA (c:Cel):List Aut:=auL c.cs++auL c.rs
theorem Qce {c:Cel} (h:WfCel c):∀a∈allA c,WfI a:=fun a ha=>by
 unfold allA at ha
 rcases List.mem_append.1 ha with ha|ha
 ·exact Qa2 h a ha
 ·obtain ⟨x, hx, rfl⟩ := List.mem_map.1 ha
  exact h.ra x hx
theorem Qb6 {c:Cel}:(allA c).length=c.cs.length+c.rs.length:=by simp[allA]
theorem Qpf:allK 98 3 [0]=true:=by kernel_rfl
theorem Qpg:allK 98 3 [1]=true:=by kernel_rfl
theorem Qph:allK 98 3 [2]=true:=by kernel_rfl
theorem Qok:allK 98 3 [0,0]=true:=by kernel_rfl
theorem Qol:allK 98 3 [0,1]=true:=by kernel_rfl
theorem Qom:allK 98 3 [0,2]=true:=by kernel_rfl
theorem Qon:allK 98 3 [1,0]=true:=by kernel_rfl
theorem Qoo:allK 98 3 [1,1]=true:=by kernel_rfl
theorem Qop:allK 98 3 [1,2]=true:=by kernel_rfl
theorem Qoq:allK 98 3 [2,0]=true:=by kernel_rfl
theorem Qor:allK 98 3 [2,1]=true:=by kernel_rfl
theorem Qos:allK 98 3 [2,2]=true:=by kernel_rfl
theorem key98w4 {a:Nat} (h:a<3):allK 98 3 [a]=true:=by
 obtain rfl|rfl|rfl:a=0\/a=1\/a=2:=by omega
 ·exact Qpf
 ·exact Qpg
 ·exact Qph
theorem key98w5 {a b:Nat} (h:a<3) (hb:b<3):allK 98 3 [a,b]=true:=by
  obtain rfl|rfl|rfl:a=0\/a=1\/a=2:=by omega
  · obtain rfl | rfl | rfl : b = 0 \/ b = 1 \/ b = 2 := by omega
    · exact Qok
    · exact Qol
    · exact Qom
  · obtain rfl | rfl | rfl : b = 0 \/ b = 1 \/ b = 2 := by omega
    · exact Qon
    · exact Qoo
    · exact Qop
  · obtain rfl | rfl | rfl : b = 0 \/ b = 1 \/ b = 2 := by omega
    · exact Qoq
    · exact Qor
    · exact Qos
theorem Qqd {c:Cel} (h:WfCel c) (t:List Nat) (ht:InT (allA c) t):PSpec Tryz.prog 98 [sliN t] (.str (keyT t)):=by
 have h0:=h.c0
 have h3:=h.c3
 have h2:=h.r2
 have hl:=ht.1
 have hx:∀x∈t,x<3:=fun x hx=>ht.lt (Qce h) hx
 rw[Qb6]at hl
 by_cases h4:t.length<=3
 ·exact key98 (by omega) h4 hx
 ·match t, hl, hx, h4 with
  |[_,_,_],_,_,h4=>exact absurd (by simp) h4
  |[a,b,d,e],hl,hx,_=>exact Qhv (Qek (t:=[b,d,e]) (u:=[a]) (key98w4 (hx a (by simp))) fun x h=>hx x (by simp at h⊢;omega))
  |[a,b,d,e,f],hl,hx,_=>exact Qhv (Qek (t:=[d,e,f]) (u:=[a,b]) (key98w5 (hx a (by simp)) (hx b (by simp))) fun x h=>hx x (by simp at h⊢;omega))
  |[],_,_,h4=>exact absurd (by simp) h4
  |[_],_,_,h4=>exact absurd (by simp) h4
  |[_,_],_,_,h4=>exact absurd (by simp) h4
  |_::_::_::_::_::_::_,hl,_,_=>simp at hl;omega
end Go.AM.SO
namespace Go.AM.SO
open Go.Proofs Go.AM.SD Go.AM.SE
theorem auto69H {ch:UInt8} (l:List (Nat×Aut)) (hl:l.length<=1000):HSpec Tryz.prog 69 [its ch l] .e (.sl 60 0 0 l.length 4) (hp [(60,.cells 0 ((auL l).flatMap auC))]):=by
  refine HSpec.Qfh 100 TP.ok69 rfl ?_
  have hni:=@SU.Qas ch l
  simp(disch:=first|omega|exact PairsOK.mk rfl|(simp only[lenW]<;>omega)) only[TP.s69,Qaa,Qad,Qae,wW,wV,simprocAttr]
  refine Qap 100 (fun i:Nat=>[(3,.sl 60 0 0 i 4),(6,its ch l),(7,.int .i64 l.length),(8,.int .i64 i)]) (fun i=>[(60,.cells 0 ((auL (l.take i)).flatMap auC))]) (fun i=>i<=l.length) (fun i=>l.length-i) 0 0 160 (fun _:Unit=>[(3,.sl 60 0 0 l.length 4)]) (fun _=>[(60,.cells 0 ((auL l).flatMap auC))]) (fun _=>True) ?_ (Nat.zero_le _) ?_ ?_
  · refine ⟨[(60, .nil)], rfl, au0, ?_, au21⟩
    exact RB.newnil rfl rfl RB.nil
  · rintro i hi
    by_cases hlt:i<l.length
    · obtain ⟨x, hx⟩ := Qai hlt
      have hdr:=SU.Qcx (ch:=ch) hx
      have hdl:5<=((l.flatMap (itC ch)).drop (i*5)).length:=by rw[hdr];simp
      have htl:(auL (l.take i)).length=i:=by rw[QaU,List.length_take];omega
      have htm:((auL (l.take i)).flatMap auC).length=i*4:=by rw[Qfx,htl]
      simp(disch:=first|omega|exact PairsOK.mk rfl|(simp only[lenW]<;>omega)) only[hlt,hdr,hdl,htm,Qab,Qak,Qaa,Qad,Qae,wW,wV,simprocAttr]
      refine⟨i+1,by omega,by omega,?_⟩
      rw[take_succ' hx]
      show Rec _ _ [(60,.cells 0 ((List.map (fun x:Nat×Aut=>x.2) (l.take i++[x])).flatMap auC))] _ _
      rw[List.map_append,List.flatMap_append,Qoh]
      refine⟨[(60,.blk 60 1)],rfl,au0,?_,au21⟩
      exact RB.cells rfl rfl gg (RnL.same (SU.Qao (QaQ _) (QaQ [x.2]))) RB.nil
    · have e : i = l.length := by omega
      subst e
      simp(disch:=first|omega|exact PairsOK.mk rfl|(simp only[lenW]<;>omega)) only[hlt,List.take_length,Qaa,Qad,Qae,wW,wV,simprocAttr]
      refine⟨(),?_⟩
      refine⟨[(60,.blk 60 0)],rfl,au0,?_,au21⟩
      exact RB.cells rfl rfl gg (RnL.same (QaQ _)) RB.nil
  rintro _ _
  simp(disch:=first|omega|exact PairsOK.mk rfl|(simp only[lenW]<;>omega)) only[Qaa,Qad,Qae,wW,wV,simprocAttr]
  refine⟨.inr trivial,_,rfl,?_⟩
  refine⟨[(60,.blk 60 0)],rfl,au0,?_,au21⟩
  exact RB.cells rfl rfl gg (RnL.same (QaQ _)) RB.nil
theorem Qpi (c:Cel) (h:WfCel c):PSpec Tryz.prog 28 [auts (allA c)] (.tup [aV (syncA (allA c)),tuV (sync0 (allA c)).1,.int .i64 0]):=by
 have h0:=h.c0
 have h3:=h.c3
 have h2:=h.r2
 exact sync28 (allA c) (Qce h) (by rw[Qb6];omega) (by rw[Qb6];omega) (Qqd h)
abbrev stG (c:Cel) (p q:Aut) (P T:List (List Nat)):List AV:=[evsV c.ev,its 99 c.cs,its 114 c.rs,exs c.xs,cos c.ks,sliN p.al,.int .i64 (p.n:Int),sliN p.ms,egsN p.es,tuV P,sliN q.al,.int .i64 (q.n:Int),sliN q.ms,egsN q.es,tuV T,sliN (szs c),exs c.xs,cos c.ks,fmapG keyC (ixV P) P]
def stC (c:Cel):List AV:=stG c (syncA (auL c.cs)) (syncA (allA c)) (sync0 (auL c.cs)).1 (sync0 (allA c)).1
abbrev stP (c:Cel) (p q:Aut) (P T:List (List Nat)):List AV:=[evsV c.ev,its 99 c.cs,its 114 c.rs,exs c.xs,cos c.ks,sliN p.al,.int .i64 (p.n:Int),sliN p.ms,egsN p.es,tuV P,sliN q.al,.int .i64 (q.n:Int),sliN q.ms,egsN q.es,tuV T,sliN (szs c),exs c.xs,cos c.ks]
theorem QeO (c:Cel) (p q:Aut) (P T:List (List Nat)):noRefs (stP c p q P T)=true:=by
 have h1:=SU.Qbk c
 rw[celV,noRef]at h1
 simp only[noRefs,Bool.and_eq_true,Bool.and_true]at h1
 obtain⟨a1,a2,a3,a4,a5⟩:=h1
 simp only[noRefs,a1,a2,a3,a4,a5,Qab,Qak,Qbu]
 rfl
theorem Qd0 (c:Cel) (p q:Aut) (P T:List (List Nat)):noRefs (stG c p q P T)=true:=by
 have h1:=SU.Qbk c
 rw[celV,noRef]at h1
 simp only[noRefs,Bool.and_eq_true,Bool.and_true]at h1
 obtain⟨a1,a2,a3,a4,a5⟩:=h1
 simp only[noRefs,a1,a2,a3,a4,a5,Qab,Qak,Qbu]
 rw[show noRef (fmapG keyC (ixV P) P)=true by rw[fmapG,noRef,Qaj (fun _=>rfl),Qaj (fun _=>rfl)];rfl]
 rfl
theorem open70 (c : Cel) (h : WfCel c) : PSpec Tryz.prog 70 [celV c] (.tup [.fptr (stC c), .int .i64 0]) := by
  have hnr:=Qcg c
  have hns:noRef (.tup [.fptr (stC c),.int .i64 0])=true:=by rw[noRef,noRefs,noRef,stC,Qd0];rfl
  refine PSpec.of_rn 64 TR.ok70 rfl (by rw[noRefs,SU.Qbk];rfl) hns ?_
  have h3:=h.c3
  have h2:=h.r2
  have hP:=plant17 c h
  have hA:=auto69H (ch:=99) c.cs (by omega)
  have hB:=automata69 (ch:=114) c.rs (by omega)
  have hS:=Qpi c h
  have hD:=conds85 c h
  have hPi:=Qeh (fun a ha=>(Qa2 h a ha).pos) fun a ha=>(Qa2 h a ha).wf.esn
  have hok:=QgO (Qa2 h) (by rw[QaU];omega)
  have hnT:=Qbu (sync0 (auL c.cs)).1
  have hl1:((auL c.cs).flatMap auC).length=c.cs.length*4:=by rw[Qfx,QaU]
  have hl2:((auL c.rs).flatMap auC).length=c.rs.length*4:=by rw[Qfx,QaU]
  have hrl:(auL c.rs).length=c.rs.length:=QaU
  have hone:((auL c.rs).flatMap auC).all AV.one=true:=QeL (fun _=>rfl) _
  have hS':PSpec Tryz.prog 28 [.fsl ((auL c.cs).flatMap auC++(auL c.rs).flatMap auC) (c.cs.length+c.rs.length) 4] (.tup [aV (syncA (allA c)),tuV (sync0 (allA c)).1,.int .i64 0]):=by
    rw[<-List.flatMap_append,<-Qb6];exact hS
  clear hS
  rw[stC]
  generalize syncA (auL c.cs)=p at*
  generalize syncA (allA c)=q at*
  generalize (sync0 (auL c.cs))=sP at*
  generalize (sync0 (allA c)).1=T at*
  obtain⟨P,es⟩:=sP
  dsimp only at*
  simp(disch:=first|omega|exact PairsOK.mk rfl|(simp only[lenW]<;>omega)) only[TR.s70,Qaa,Qad,Qae,wW,wV,simprocAttr]
  refine cp hP ?_
  simp(disch:=first|omega|exact PairsOK.mk rfl|(simp only[lenW]<;>omega)) only[Qaa,Qad,Qae,wW,wV,simprocAttr]
  refine QmM [] 4 (x:= .f 69) (ag:=[.t 30]) (d:=some 31) rfl rfl rfl ?_
  simp(disch:=first|omega|exact PairsOK.mk rfl|(simp only[lenW]<;>omega)) only[Qaa,Qad,Qae,wW,wV,simprocAttr]
  refine⟨69,(auL c.cs).flatMap auC,c.cs.length,4,rfl,⟨hA.1,by show noRefs [its 99 c.cs]=true;rw[noRefs,SU.Qas];rfl,60,0,0,_,_,rfl,Nat.zero_le _,gg,hA⟩,QaQ _,by decide,gg,?_⟩
  simp(disch:=first|omega|exact PairsOK.mk rfl|(simp only[lenW]<;>omega)) only[Qaa,Qad,Qae,wW,wV,simprocAttr]
  refine ch (PSpec.toH hB _) ?_
  simp(disch:=first|omega|exact PairsOK.mk rfl|(simp only[lenW]<;>omega)) only[hl1,hl2,hrl,hone,Qaa,Qad,Qae,wW,wV,simprocAttr]
  refine ch (HSpec.give1 (g:=1) hS' gg (SU.Qao (QaQ _) (QaQ _)) (by rw[List.length_append,hl1,hl2];omega) rfl) ?_
  simp(disch:=first|omega|exact PairsOK.mk rfl|(simp only[lenW]<;>omega)) only[Qaa,Qad,Qae,wW,wV,simprocAttr]
  refine⟨trivial,?_⟩
  refine cp hD ?_
  simp(disch:=first|omega|exact PairsOK.mk rfl|(simp only[lenW]<;>omega)) only[Qaa,Qad,Qae,wW,wV,simprocAttr]
  refine Qap 200 (fun i:Nat=>[(4,.ptr 52 0 0),(59,tuV P),(60,.int .i64 P.length),(61,.int .i64 i)]) (fun i=>[(52,.cells 0 [evsV c.ev,its 99 c.cs,its 114 c.rs,exs c.xs,cos c.ks,sliN p.al,.int .i64 (p.n:Int),sliN p.ms,egsN p.es,tuV P,sliN q.al,.int .i64 (q.n:Int),sliN q.ms,egsN q.es,tuV T,sliN (szs c),exs c.xs,cos c.ks,.map 53 0]),(53,.map 0 (mapG keyC (ixV P) (P.take i)))]) (fun i=>i<=P.length) (fun i=>P.length-i) 0 0 260 (fun _:Unit=>[(4,.ptr 52 0 0)]) (fun _=>[(52,.cells 0 [evsV c.ev,its 99 c.cs,its 114 c.rs,exs c.xs,cos c.ks,sliN p.al,.int .i64 (p.n:Int),sliN p.ms,egsN p.es,tuV P,sliN q.al,.int .i64 (q.n:Int),sliN q.ms,egsN q.es,tuV T,sliN (szs c),exs c.xs,cos c.ks,fmapG keyC (ixV P) P])]) (fun _=>True) ?_ (Nat.zero_le _) ?_ ?_
  · refine ⟨[(52, .blk 69 0), (53, .blk 116 0)], rfl, RO.set rfl (RO.set rfl RO.zero), ?_, RT.cons (Rn.x2 rfl rfl) (RT.cons (Rn.same hnT) au21)⟩
    exact RB.cells rfl rfl gg (RnL.append (xs:=stP c p q P T) (ys:=stP c p q P T) (RnL.same (QeO c p q P T)) (RnL.one (Rn.x3 rfl rfl))) (RB.map rfl rfl gg (RnM.mapG fun _ _=>⟨rfl,rfl⟩) RB.nil)
  · rintro i hi
    by_cases hlt:i<P.length
    · obtain ⟨t, ht⟩ := Qai hlt
      have hti:=hPi.inT t (List.mem_of_getElem? ht)
      have hk:=key72 h hti
      have hnew:t∉P.take i:=fun hm=>by
        have h2:ixT (P.take i) t=i:=(QfJ (List.take_prefix i P) hm).trans (Qog hPi.nd ht)
        have h4:=Qhw hm
        rw[h2,List.length_take]at h4
        omega
      have hup:updG (ixV P) t (.int .i64 ((i:Nat):Int))=ixV P:=by
        funext x
        unfold updG
        split
        · rename_i e;subst e;unfold ixV;rw[Qog hPi.nd ht]
        · rfl
      simp(disch:=first|omega|exact PairsOK.mk rfl|(simp only[lenW]<;>omega)) only[hlt,Qmd ht,Qaa,Qad,Qae,wW,wV,simprocAttr]
      refine cp hk ?_
      simp(disch:=first|omega|exact PairsOK.mk rfl|(simp only[lenW]<;>omega)) only[Qaa,Qad,Qae,wW,wV,simprocAttr]
      refine Qb2 (c:=keyC) (f:=ixV P) (x:=t) (l:=P.take i) (g:=0) gg (Qfy (Qa2 h) hti fun x hx=>hPi.inT x (List.mem_of_mem_take hx)) hnew (by omega) ?_
      rw[hup]
      simp(disch:=first|omega|exact PairsOK.mk rfl|(simp only[lenW]<;>omega)) only[Qaa,Qad,Qae,wW,wV,simprocAttr]
      refine⟨i+1,by omega,by omega,?_⟩
      rw[take_succ' ht]
      refine⟨[(52,.blk 52 0),(53,.blk 53 0)],rfl,RO.zero,?_,RT.cons (Rn.x2 rfl rfl) (RT.cons (Rn.same hnT) au21)⟩
      exact RB.cells rfl rfl gg (RnL.append (xs:=stP c p q P T) (ys:=stP c p q P T) (RnL.same (QeO c p q P T)) (RnL.one (Rn.x3 rfl rfl))) (RB.map rfl rfl gg (RnM.mapG fun _ _=>⟨rfl,rfl⟩) RB.nil)
    · have e : i = P.length := by omega
      subst e
      simp(disch:=first|omega|exact PairsOK.mk rfl|(simp only[lenW]<;>omega)) only[hlt,List.take_length,Qaa,Qad,Qae,wW,wV,simprocAttr]
      refine⟨(),[(52,.blk 52 0)],rfl,RO.zero,?_,RT.cons (Rn.x2 rfl rfl) RT.nil⟩
      exact RB.cells rfl rfl gg (RnL.append (xs:=stP c p q P T) (ys:=stP c p q P T) (RnL.same (QeO c p q P T)) (RnL.one (Rn.fzM (b:=53) (g:=0) gg rfl rfl fun _ _=>⟨rfl,rfl⟩))) RB.nil
  rintro _ _
  simp(disch:=first|omega|exact PairsOK.mk rfl|(simp only[lenW]<;>omega)) only[Qaa,Qad,Qae,wW,wV,simprocAttr]
  refine⟨.inr trivial,_,rfl,?_⟩
  refine Rn.tup (RnL.cons ?_ (RnL.same rfl))
  exact Rn.frzp (b:=52) (g:=0) rfl (Nat.zero_le _) (fun b' g' _ e=>by simp[π0]at e) (by simp) (RnL.same (Qd0 c p q P T))
end Go.AM.SO
namespace Go.AM.SO
open Go.Proofs Go.AM.SD Go.AM.SE
structure WfB (a:Aut):Prop where
 al:a.al.Pairwise (· < ·)
 al5:∀x∈a.al,x<5
 nb:a.n<=243
 ms:a.ms.Pairwise (· < ·)
 msn:∀x∈a.ms,x<a.n
 es:a.es.Pairwise fun x y=>x.1<y.1\/(x.1=y.1/\x.2.1<y.2.1)
 esn:∀e∈a.es,e.1<a.n/\e.2.2<a.n
 ev:∀e∈a.es,e.2.1∈a.al
 el:a.es.length<=1220
theorem WfI.b {a:Aut} (h:WfI a):WfB a:=⟨h.wf.al,h.wf.al5,by have:=h.n3;omega,h.wf.ms,h.wf.msn,h.wf.es,h.wf.esn,h.wf.ev,by have:=h.el;omega⟩
theorem WfB.auOk {a:Aut} (h:WfB a):AuOk (au a):=by
 have hal:=Qbs h.al h.al5
 have hms:=Qbs h.ms h.msn
 have hel:=h.el
 have hn5:=h.nb
 refine{len:=?_,all:=?_,fr:=?_,to:=?_,ev:=?_,up:=?_,alS:=SetOk.nz (n:=32) (fun x hx=>by have:=h.al5 x hx;omega) h.al,msS:=SetOk.nz h.msn h.ms,mslen:=?_,n0:=?_,nm:=?_}
 ·show(a.es.map eg).length<=_;simp;omega
 ·show(nz a.al).length<=_;simp;omega
 ·intro e he
  obtain⟨x,hx,rfl⟩:=List.mem_map.1 he
  have:=h.esn x hx
  show(0:Int)<=x.1/\(x.1:Int)<a.n
  omega
 ·intro e he
  obtain⟨x,hx,rfl⟩:=List.mem_map.1 he
  have:=h.esn x hx
  show(0:Int)<=x.2.2/\(x.2.2:Int)<a.n
  omega
 ·intro e he
  obtain⟨x,hx,rfl⟩:=List.mem_map.1 he
  exact List.mem_map.2 ⟨x.2.1,h.ev x hx,rfl⟩
 ·show (a.es.map eg).Pairwise _
  rw[List.pairwise_map]
  refine h.es.imp fun h=>?_
  show(_:Int)<_\/(_:Int)=_/\(_:Int)<_
  simp only[eg]
  omega
 ·show(nz a.ms).length<=_;simp;omega
 ·show(0:Int)<=(a.n:Int);omega
 ·show(a.n:Int)<=4096;omega
theorem check112B (a:Aut) (h:WfB a):PSpec Tryz.prog 112 [aV a] (.int .i64 0):=by
 have:=check37 (au a) h.auOk
 rwa [QnI]at this
theorem WfB.srt {a:Aut} (h:WfB a):a.es.Pairwise fun x y=>x.1<=y.1:=h.es.imp fun h=>by omega
theorem Qds {l:List Aut} {ev:List Nat} {T:List (List Nat)} {j:Nat} {t:List Nat} {x:Ed} (h:x∈rowE l ev T j t):x.1=j/\x.2.1∈ev/\∃n,stepT l t x.2.1=some n/\x.2.2=ixT T n:=by
 unfold rowE at h
 obtain⟨e,he,h2⟩:=List.mem_filterMap.1 h
 cases hs:stepT l t e with
 |none=>rw[hs]at h2;cases h2
 |some n=>
  rw[hs]at h2
  simp only[Option.map_some,Option.some.injEq]at h2
  subst h2
  exact⟨rfl,he,n,hs,rfl⟩
theorem Qgj {l:List Aut} {T:List (List Nat)} {j:Nat} {t:List Nat}:∀{ev:List Nat},ev.Pairwise (· < ·)->(rowE l ev T j t).Pairwise fun x y=>x.1<y.1\/(x.1=y.1/\x.2.1<y.2.1)
 |[],_=>by simp[rowE]
 | e :: ev, h => by
  rw[List.pairwise_cons]at h
  have ih:=Qgj (l:=l) (T:=T) (j:=j) (t:=t) h.2
  unfold rowE at ih⊢
  rw[List.filterMap_cons]
  cases hs:stepT l t e with
  |none=>exact ih
  |some n=>
   simp only[Option.map_some]
   rw[List.pairwise_cons]
   refine⟨fun y hy=>?_,ih⟩
   obtain⟨h1,h2,_⟩:=Qds (l:=l) (T:=T) (j:=j) (t:=t) (ev:=ev) (by unfold rowE;exact hy)
   exact .inr ⟨h1.symm,h.1 _ h2⟩
theorem Qgk {f:Nat->List Ed} (hf:∀j,(f j).Pairwise (fun x y=>x.1<y.1\/(x.1=y.1/\x.2.1<y.2.1))/\∀x∈f j,x.1=j):∀i,((List.range i).flatMap f).Pairwise fun x y=>x.1<y.1\/(x.1=y.1/\x.2.1<y.2.1)
 |0=>by simp
 |i+1=>by
  rw[List.range_succ,List.flatMap_append,List.flatMap_cons,List.flatMap_nil,List.append_nil,List.pairwise_append]
  refine⟨Qgk hf i,(hf i).1,fun x hx y hy=>?_⟩
  obtain⟨j,hj,hx⟩:=List.mem_flatMap.1 hx
  have:=List.mem_range.1 hj
  rw[(hf j).2 x hx,(hf i).2 y hy]
  exact .inl this
theorem QdU {l:List Aut} (h:∀a∈l,WfI a) (hl:l.length<=5):WfB (syncA l):=by
  have hw:∀a∈l,∀e∈a.es,e.1<a.n/\e.2.2<a.n:=fun a ha=>(h a ha).wf.esn
  have hpos:∀a∈l,0<a.n:=fun a ha=>(h a ha).pos
  have hs:=QdZ hpos hw
  obtain⟨ho,h243,_⟩:=QgO h hl
  have hin:∀e∈(sync0 l).2,e.2.1∈evA l/\e.1<(sync0 l).1.length/\e.2.2<(sync0 l).1.length:=fun e he=>by
    rw[hs.ed]at he
    obtain⟨j,hj,he⟩:=List.mem_flatMap.1 he
    have hj:=List.mem_range.1 hj
    obtain⟨h1,h2,n,h3,h4⟩:=Qds he
    obtain⟨t,ht⟩:=Qai hj
    rw[List.getD_eq_getElem?_getD,ht]at h3
    have hm:=hs.cl j t hj ht _ h2 n h3
    exact⟨h2,by omega,by rw[h4];exact Qhw hm⟩
  refine⟨Qhs h,fun x hx=>?_,h243,?_,fun x hx=>?_,?_,fun e he=>⟨(hin e he).2.1,(hin e he).2.2⟩,fun e he=>(hin e he).1,?_⟩
  · have hx' : x ∈ uUp (l.map fun a => (0, a)) := by rw [<- QfH]; exact hx
    rw[QfF fun y hy=>by obtain⟨a,ha,rfl⟩:=List.mem_map.1 hy;exact h a ha]at hx'
    obtain⟨y,hy,hxy⟩:=hx'
    obtain⟨a,ha,rfl⟩:=List.mem_map.1 hy
    exact(h a ha).wf.al5 x hxy
  · exact List.pairwise_lt_range.filter _
  · exact List.mem_range.1 (List.mem_filter.1 hx).1
  · show (sync0 l).2.Pairwise _
    rw[hs.ed]
    exact Qgk (fun j=>⟨Qgj (Qhs h),fun x hx=>(Qds hx).1⟩) _
  · have hbox : box l <= 243 := Nat.le_trans (Qky (fun a ha => (h a ha).n3) (by omega)) (Nat.pow_le_pow_right (n := 3) (by omega) hl)
    have h5:=QfI h
    refine Nat.le_trans (QkH (l:=l) (ev:=evA l)) ?_
    have:=Nat.mul_le_mul (show box l+1<=244 by omega) h5
    simpa using this
theorem out199 (a:Aut) (v:Nat) (h:WfB a) (hv:v<=1000):PSpec Tryz.prog 199 [aV a,.int .i64 (v:Int)] (egsN (sOut a.es (fun _=>true) v)):=by
 have hel:=h.el
 have hs:(froms a.es).Pairwise (· <= ·):=by rw[List.pairwise_map];exact h.srt
 have hb:∀e∈a.es,e.1<=1000000:=fun e he=>by have:=(h.esn e he).1;have:=h.nb;omega
 have f1:=find67 a.es v hs hb (by omega) (by omega)
 have f2:=find67b a.es (v+1) hs hb (by omega) (by omega)
 have e1:((v+1:Nat):Int)=(v:Int)+1:=by omega
 rw[e1]at f2
 have ho:=Qkp h.srt v
 have l1:=lb_le (l:=froms a.es) (t:=v+1)
 rw[List.length_map]at l1
 have hm:lbN (froms a.es) v<=lbN (froms a.es) (v+1):=List.countP_mono_left fun x _ hx=>by simp at hx⊢;omega
 generalize (froms a.es).contains v=b1 at*
 generalize (froms a.es).contains (v+1)=b2 at*
 generalize lbN (froms a.es) v=p at*
 generalize lbN (froms a.es) (v+1)=q at*
 have hlen:q-p=(sOut a.es (fun _=>true) v).length:=by rw[<-ho,List.length_take,List.length_drop];omega
 have hpq:(p:Int)<=(q:Int):=by omega
 have hql:(q:Int)<=(a.es.length:Int):=by omega
 refine PSpec.of_rn 64 ok199 rfl (by(try simp only[noRefs,Qac,Qal,Qaf,noRef,noRefs,Bool.and_self,Bool.and_true])<;>rfl) (Qak _) ?_
 simp(disch:=first|omega|exact PairsOK.mk rfl|(simp only[lenW]<;>omega)) only[s199,Qaa,Qad,Qae,wW,wV,simprocAttr]
 refine cp f1 ?_
 simp(disch:=first|omega|exact PairsOK.mk rfl|(simp only[lenW]<;>omega)) only[Qaa,Qad,Qae,wW,wV,simprocAttr]
 refine cp f2 ?_
 simp(disch:=first|omega|exact PairsOK.mk rfl|(simp only[lenW]<;>omega)) only[hpq,hql,Qaa,Qad,Qae,wW,wV,simprocAttr]
 refine⟨.inr trivial,_,rfl,?_⟩
 rw[Qfq,Qfr,ho,hlen]
 exact Rn.same (Qak _)
end Go.AM.SO
namespace Go.AM.SO
open Go.Proofs Go.AM.SD Go.AM.SE
theorem state207 (a:Aut) (v:Nat) (h:WfB a) (hv:v<a.n):PSpec Tryz.prog 207 [aV a,.int .i64 (v:Int)] (.int .i64 0):=by
 refine PSpec.Qan 64 TQ.ok207 rfl (by(try simp only[noRefs,Qac,Qal,Qaf,noRef,noRefs,Bool.and_self,Bool.and_true])<;>rfl) rfl ?_
 have hc:=check112B a h
 have g1:¬(v:Int)<0:=by omega
 have g2:¬(a.n:Int)<=(v:Int):=by omega
 simp(disch:=first|omega|exact PairsOK.mk rfl|(simp only[lenW]<;>omega)) only[TQ.s207,Qaa,Qad,Qae,wW,wV,simprocAttr]
 refine cp hc ?_
 simp(disch:=first|omega|exact PairsOK.mk rfl|(simp only[lenW]<;>omega)) only[g1,g2,Qaa,Qad,Qae,wW,wV,simprocAttr]
 exact⟨.inr trivial,_,rfl,rfl⟩
def evO (a:Aut) (v:Nat):List Nat:=(sOut a.es (fun _=>true) v).map (·.2.1)
theorem enabled161 (a:Aut) (v:Nat) (h:WfB a) (hv:v<a.n):PSpec Tryz.prog 161 [aV a,.int .i64 (v:Int)] (.tup [sliN (evO a v),.int .i64 0]):=by
  have hn:=h.nb
  have hno:noRef (.tup [sliN (evO a v),.int .i64 0])=true:=by rw[noRef,noRefs,Qab];rfl
  refine PSpec.of_rn 64 TQ.ok161 rfl (by(try simp only[noRefs,Qac,Qal,Qaf,noRef,noRefs,Bool.and_self,Bool.and_true])<;>rfl) hno ?_
  have hc:=state207 a v h hv
  have ho:=out199 a v h (by omega)
  have hol:(sOut a.es (fun _=>true) v).length<=1220:=Nat.le_trans (List.length_filter_le ..) h.el
  unfold evO at hno⊢
  generalize sOut a.es (fun _=>true) v=o at*
  simp(disch:=first|omega|exact PairsOK.mk rfl|(simp only[lenW]<;>omega)) only[TQ.s161,Qaa,Qad,Qae,wW,wV,simprocAttr]
  refine cp hc ?_
  simp(disch:=first|omega|exact PairsOK.mk rfl|(simp only[lenW]<;>omega)) only[Qaa,Qad,Qae,wW,wV,simprocAttr]
  refine cp ho ?_
  simp(disch:=first|omega|exact PairsOK.mk rfl|(simp only[lenW]<;>omega)) only[Qaa,Qad,Qae,wW,wV,simprocAttr]
  refine Qap 120 (fun i:Nat=>[(7,.sl 60 0 0 i 1),(18,egsN o),(19,.int .i64 o.length),(20,.int .i64 i)]) (fun i=>[(60,.cells 0 (ints (nz ((o.take i).map (·.2.1)))))]) (fun i=>i<=o.length) (fun i=>o.length-i) 0 0 180 (fun _:Unit=>[(7,sliN (o.map (·.2.1)))]) (fun _=>[]) (fun _=>True) ?_ (Nat.zero_le _) ?_ ?_
  · refine ⟨[(60, .nil)], rfl, au0, ?_, au21⟩
    exact RB.newnil rfl rfl RB.nil
  · rintro i hi
    by_cases hlt:i<o.length
    · obtain ⟨e, he⟩ := Qai hlt
      have hdr:=QaR he
      have hdl:3<=((o.flatMap edC).drop (i*3)).length:=by rw[hdr];simp
      have htl:(ints (nz ((o.take i).map (·.2.1)))).length=i:=by simp[ints];omega
      simp(disch:=first|omega|exact PairsOK.mk rfl|(simp only[lenW]<;>omega)) only[hlt,hdr,hdl,htl,Qaa,Qad,Qae,wW,wV,simprocAttr]
      refine⟨i+1,by omega,by omega,?_⟩
      rw[take_succ' he,List.map_append,QaF,QaA]
      refine⟨[(60,.blk 60 1)],rfl,au0,?_,au21⟩
      exact RB.cells rfl rfl gg (RnL.same (SU.Qao (Qac _) rfl)) RB.nil
    · have e : i = o.length := by omega
      subst e
      simp(disch:=first|omega|exact PairsOK.mk rfl|(simp only[lenW]<;>omega)) only[hlt,List.take_length,Qaa,Qad,Qae,wW,wV,simprocAttr]
      exact⟨(),[],rfl,RO.zero,RB.nil,RT.cons (Rn.fzm (b:=60) (g:=0) gg rfl rfl (by simp) (by simp[ints]) (RnL.same (Qac _))) RT.nil⟩
  rintro _ _
  simp(disch:=first|omega|exact PairsOK.mk rfl|(simp only[lenW]<;>omega)) only[Qaa,Qad,Qae,wW,wV,simprocAttr]
  exact⟨.inr trivial,_,rfl,Rn.same hno⟩
theorem ev262 (x:Ed) (e:Nat):PSpec Tryz.prog 262 [.agg [.int .i64 (x.1:Int),.int .i64 (x.2.1:Int),.int .i64 (x.2.2:Int)],.fptr [.int .i64 (e:Int)]] (.bool (decide (x.2.1=e))):=by
 refine PSpec.Qan 64 TQ.ok262 rfl rfl rfl ?_
 have hd:decide ((x.2.1:Int)=(e:Int))=decide (x.2.1=e):=decide_eq_decide.2 (by omega)
 simp(disch:=first|omega|exact PairsOK.mk rfl|(simp only[lenW]<;>omega)) only[TQ.s262,hd,Qaa,Qad,Qae,wW,wV,simprocAttr]
 exact⟨.inr trivial,_,rfl,rfl⟩
theorem QkI {α:Type} {q:α->Bool}:∀l:List α,l.find? q=l[l.findIdx q]?
 |[]=>rfl
 |x::l=>by
  rw[List.find?_cons,List.findIdx_cons]
  cases q x with
  |true=>rfl
  |false=>simpa using QkI l
def nxI (a:Aut) (v e:Nat):Int:=match stepA a.es v e with|some t=>(t:Int)|none=> -1
theorem Qi3 (es:List Ed) (v e:Nat):stepA es v e=((sOut es (fun _=>true) v).find? fun x=>decide (x.2.1=e)).map (·.2.2):=by
 unfold stepA sOut
 rw[List.find?_filter]
 congr 2
 funext x
 by_cases h:x.2.1=e<;>by_cases h2:x.1=v<;>simp[h,h2]
theorem next226 (a:Aut) (v e:Nat) (h:WfB a) (hv:v<a.n):PSpec Tryz.prog 226 [aV a,.int .i64 (v:Int),.int .i64 (e:Int)] (.int .i64 (nxI a v e)):=by
  have hn:=h.nb
  refine PSpec.Qan 64 TQ.ok226 rfl (by(try simp only[noRefs,Qac,Qal,Qaf,noRef,noRefs,Bool.and_self,Bool.and_true])<;>rfl) rfl ?_
  have ho:=out199 a v h (by omega)
  have hol:(sOut a.es (fun _=>true) v).length<=1220:=Nat.le_trans (List.length_filter_le ..) h.el
  have hI:=index48 (K:=262) (cap:=[.fptr [.int .i64 (e:Int)]]) (fun x=>decide (x.2.1=e)) (sOut a.es (fun _=>true) v) (by omega) rfl fun x _=>ev262 x e
  unfold nxI
  rw[Qi3]
  generalize sOut a.es (fun _=>true) v=o at*
  rw[QkI]
  have hq:=@QgN _ (fun x:Ed=>decide (x.2.1=e)) o
  have hx:idxQ (fun x:Ed=>decide (x.2.1=e)) o= -1/\o[o.findIdx fun x=>decide (x.2.1=e)]?=none\/∃y,idxQ (fun x:Ed=>decide (x.2.1=e)) o=((o.findIdx fun x=>decide (x.2.1=e):Nat):Int)/\o[o.findIdx fun x=>decide (x.2.1=e)]?=some y:=by
    unfold idxQ
    by_cases ha:o.any (fun x=>decide (x.2.1=e))=true
    · rw [if_pos ha]
      obtain⟨y,hy⟩:=Qai (List.findIdx_lt_length_of_exists (p:=fun x:Ed=>decide (x.2.1=e)) (xs:=o) (by simpa using ha))
      exact .inr ⟨y,rfl,hy⟩
    · rw [if_neg ha]
      refine .inl ⟨rfl,List.getElem?_eq_none (Nat.le_of_not_lt fun hlt=>ha ?_)⟩
      rw[List.any_eq_true]
      exact⟨_,List.getElem_mem hlt,List.findIdx_getElem (w:=hlt)⟩
  generalize (o.findIdx fun x=>decide (x.2.1=e))=k at*
  generalize idxQ (fun x:Ed=>decide (x.2.1=e)) o=i at*
  simp(disch:=first|omega|exact PairsOK.mk rfl|(simp only[lenW]<;>omega)) only[TQ.s226,Qaa,Qad,Qae,wW,wV,simprocAttr]
  refine cp ho ?_
  simp(disch:=first|omega|exact PairsOK.mk rfl|(simp only[lenW]<;>omega)) only[Qaa,Qad,Qae,wW,wV,simprocAttr]
  refine SU.chc (HSpec.lend (FrzL.cons (FrzTo.same _) (FrzL.cons (FrzTo.fn FrzL.nil (FrzL.cons (FrzTo.ptr (g:=0) (cs:=[.int .i64 (e:Int)]) gg (FrzL.same _)) FrzL.nil)) FrzL.nil)) hI rfl) ?_
  rcases hx with⟨rfl,hk⟩|⟨y,rfl,hk⟩
  · simp (disch := first | omega | exact PairsOK.mk rfl | (simp only [lenW] <;> omega)) only [Qaa, Qad, Qae, wW, wV, simprocAttr]
    rw[hk]
    exact⟨.inr trivial,_,rfl,rfl⟩
  · have hkl : k < o.length := (List.getElem?_eq_some_iff.1 hk).1
    have g1:¬(k:Int)<0:=by omega
    have hdr:=QaR hk
    simp(disch:=first|omega|exact PairsOK.mk rfl|(simp only[lenW]<;>omega)) only[g1,hkl,hdr,Qaa,Qad,Qae,wW,wV,simprocAttr]
    rw[hk]
    exact⟨.inr trivial,_,rfl,rfl⟩
theorem step208 (a:Aut) (v e:Nat) (h:WfB a) (hv:v<a.n) (he:e∈a.al):PSpec Tryz.prog 208 [aV a,.int .i64 (v:Int),.int .i64 (e:Int)] (.tup [.int .i64 (((stepA a.es v e).getD 0:Nat):Int),.bool (stepA a.es v e).isSome,.int .i64 0]):=by
 refine PSpec.Qan 64 TQ.ok208 rfl (by(try simp only[noRefs,Qac,Qal,Qaf,noRef,noRefs,Bool.and_self,Bool.and_true])<;>rfl) rfl ?_
 have hal:=Qbs h.al h.al5
 have hc:=state207 a v h hv
 have hC:=contains62 (nz a.al) (e:Int) (by simp;omega)
 have hm:decide ((e:Int)∈nz a.al)=true:=decide_eq_true (List.mem_map.2 ⟨e,he,rfl⟩)
 rw[hm,QbQ]at hC
 have hN:=next226 a v e h hv
 unfold nxI at hN
 simp(disch:=first|omega|exact PairsOK.mk rfl|(simp only[lenW]<;>omega)) only[TQ.s208,Qaa,Qad,Qae,wW,wV,simprocAttr]
 refine cp hc ?_
 simp(disch:=first|omega|exact PairsOK.mk rfl|(simp only[lenW]<;>omega)) only[Qaa,Qad,Qae,wW,wV,simprocAttr]
 refine cp hC ?_
 simp(disch:=first|omega|exact PairsOK.mk rfl|(simp only[lenW]<;>omega)) only[Qaa,Qad,Qae,wW,wV,simprocAttr]
 refine cp hN ?_
 cases hs:stepA a.es v e with
 |none=>
  simp(disch:=first|omega|exact PairsOK.mk rfl|(simp only[lenW]<;>omega)) only[Qaa,Qad,Qae,wW,wV,simprocAttr]
  exact⟨.inr trivial,_,rfl,rfl⟩
 |some t=>
  have g:(0:Int)<=(t:Int):=by omega
  simp(disch:=first|omega|exact PairsOK.mk rfl|(simp only[lenW]<;>omega)) only[g,Qaa,Qad,Qae,wW,wV,simprocAttr]
  exact⟨.inr trivial,_,rfl,rfl⟩
end Go.AM.SO
namespace Go.AM.SO
open Go.Proofs Go.AM.SD Go.AM.SE
theorem Qqe {l:List Aut} {Q:List Nat->Prop} {i e:Nat} {t:List Nat} {s:List (List Nat)×List Ed} (hs:∀n,stepT l t e=some n->Q n) (h:∀x∈s.1,Q x):∀x∈(pEv l i t s e).1,Q x:=by
 unfold pEv
 cases hst:stepT l t e with
 |none=>exact h
 | some n =>
  dsimp only
  split
  ·exact h
  ·intro x hx
   rcases List.mem_append.1 hx with hx|hx
   ·exact h x hx
   ·rw[List.mem_singleton]at hx;rw[hx];exact hs _ hst
theorem QkJ {l:List Aut} {Q:List Nat->Prop} {i:Nat} {t:List Nat}:∀{ev:List Nat} {s:List (List Nat)×List Ed},(∀e∈ev,∀n,stepT l t e=some n->Q n)->(∀x∈s.1,Q x)->∀x∈(pRow l ev i t s).1,Q x
 |[],s,_,h=>h
 |e::ev,s,hs,h=>QkJ (ev:=ev) (s:=pEv l i t s e) (fun e' he'=>hs e' (by simp[he'])) (Qqe (fun n=>hs e (by simp) n) h)
theorem Qot {l:List Aut} {ev:List Nat} {Q:List Nat->Prop} (hq:∀t,Q t->∀e∈ev,∀n,stepT l t e=some n->Q n):∀{k i:Nat} {s:List (List Nat)×List Ed},(∀x∈s.1,Q x)->∀x∈(pQ l ev k i s).1,Q x
 |0,_,_,h=>h
 |k+1,i,s,h=>by
  unfold pQ
  cases hs:s.1[i]? with
  |none=>exact h
  |some t=>exact Qot hq (QkJ (hq t (h t (List.mem_of_getElem? hs))) h)
theorem QmN {A B:List Aut} {t n:List Nat} {e:Nat} (hl:(A++B).length<=t.length) (h:stepT (A++B) t e=some n):stepT A (t.take A.length) e=some (n.take A.length):=by
  obtain⟨h1,h2,h3⟩:=(QcG hl).1 h
  rw[List.length_append]at hl
  refine(QcG (by rw[List.length_take];omega)).2 ⟨by rw[List.length_take,List.length_take,h1],fun i hi=>?_,fun i a hi ha=>?_⟩
  · rw[List.getElem?_take,List.getElem?_take,if_neg (by omega),if_neg (by omega)]
  · have h4 := h3 i a (by rw [List.length_append]; omega) (by rw [List.getElem?_append_left hi]; exact ha)
    rw[List.getElem?_take,if_pos hi,List.getElem?_take,if_pos hi,List.getD_eq_getElem?_getD,List.getElem?_take,if_pos hi,<-List.getD_eq_getElem?_getD]
    exact h4
theorem Qem {l:List Aut} (h:∀a∈l,WfI a) {e:Nat}:e∈evA l↔∃a∈l,e∈a.al:=by
 rw[QfH,QfF (fun y hy=>by obtain⟨a,ha,rfl⟩:=List.mem_map.1 hy;exact h a ha)]
 constructor
 ·rintro⟨y,hy,hx⟩;obtain⟨a,ha,rfl⟩:=List.mem_map.1 hy;exact⟨a,ha,hx⟩
 ·rintro⟨a,ha,hx⟩;exact⟨_,List.mem_map.2 ⟨a,ha,rfl⟩,hx⟩
theorem Qqf {c:Cel} (h:WfCel c) {e:Nat} (he:e∈evA (allA c)):e∈evA (auL c.cs):=by
 have hA:=Qa2 h
 obtain⟨a,ha,hea⟩:=(Qem (Qce h)).1 he
 rcases List.mem_append.1 (show a∈auL c.cs++auL c.rs from ha)with ha|ha
 ·exact(Qem hA).2 ⟨a,ha,hea⟩
 ·obtain ⟨x, hx, rfl⟩ := List.mem_map.1 ha
  obtain⟨y,hy,hey⟩:=h.rsub x hx e hea
  exact(Qem hA).2 ⟨y.2,List.mem_map.2 ⟨y,hy,rfl⟩,hey⟩
theorem Qqg {c:Cel} (h:WfCel c):∀t∈(sync0 (allA c)).1,InT (allA c) t/\t.take c.cs.length∈(sync0 (auL c.cs)).1:=by
 have hA:=Qa2 h
 have hall:=Qce h
 have hs:=QdZ (fun a ha=>(hA a ha).pos) (fun a ha=>(hA a ha).wf.esn)
 have hok:=QeI (l:=allA c) (fun a ha=>(hall a ha).pos)
 show ∀t∈(pQ (allA c) (evA (allA c)) (box (allA c)+1) 0 ([List.replicate (allA c).length 0],[])).1,_
 refine Qot (Q:=fun t=>InT (allA c) t/\t.take c.cs.length∈(sync0 (auL c.cs)).1) ?_ ?_
 ·rintro t ⟨ht, hp⟩ e he n hn
  refine⟨QdQ (fun a ha=>(hall a ha).wf.esn) ht hn,?_⟩
  have hst:=QmN (A:=auL c.cs) (B:=auL c.rs) (Nat.le_of_eq ht.1.symm) hn
  rw[QaU]at hst
  exact hs.cl _ _ (Qhw hp) (QhY hp) e (Qqf h he) _ hst
 ·intro x hx
  have hx:x=List.replicate (allA c).length 0:=by simpa using hx
  subst hx
  refine⟨hok.inT _ (by simp),?_⟩
  have:(List.replicate (allA c).length 0).take c.cs.length=List.replicate (auL c.cs).length 0:=by
   rw[List.take_replicate,Qb6,QaU];congr 1;omega
  rw[this]
  exact sync_pre.subset (by simp)
theorem Qhx {β:Type} {R:Nat->List β} {j:Nat}:∀{n:Nat},j<n->(List.range n).flatMap (fun x=>if x=j then R x else[])=R j
 |0,h=>absurd h (Nat.not_lt_zero _)
 | n + 1, h => by
  rw[List.range_succ,List.flatMap_append,List.flatMap_cons,List.flatMap_nil,List.append_nil]
  by_cases e:n=j
  ·subst e
   rw[if_pos rfl]
   have:∀{m:Nat},m<=n->(List.range m).flatMap (fun x=>if x=n then R x else[])=[]:=fun{m} hm=>by
    rw[List.flatMap_eq_nil_iff]
    intro x hx
    have:=List.mem_range.1 hx
    rw[if_neg (by omega)]
   rw[this (Nat.le_refl _),List.nil_append]
  ·rw[if_neg e,List.append_nil,Qhx (by omega)]
theorem Qou {l:List Aut} (h:∀a∈l,WfI a) {j:Nat} {t:List Nat} (hj:(sync0 l).1[j]?=some t):sOut (syncA l).es (fun _=>true) j=rowE l (evA l) (sync0 l).1 j t:=by
 have hs:=QdZ (fun a ha=>(h a ha).pos) (fun a ha=>(h a ha).wf.esn)
 have hlt:j<(sync0 l).1.length:=(List.getElem?_eq_some_iff.1 hj).1
 unfold sOut
 show(sync0 l).2.filter _=_
 rw[hs.ed,List.filter_flatMap]
 have hg:(sync0 l).1.getD j []=t:=by rw[List.getD_eq_getElem?_getD,hj];rfl
 rw[<-hg,<-Qhx (R:=fun x=>rowE l (evA l) (sync0 l).1 x ((sync0 l).1.getD x [])) hlt]
 refine flatMap_congr' fun x hx=>?_
 by_cases e:x=j
 ·rw [if_pos e]
  refine List.filter_eq_self.2 fun y hy=>?_
  have:=(Qds hy).1
  simp[this,e]
 ·rw [if_neg e]
  refine List.filter_eq_nil_iff.2 fun y hy=>?_
  have:=(Qds hy).1
  simp[this,e]
theorem Qpj {A B:List Aut} {t:List Nat} (h:InT (A++B) t):InT A (t.take A.length):=by
 refine⟨by rw[List.length_take,h.1,List.length_append];omega,fun i a ha=>?_⟩
 have hi:i<A.length:=(List.getElem?_eq_some_iff.1 ha).1
 have:=h.2 i a (by rw[List.getElem?_append_left hi];exact ha)
 rw[List.getD_eq_getElem?_getD,List.getElem?_take,if_pos hi,<-List.getD_eq_getElem?_getD]
 exact this
theorem Qpk {A B:List Aut} {t:List Nat} (h:InT (A++B) t):InT B (t.drop A.length):=by
 refine⟨by rw[List.length_drop,h.1,List.length_append];omega,fun i a ha=>?_⟩
 have:=h.2 (A.length+i) a (by rw[List.getElem?_append_right (by omega)];simpa using ha)
 rw[List.getD_eq_getElem?_getD,List.getElem?_drop,<-List.getD_eq_getElem?_getD]
 exact this
end Go.AM.SO
namespace Go.AM.TS
open Go.Proofs
set_option maxHeartbeats 4000000
noncomputable section
end
end Go.AM.TS
namespace Go.AM.SO
open Go.Proofs Go.AM.SD Go.AM.SE
end Go.AM.SO
namespace Go.AM.SO
open Go.Proofs Go.AM.SD Go.AM.SE
theorem Qdb (c:Cel):noRef (.fptr (stC c))=true:=by rw[noRef,stC];exact Qd0 _ _ _ _ _
theorem Qqh {t:List Nat} {n:Nat}:(ints (nz t)).take n=ints (nz (t.take n)):=by simp[ints,nz,List.map_take]
theorem Qpl {t:List Nat} {n:Nat}:(ints (nz t)).drop n=ints (nz (t.drop n)):=by simp[ints,nz,List.map_drop]
theorem Qlh {cs:List AV} {len sz:Nat} {k k2:IntKind} {b m:Int} (h:0<b):aSliceC (some sz) (.fsl cs len sz) none (some (.int k b)) (some (.int k2 m))=
  if b<=m/\m<=len then some (.fsl (cs.take (b.toNat*sz)) b.toNat sz)else none:=by
 have e:¬((0:Int)=0/\b=0/\m=0):=by omega
 have e2:(0:Int)<=b:=by omega
 simp only[aSliceC,if_true,aSlice,bnd,Int.le_refl,true_and,e2,Int.toNat_zero,Nat.zero_mul,List.drop_zero,Nat.sub_zero]
 rw[if_neg (by omega)]
theorem split71 (c:Cel) (t:List Nat) (h0:0<c.cs.length) (h:c.cs.length<=t.length):PSpec Tryz.prog 71 [.fptr (stC c),sliN t] (.tup [sliN (t.take c.cs.length),sliN (t.drop c.cs.length)]):=by
 have hno:noRef (.tup [sliN (t.take c.cs.length),sliN (t.drop c.cs.length)])=true:=by rw[noRef,noRefs,noRefs,Qab,Qab];rfl
 refine PSpec.of_rn 64 TQ.ok71 rfl (by rw[noRefs,Qdb,noRefs,Qab];rfl) hno ?_
 have hs:=Qdb c
 rw[stC]at hs⊢
 generalize syncA (auL c.cs)=p at*
 generalize syncA (allA c)=q at*
 generalize (sync0 (auL c.cs)).1=P at*
 generalize (sync0 (allA c)).1=T at*
 have hle:(c.cs.length:Int)<=(t.length:Int):=by omega
 have hl0:(0:Int)<(c.cs.length:Int):=by omega
 have htd:(t.drop c.cs.length).take (t.length-c.cs.length)=t.drop c.cs.length:=List.take_of_length_le (by rw[List.length_drop];exact Nat.le_refl _)
 have hml:min c.cs.length t.length=c.cs.length:=Nat.min_eq_left h
 simp(disch:=first|omega|exact PairsOK.mk rfl|(simp only[lenW]<;>omega)) only[TQ.s71,hle,Qlh,Qqh,Qpl,htd,Qaa,Qad,Qae,wW,wV,simprocAttr]
 refine⟨.inr trivial,_,rfl,?_⟩
 have e1:sliN (t.take c.cs.length)= .fsl (ints (nz (t.take c.cs.length))) c.cs.length 1:=by rw[sliN,List.length_take,hml]
 have e2:sliN (t.drop c.cs.length)= .fsl (ints (nz (t.drop c.cs.length))) (t.length-c.cs.length) 1:=by rw[sliN,List.length_drop]
 rw[e1,e2]at hno⊢
 exact Rn.same hno
def rfQ (c:Cel) (r:List Nat) (e:Nat) (i:Nat):Bool:=match c.rs[i]? with
 |some y=>y.2.al.contains e&&(stepA y.2.es (r.getD i 0) e).isNone
 |none=>false
def rfI (c:Cel) (r:List Nat) (e:Nat):Int:=idxQ (rfQ c r e) (List.range c.rs.length)
theorem _root_.Go.AM.au23 {p:Prop} (h:p:=by repeat' (first|exact RB.nil|(refine RnL.same ?_;first|rfl|(simp only[noRef,noRefs,Qah,Bool.and_self,Bool.and_true,Bool.true_and,Qac,Qau,Qab,Qak,QaQ,Qaf,SU.Qbb];done))|exact RnM.keyM rfl|exact RnL.nil|exact(True.intro:RnM _ _ _ [] [])|refine RnL.cons ?_ ?_|(refine Rn.same ?_;first|rfl|(simp only[noRef,noRefs,Qah,Bool.and_self,Bool.and_true,Bool.true_and,Qac,Qau,Qab,Qak,QaQ,Qaf,SU.Qbb];done))|exact Rn.x1 rfl rfl|exact Rn.x2 rfl rfl|exact Rn.x3 rfl rfl|exact Rn.x4 rfl rfl|exact Rn.x5 rfl|exact Rn.x6 rfl|exact Rn.x7 rfl|refine RB.newnil rfl rfl ?_|refine RB.cells rfl rfl rfl ?_ ?_|refine RB.map rfl rfl rfl ?_ ?_|refine RB.cellsB rfl rfl ?_ ?_|refine RB.mapB rfl rfl ?_ ?_)):p:=h
theorem refuser162 (c : Cel) (hw : WfCel c) (r : List Nat) (e : Nat) (hr : r.length = c.rs.length) (hrn : ∀ (i : Nat) y, c.rs[i]? = some y -> r.getD i 0 < y.2.n) : PSpec Tryz.prog 162 [.fptr (stC c), sliN r, .int .i64 (e : Int)] (.int .i64 (rfI c r e)) := by
  refine PSpec.Qan 64 TQ.ok162 rfl (by rw[noRefs,Qdb,noRefs,Qab];rfl) rfl ?_
  have hr2:=hw.r2
  rw[stC]
  generalize syncA (auL c.cs)=p at*
  generalize syncA (allA c)=q at*
  generalize (sync0 (auL c.cs)).1=P at*
  generalize (sync0 (allA c)).1=T at*
  have hni:=@SU.Qas 114 c.rs
  simp(disch:=first|omega|exact PairsOK.mk rfl|(simp only[lenW]<;>omega)) only[TQ.s162,Qaa,Qad,Qae,wW,wV,simprocAttr]
  refine Qap 100 (fun i:Nat=>[(1,sliN r),(2,.int .i64 (e:Int)),(16,its 114 c.rs),(17,.int .i64 c.rs.length),(18,.int .i64 i)]) (fun _=>[]) (fun i=>i<=c.rs.length/\∀(j:Nat) y,j<i->(List.range c.rs.length)[j]?=some y->rfQ c r e y=false) (fun i=>c.rs.length-i) 0 0 200 (fun _:Unit=>[]) (fun _=>[]) (fun _=>∀x∈List.range c.rs.length,rfQ c r e x=false) ?_ ⟨Nat.zero_le _,fun j y hj=>absurd hj (Nat.not_lt_zero _)⟩ ?_ ?_
  · exact⟨[],rfl,RO.zero,RB.nil,RT.cons (Rn.same (Qab _)) (RT.cons (Rn.same rfl) (RT.cons (Rn.same hni) au21))⟩
  · rintro i ⟨hi, hb⟩
    by_cases hlt:i<c.rs.length
    · obtain ⟨x, hx⟩ := Qai hlt
      have hwi:=hw.ra x (List.mem_of_getElem? hx)
      have hdr:=SU.Qcx (ch:=114) hx
      have hdl:5<=((c.rs.flatMap (itC 114)).drop (i*5)).length:=by rw[hdr];simp
      have hri:i<r.length:=by omega
      obtain⟨v,hv⟩:=Qai hri
      have hvd:r.getD i 0=v:=by rw[List.getD_eq_getElem?_getD,hv];rfl
      have hvn:=hrn i x hx
      rw[hvd]at hvn
      have hri2:(List.range c.rs.length)[i]?=some i:=by simp[hlt]
      have hC:=has189 x.2.al e hwi.wf.al (by have:=Qfw hwi.wf;omega)
      have hqi:rfQ c r e i=(x.2.al.contains e&&(stepA x.2.es v e).isNone):=by unfold rfQ;rw[hx];dsimp only;rw[hvd]
      have hnx:∀q:rfQ c r e i=false,i+1<=c.rs.length/\∀(j:Nat) y,j<i+1->(List.range c.rs.length)[j]?=some y->rfQ c r e y=false:=fun q=>⟨by omega,fun j y hj hy=>by
        by_cases e2:j=i
        · subst e2;rw[hri2]at hy;cases hy;exact q
        · exact hb j y (by omega) hy⟩
      cases hq:x.2.al.contains e
      · rw [hq, Bool.false_and] at hqi
        rw[hq]at hC
        simp(disch:=first|omega|exact PairsOK.mk rfl|(simp only[lenW]<;>omega)) only[hlt,hdr,hdl,Qaa,Qad,Qae,wW,wV,simprocAttr]
        refine cp hC ?_
        simp(disch:=first|omega|exact PairsOK.mk rfl|(simp only[lenW]<;>omega)) only[Qaa,Qad,Qae,wW,wV,simprocAttr]
        refine⟨i+1,by omega,hnx hqi,?_⟩
        exact⟨[],rfl,RO.zero,RB.nil,RT.cons (Rn.same (Qab _)) (RT.cons (Rn.same rfl) (RT.cons (Rn.same hni) au21))⟩
      · have hS := step208 x.2 v e hwi.b hvn (List.contains_iff_mem.1 hq)
        rw[hq,Bool.true_and]at hqi
        rw[hq]at hC
        simp(disch:=first|omega|exact PairsOK.mk rfl|(simp only[lenW]<;>omega)) only[hlt,hdr,hdl,Qaa,Qad,Qae,wW,wV,simprocAttr]
        refine cp hC ?_
        simp(disch:=first|omega|exact PairsOK.mk rfl|(simp only[lenW]<;>omega)) only[hri,QaB hv,Qaa,Qad,Qae,wW,wV,simprocAttr]
        refine cp hS ?_
        cases hst:stepA x.2.es v e with
        | none =>
          rw[hst]at hqi
          simp(disch:=first|omega|exact PairsOK.mk rfl|(simp only[lenW]<;>omega)) only[Qaa,Qad,Qae,wW,wV,simprocAttr]
          refine⟨.inr trivial,_,rfl,?_⟩
          unfold rfI
          rw[Qej hri2 hqi hb];rfl
        | some t =>
          rw[hst]at hqi
          simp(disch:=first|omega|exact PairsOK.mk rfl|(simp only[lenW]<;>omega)) only[Qaa,Qad,Qae,wW,wV,simprocAttr]
          refine⟨i+1,by omega,hnx hqi,?_⟩
          exact⟨[],rfl,RO.zero,RB.nil,RT.cons (Rn.same (Qab _)) (RT.cons (Rn.same rfl) (RT.cons (Rn.same hni) au21))⟩
    · simp (disch := first | omega | exact PairsOK.mk rfl | (simp only [lenW] <;> omega)) only [hlt, Qaa, Qad, Qae, wW, wV, simprocAttr]
      refine⟨(),fun x hx=>?_,⟨[],rfl,au0,au23,au21⟩⟩
      have:=List.mem_range.1 hx
      exact hb x x (by omega) (by simp[this])
  rintro _ hb
  simp(disch:=first|omega|exact PairsOK.mk rfl|(simp only[lenW]<;>omega)) only[Qaa,Qad,Qae,wW,wV,simprocAttr]
  refine⟨.inr trivial,_,rfl,?_⟩
  unfold rfI
  rw[Qda hb];rfl
def rfF (c:Cel) (k:Nat) (r:List Nat):AV:= .fn 160 [] [.fptr [.fptr (stC c)],.fptr [.int .i64 (k:Int)],.fptr [sliN r]]
theorem Qfz (c:Cel) (k:Nat) (r:List Nat):noRef (rfF c k r)=true:=by
 have:=Qdb c
 rw[noRef]at this
 simp only[rfF,noRef,noRefs,Qac,this];rfl
theorem refused74 (c:Cel) (k:Nat) (r:List Nat):PSpec Tryz.prog 74 [.fptr (stC c),.int .i64 (k:Int),sliN r] (rfF c k r):=by
 have hs:=Qdb c
 refine PSpec.of_rn 64 TQ.ok74 rfl (by rw[noRefs,hs,noRefs,noRefs,Qab];rfl) (Qfz _ _ _) ?_
 unfold rfF
 have hb:(AV.fptr (stC c)).boxable=true:=rfl
 have hc:(AV.fptr (stC c)).cells=[.fptr (stC c)]:=rfl
 have ho:(AV.fptr (stC c)).one=true:=rfl
 generalize AV.fptr (stC c)=S at*
 simp(disch:=first|omega|exact PairsOK.mk rfl|(simp only[lenW]<;>omega)) only[TQ.s74,hb,hc,ho,Qaa,Qad,Qae,wW,wV,simprocAttr]
 refine⟨.inr trivial,_,rfl,?_⟩
 refine Rn.fn RnL.nil (RnL.cons (Rn.frzp (b:=64) (g:=0) rfl (Nat.zero_le _) (fun b' g' _ e=>by simp[π0]at e) (by simp) (RnL.same ?_)) (RnL.cons (Rn.frzp (b:=65) (g:=0) rfl (Nat.zero_le _) (fun b' g' _ e=>by simp[π0]at e) (by simp) (RnL.same rfl)) (RnL.cons (Rn.frzp (b:=66) (g:=0) rfl (Nat.zero_le _) (fun b' g' _ e=>by simp[π0]at e) (by simp) (RnL.same ?_)) RnL.nil)))
 ·show noRefs [S] = true
  rw[noRefs,hs];rfl
 ·show noRefs [sliN r] = true
  rw[noRefs,Qab];rfl
end Go.AM.SO
namespace Go.AM.SO
open Go.Proofs Go.AM.SD Go.AM.SE
def itN (x:List UInt8×Aut):List AV:=[.str x.1,sliN x.2.al,.int .i64 (x.2.n:Int),sliN x.2.ms,egsN x.2.es]
theorem Qov (l:List (List UInt8×Aut)):noRefs (l.flatMap itN)=true:=QaT (fun x=>by simp only[itN,noRefs,noRef,Qac,Qaf];rfl) l
def evN (x:List UInt8×Evt):List AV:=[.str x.1,.bool x.2.c,.bool x.2.o,.bool x.2.f,.int .i64 (x.2.flt:Int)]
theorem Qrd (l:List (List UInt8×Evt)):noRefs (l.flatMap evN)=true:=QaT (fun x=>rfl) l
end Go.AM.SO
namespace Go.AM.SO
open Go.Proofs Go.AM.SD Go.AM.SE
theorem Qre {a b:List UInt8}:aBin .eql (.str a) (.str b)=some (.bool (decide (a=b))):=rfl
end Go.AM.SO
namespace Go.AM.SW
open Go.Proofs
set_option maxHeartbeats 4000000
noncomputable section
end
end Go.AM.SW
namespace Go.AM.SO
open Go.Proofs Go.AM.SD Go.AM.SE
end Go.AM.SO
namespace Go.AM.SO
open Go.Proofs Go.AM.SD Go.AM.SE
end Go.AM.SO
namespace Go.AM
variable {P:Program}
theorem RSpec.of_wS {b N n:Nat} {T:Tmps} {ps:List Nat} {asg body:SCode} {args:List AV} {h h':Heap} {v:AV} (hn:(noLoop asg&&noLoop body)=true) (hb:h.get b=some (.loop 0 N T ps (.s asg) (.s body) .ready))
  (hl:Nat.blt b 1099511627775=true) (hlen:args.length=ps.length) (hps:(ps.all fun p=>Nat.blt p N)=true)
  (hw : wS P ⟨N, 0⟩ asg [] n (upsT T ps args) h fun e T1 h1 n1 => e = .normal /\ h1.get b = some (.loop 0 N T ps (.s asg) (.s body) .ready) /\
   wS P ⟨N,0⟩ body [] n1 T1 (h1.set b (.loop 0 N T ps (.s asg) (.s body) .busy)) fun e T2 h2 _=>h2.get b=some (.loop 0 N T ps (.s asg) (.s body) .busy)/\v= .bool e.isNormal/\∀x,(h2.set b (.loop 0 N T ps (.s asg) (.s body) (stOf e))).get x=h'.get x):RSpec P b 0 args h v h':=by
 simp only[Bool.and_eq_true]at hn
 refine RSpec.of_W hb (by simpa[lim]using hl) hlen (fun p hp=>by simpa using List.all_eq_true.1 hps p hp) ((wpC.toW1 hn.1 hw).mono ?_)
 rintro e B ⟨n1,rfl,h1,h2⟩
 refine⟨rfl,N,T,ps,.s asg,.s body,h1,(wpC.toW1 hn.2 h2).mono ?_⟩
 rintro e C ⟨n2,k1,k2,k3⟩
 exact⟨N,T,ps,.s asg,.s body,k1,k2,k3⟩
section
variable {k m n:Nat} {T:Tmps} {h:Heap} {Q:QC} {fs:List Fr}
theorem Qi4 {g:Opd} {ps:List Nat} {asg body:SCode} {f b n':Nat} {first cap:List AV} {v:AV} {h2:Heap} {T' T2:Tmps} {L:HL} {N2:Nat} {ps2:List Nat} {as2 body2:LCode} {st:LSt} (hr:Rec m T' L T h) (hg:ev T' g= .fn f first cap) (hb:(hp L).get b=none) (hl:Nat.blt b 1099511627775=true)
  (hs:HSpec P f (first++[.yld b 0]++cap) ((hp L).set b (.loop 0 k T' ps (.s asg) (.s body) .ready)) v h2) (hst:h2.get b=some (.loop 0 N2 T2 ps2 as2 body2 st))
  (hQ:leftQ (fun e B=>wX P ⟨k,m⟩ e fs n' B.T B.h Q) ⟨T',h2.set b (.dead 0)⟩ st):wS P ⟨k,m⟩ (.rfunc g ps k asg body) fs n T h Q:=by
 show W2 P ⟨k,m⟩ (.rfunc g ps k asg body) (fun e B=>∃n,ct P ⟨k,m⟩ fs Q e B.T B.h n) ⟨T,h⟩
 refine W2.recL hr (W2.of_W (W.rfunc (las:= .s asg) (lbody:= .s body) rfl rfl hg hb (by simpa[lim]using hl) hs hst ?_))
 cases st with
 |ready=>exact⟨n',hQ⟩
 |busy=>exact hQ
 |done e=>exact⟨hQ.1,n',hQ.2⟩
theorem cy {N:NM} {b g:Nat} {args:List AV} {v:AV} {h1:Heap} {d:Option Nat} {ops:List SOper} {dead:List Nat} (hR:RSpec P b g args h v h1) (hk:wR P N ops dead fs (n+1) (putD T d v) h1 Q):wCall P N .heap (.yld b g) args d ops dead fs n T h Q:=⟨_,_,hR,hk⟩
theorem W2.weakE {N:NM} {c:SCode} {Q:SX->St->Prop} {T L:Tmps} {h h':Heap} (hT:Sub L T) (he:∀b,h.get b=h'.get b) (hw:W2 P N c Q ⟨L,h'⟩):W2 P N c Q ⟨T,h⟩:=
 W2.weak hT (W2.congr hw ⟨fun _=>rfl,he⟩)
def loopI (P:Program) (k m:Nat) {α:Type} (env:α->Tmps) (H:α->Heap) (I:α->Prop) (μ:α->Nat) (a:α) (fs:List Fr) (Q:QC):QC:=fun e T h n=>
 match e with
 | .normal=>∃a',μ a'<μ a/\I a'/\Sub (env a') T/\∀b,h.get b=(H a').get b
 |e=>wX P ⟨k,m⟩ e fs n T h Q
section
variable {α:Type} {env:α->Tmps} {H:α->Heap} {I:α->Prop} {μ:α->Nat} {a:α}
theorem QaZ:loopI P k m env H I μ a fs Q .normal T h n=∃a',μ a'<μ a/\I a'/\Sub (env a') T/\∀b,h.get b=(H a').get b:=rfl
theorem Qbe {i:Nat}:loopI P k m env H I μ a fs Q (.exit i) T h n=wX P ⟨k,m⟩ (.exit i) fs n T h Q:=rfl
theorem Qbn:loopI P k m env H I μ a fs Q .ret T h n=wX P ⟨k,m⟩ .ret fs n T h Q:=rfl
theorem Qpm {b:SCode} (n0:Nat) (env:α->Tmps) (H:α->Heap) (I:α->Prop) (μ:α->Nat) (a0:α)
  (h0:Sub (env a0) T) (hh:∀b,h.get b=(H a0).get b) (hI:I a0) (round:∀a,I a->wS P ⟨k,m⟩ b [] n0 (env a) (H a) (loopI P k m env H I μ a fs Q)):wS P ⟨k,m⟩ (.loop b) fs n T h Q:=by
 show W2 P ⟨k,m⟩ (.loop b) (fun e B=>∃n,ct P ⟨k,m⟩ fs Q e B.T B.h n) ⟨T,h⟩
 refine W2.loop (fun q B=>∃a,μ a=q/\I a/\Sub (env a) B.T/\∀b,B.h.get b=(H a).get b) (μ a0) ⟨a0,rfl,hI,h0,hh⟩ ?_
 rintro q B ⟨a,rfl,hi,hs,he⟩
 refine W2.weakE hs he ((wpC.toW (round a hi)).mono ?_)
 rintro e C ⟨n2,hq⟩
 cases e with
 |normal=>obtain⟨a',h1,h2,h3⟩:=hq;exact⟨μ a',h1,a',rfl,h2,h3⟩
 |exit i=>exact⟨n2,hq⟩
 |ret=>exact⟨n2,hq⟩
end
end
theorem HSpec.of_I {f:Nat} {sf:SFn} {args:List AV} {h h':Heap} {v:AV} (m n:Nat) (hok:okFn P f sf=true) (hl:Nat.ble args.length sf.n=true) (hm:Fresh m h)
  (hw:wS P ⟨sf.n,m⟩ sf.body [] n (argT 0 args) h fun e T k _=>(e= .normal\/e= .ret)/\∃vs,resV T k sf.res=some vs/\resOf vs=v/\∀b,k.get b=h'.get b):HSpec P f args h v h':=by
 obtain⟨_,_,_,_,_,_,_,hc⟩:=QbY hok
 refine⟨hc,fun c w cargs H ha=>(Qdc (m:=m) (R:=fun vs k=>resOf vs=v/\∀b,k.get b=h'.get b) hok (Nat.le_of_ble_eq_true hl) ((wpC.toW hw).mono fun e B ⟨_,h1,vs,h2,h3⟩=>⟨h1,vs,h2,h3⟩) H ha).mono ?_⟩
 rintro e w' ⟨cv,c',vs,k,rfl,E,H',V,rfl,hk⟩
 refine⟨cv,c',rfl,⟨E.os,E.tape,E.output,E.size,E.shape,E.keep,fun b g p hp=>?_,E.frz,E.frzNew,E.own,E.base⟩,Qca hk H',V⟩
 rcases Nat.lt_or_ge b m with h1|h1
 ·exact E.rho b g p h1 hp
 ·rw[H.fresh b (hm b h1) g]at hp;cases hp
end Go.AM
namespace Go.AM.SO
open Go.Proofs Go.AM.SD Go.AM.SE
def ylE (c:Cel) (r:List Nat) (e:Nat):Option (Nat×Int):=if 0<=rfI c r e then some (e,rfI c r e)else none
def yls (c:Cel) (k:Nat) (r:List Nat):List (Nat×Int):=(evO (syncA (auL c.cs)) k).filterMap (ylE c r)
theorem fm_at {α β:Type} {f:α->Option β} {l:List α} {i:Nat} {x:α} {y:β} (hx:l[i]?=some x) (hy:f x=some y):(l.filterMap f)[((l.take i).filterMap f).length]?=some y:=by
 have hi:i<l.length:=(List.getElem?_eq_some_iff.1 hx).1
 have e:l=l.take i++x::l.drop (i+1):=by
  have hx':l[i]=x:=(List.getElem?_eq_some_iff.1 hx).2
  rw[<-hx',List.getElem_cons_drop,List.take_append_drop]
 have e2:l.filterMap f=(l.take i).filterMap f++y::(l.drop (i+1)).filterMap f:=by
  conv=>lhs;rw[e]
  rw[List.filterMap_append,List.filterMap_cons,hy]
 rw[e2,List.getElem?_append_right (Nat.le_refl _),Nat.sub_self,List.getElem?_cons_zero]
theorem Qqi {α β:Type} {f:α->Option β} {l:List α} {i:Nat} {x:α} (hx:l[i]?=some x):((l.take (i+1)).filterMap f).length=((l.take i).filterMap f).length+(match f x with|some _=>1|none=>0):=by
 rw[take_succ' hx,List.filterMap_append,List.length_append,List.filterMap_cons]
 cases f x<;>rfl
theorem Qqj {c:Cel} {r:List Nat} {e:Nat}: -1<=rfI c r e/\rfI c r e<=c.rs.length:=by
 have:=@QgN _ (rfQ c r e) (List.range c.rs.length)
 unfold rfI
 rw[List.length_range]at this
 omega
theorem refused160 (c : Cel) (hw : WfCel c) {k : Nat} (hk : k < (syncA (auL c.cs)).n) (r : List Nat) (hr : r.length = c.rs.length) (hrn : ∀ (i : Nat) y, c.rs[i]? = some y -> r.getD i 0 < y.2.n) {b m : Nat} (H : Nat -> Heap) (H' : Heap) (n : Nat) (hf : Fresh m (H 0)) (hn : n <= (yls c k r).length)
    (hY:∀(j:Nat) y,j<n->(yls c k r)[j]?=some y->RSpec Tryz.prog b 0 [.int .i64 (y.1:Int),.int .i64 y.2] (H j) (.bool true) (H (j+1)))
    (hE:(n=(yls c k r).length/\H'=H n)\/∃y,(yls c k r)[n]?=some y/\RSpec Tryz.prog b 0 [.int .i64 (y.1:Int),.int .i64 y.2] (H n) (.bool false) H'):
    HSpec Tryz.prog 160 [.yld b 0,.fptr [.fptr (stC c)],.fptr [.int .i64 (k:Int)],.fptr [sliN r]] (H 0) (.tup []) H':=by
  refine HSpec.of_I m 1099511627000 TR.ok160 rfl hf ?_
  have hE161:=enabled161 (syncA (auL c.cs)) k (QdU (Qa2 hw) (by rw[QaU];have:=hw.c3;omega)) hk
  have hR:=fun e=>refuser162 c hw r e hr hrn
  have hgR:=fun e=>@Qqj c r e
  have hol:(evO (syncA (auL c.cs)) k).length<=1220:=by
    unfold evO;rw[List.length_map]
    exact Nat.le_trans (List.length_filter_le ..) (QdU (Qa2 hw) (by rw[QaU];have:=hw.c3;omega)).el
  have hcap:stC c=stC c:=rfl
  conv at hcap=>rhs;rw[stC]
  have hX:∃S,S=AV.fptr (stC c):=⟨_,rfl⟩
  unfold yls at hn hY hE
  rw[stC]at*
  generalize evO (syncA (auL c.cs)) k=o at*
  generalize syncA (auL c.cs)=p at*
  generalize syncA (allA c)=q at*
  generalize (sync0 (auL c.cs)).1=P at*
  generalize (sync0 (allA c)).1=T at*
  simp(disch:=first|omega|exact PairsOK.mk rfl|(simp only[lenW]<;>omega)) only[TR.s160,Qaa,Qad,Qae,QaZ,Qbe,Qbn,wW,wV,simprocAttr]
  refine cp hE161 ?_
  simp(disch:=first|omega|exact PairsOK.mk rfl|(simp only[lenW]<;>omega)) only[Qaa,Qad,Qae,QaZ,Qbe,Qbn,wW,wV,simprocAttr]
  refine Qpm 1099511627100 (fun i:Nat=>[(0,.yld b 0),(1,.fptr [.fptr (stG c p q P T)]),(3,.fptr [sliN r]),(19,sliN o),(20,.int .i64 o.length),(21,.int .i64 i)]) (fun i=>H ((o.take i).filterMap (ylE c r)).length) (fun i=>i<=o.length/\((o.take i).filterMap (ylE c r)).length<=n) (fun i=>o.length-i) 0 ?_ (fun _=>rfl) ⟨Nat.zero_le _,Nat.zero_le _⟩ ?_
  · repeat (first|exact Sub.nil|refine Sub.cons (by first|rfl|(rw[Int.natCast_add];rfl)) ?_)
  rintro i ⟨hi,hc⟩
  by_cases hlt:i<o.length
  · obtain ⟨x, hx⟩ := Qai hlt
    have hct:=Qqi (f:=ylE c r) hx
    have hRx:=hR x
    have hg:=hgR x
    by_cases h0:0<=rfI c r x
    · have hyl : ylE c r x = some (x, rfI c r x) := by unfold ylE; rw [if_pos h0]
      have hat:=fm_at hx hyl
      rw[hyl]at hct
      rcases Nat.lt_or_ge ((o.take i).filterMap (ylE c r)).length n with hlt2|hge
      · have hR1 := hY _ _ hlt2 hat
        dsimp only at hR1 hct
        rw[<-hct]at hR1
        simp(disch:=first|omega|exact PairsOK.mk rfl|(simp only[lenW]<;>omega)) only[hlt,QaB hx,Qaa,Qad,Qae,QaZ,Qbe,Qbn,wW,wV,simprocAttr]
        refine cp hRx ?_
        generalize rfI c r x=v at*
        simp(disch:=first|omega|exact PairsOK.mk rfl|(simp only[lenW]<;>omega)) only[h0,Qaa,Qad,Qae,QaZ,Qbe,Qbn,wW,wV,simprocAttr]
        refine cy hR1 ?_
        simp(disch:=first|omega|exact PairsOK.mk rfl|(simp only[lenW]<;>omega)) only[Qaa,Qad,Qae,QaZ,Qbe,Qbn,wW,wV,simprocAttr]
        refine⟨i+1,by omega,⟨by omega,by omega⟩,?_,fun _=>rfl⟩
        repeat (first|exact Sub.nil|refine Sub.cons (by first|rfl|(rw[Int.natCast_add];rfl)) ?_)
      · have hcn : ((o.take i).filterMap (ylE c r)).length = n := by omega
        rcases hE with⟨he,_⟩|⟨y,hy,hRs⟩
        · have := (List.getElem?_eq_some_iff.1 hat).1
          omega
        · rw [hcn] at hat ⊢
          rw[hat]at hy
          cases hy
          dsimp only at hRs
          simp(disch:=first|omega|exact PairsOK.mk rfl|(simp only[lenW]<;>omega)) only[hlt,QaB hx,Qaa,Qad,Qae,QaZ,Qbe,Qbn,wW,wV,simprocAttr]
          refine cp hRx ?_
          generalize rfI c r x=v at*
          simp(disch:=first|omega|exact PairsOK.mk rfl|(simp only[lenW]<;>omega)) only[h0,Qaa,Qad,Qae,QaZ,Qbe,Qbn,wW,wV,simprocAttr]
          refine cy hRs ?_
          simp(disch:=first|omega|exact PairsOK.mk rfl|(simp only[lenW]<;>omega)) only[Qaa,Qad,Qae,QaZ,Qbe,Qbn,wW,wV,simprocAttr]
          exact⟨.inr trivial,_,rfl,rfl,fun _=>trivial⟩
    · have hyl : ylE c r x = none := by unfold ylE; rw [if_neg h0]
      rw[hyl]at hct
      dsimp only at hct
      simp(disch:=first|omega|exact PairsOK.mk rfl|(simp only[lenW]<;>omega)) only[hlt,QaB hx,Qaa,Qad,Qae,QaZ,Qbe,Qbn,wW,wV,simprocAttr]
      refine cp hRx ?_
      generalize rfI c r x=v at*
      simp(disch:=first|omega|exact PairsOK.mk rfl|(simp only[lenW]<;>omega)) only[h0,Qaa,Qad,Qae,QaZ,Qbe,Qbn,wW,wV,simprocAttr]
      refine⟨i+1,by omega,⟨by omega,by omega⟩,?_,fun _=>by rw[hct];rfl⟩
      repeat (first|exact Sub.nil|refine Sub.cons (by first|rfl|(rw[Int.natCast_add];rfl)) ?_)
  · have e : i = o.length := by omega
    subst e
    rw[List.take_length]at hc⊢
    have hcn:n=(o.filterMap (ylE c r)).length:=by omega
    simp(disch:=first|omega|exact PairsOK.mk rfl|(simp only[lenW]<;>omega)) only[hlt,Qaa,Qad,Qae,QaZ,Qbe,Qbn,wW,wV,simprocAttr]
    refine⟨.inl trivial,_,rfl,rfl,fun _=>?_⟩
    rcases hE with⟨_,he⟩|⟨y,hy,_⟩
    · rw[he,hcn]
    · rw[List.getElem?_eq_none (by omega)]at hy;cases hy
end Go.AM.SO
