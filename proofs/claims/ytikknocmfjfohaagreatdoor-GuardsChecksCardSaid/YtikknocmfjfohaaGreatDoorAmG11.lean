/- A part of the proof of GuardsChecksCardSaid: lemmas on the way (AnCw, AnCyc, AnCyd, AnCyb, AnCye, AnCyf, AnCyh, AnCyg, AnCyi, AnCyj, AnCr, AnCzg, AnUb, AnUk, AnUc, AmTo, AmTy, AnUh, AnUi, AnUz, AnUe, AnUg, AnUj, AnUf, AnUd, AnUl, AnUm, AnUn, AnUo, AnUp, AnGj, AnQg, AnCzf, AnUq, AnUr). Conditions: none of ours. -/
import Derived.Test.YtikknocmfjfohaaGreatDoorProg
import Derived.KernelRfl
import Derived.Test.YtikknocmfjfohaaGreatDoorAmG10
set_option linter.unusedSectionVars false
set_option maxHeartbeats 32000000
set_option maxRecDepth 100000
set_option linter.unusedVariables false
set_option linter.unusedSimpArgs false
namespace Go.AM.SU
open Go.Proofs Go.AM.SD Go.AM.SE Go.AM.SO
theorem QkS:∀l:List Nat,(u8s l).all AV.one=true
 |[]=>rfl
 |x::l=>by show(AV.one _&&(u8s l).all AV.one)=true;rw[QkS l];rfl
section
variable {p:Pln}
theorem QmS {l:List Nat} {k:Nat} (h:k<l.length):(u8s l)[k]?=some (.int .u8 ((l.getD k 0:Nat):Int)):=by
 refine QgB ?_
 rw[List.getElem?_eq_getElem h,List.getD_eq_getElem?_getD,List.getElem?_eq_getElem h];rfl
theorem Qg1 (h:POk p):(plnC p).length=152:=by
 show(u8s p.L++_).length=152
 rw[List.length_append,Qci,h.L];rfl
theorem Qps (h:POk p) {k:Nat} (hk:k<147):(plnC p)[k]?=some (.int .u8 ((p.L.getD k 0:Nat):Int)):=by
 show(u8s p.L++_)[k]?=_
 rw[List.getElem?_append_left (by rw[Qci,h.L];exact hk),QmS (by rw[h.L];exact hk)]
theorem QdY (h:POk p) {k:Nat}:(plnC p)[147+k]?=([.fsl (u8s p.X) p.xn 4,.int .i8 p.f0,.int .i8 p.f1,.int .i8 p.f2,.int .i8 p.bd]:List AV)[k]?:=by
 show(u8s p.L++_)[147+k]?=_
 rw[List.getElem?_append_right (by rw[Qci,h.L];omega),Qci,h.L]
 congr 1;omega
theorem Qjx (h:POk p) {k m:Nat} (hk:k+m<=147):((plnC p).drop k).take m=u8s ((p.L.drop k).take m):=by
 show((u8s p.L++_).drop k).take m=_
 rw[List.drop_append_of_le_length (by rw[Qci,h.L];omega),List.take_append_of_le_length (by rw[List.length_drop,Qci,h.L];omega)]
 simp[u8s,List.map_drop,List.map_take]
theorem Qpt (h:POk p) {k:Nat} (hk:k+27<=147):((plnC p).drop k).take 27= .int .u8 ((p.L.getD k 0:Nat):Int):: .int .u8 ((p.L.getD (k+1) 0:Nat):Int)::u8s ((p.L.drop (k+2)).take 25):=by
 have hl:=h.L
 rw[Qjx h hk]
 have e:(p.L.drop k).take 27=p.L.getD k 0::p.L.getD (k+1) 0::(p.L.drop (k+2)).take 25:=by
  rw[List.getD_eq_getElem?_getD,List.getD_eq_getElem?_getD,List.getElem?_eq_getElem (show k<p.L.length by omega),List.getElem?_eq_getElem (show k+1<p.L.length by omega)]
  rw[List.drop_eq_getElem_cons (show k<p.L.length by omega),List.take_succ_cons,List.drop_eq_getElem_cons (show k+1<p.L.length by omega),List.take_succ_cons];rfl
 rw[e];rfl
theorem L_lt (h:POk p) (k:Nat):p.L.getD k 0<256:=by
 rw[List.getD_eq_getElem?_getD]
 cases e:p.L[k]? with
 |none=>decide
 |some x=>exact h.L8 x (List.mem_of_getElem? e)
theorem X_lt (h:POk p) (k:Nat):p.X.getD k 0<256:=by
 rw[List.getD_eq_getElem?_getD]
 cases e:p.X[k]? with
 |none=>decide
 |some x=>exact h.X8 x (List.mem_of_getElem? e)
theorem pF_lt (h:POk p) (i:Nat): -128<=pF p i/\pF p i<128:=by
 unfold pF
 split
 ·exact h.f0
 ·split
  ·exact h.f1
  ·exact h.f2
theorem Qg2 (h:POk p):(plnC p).all AV.one=true:=by
 show(u8s p.L++_).all AV.one=true
 rw[List.all_append,QkS];rfl
theorem QcZ:noRefs (plnC p)=true:=by
 show noRefs (u8s p.L++_)=true
 rw[Qaf,Qau]
 simp only[noRefs,noRef,Qau];rfl
theorem Qow (F:List Nat):AV.fsl (evP F 5) 5 5=evsV (fun i=>evOf (F.getD i 0)):=by
 congr 1
theorem QmT (e:Nat->Evt):noRef (evsV e)=true:=rfl
theorem Qbu {ch:UInt8} (l:List (Nat×Aut)):noRefs (l.flatMap (itC ch))=true:=QaJ (fun x=>by simp only[itC,noRefs,noRef,Qaa,Qah];rfl) l
theorem Qat {ch:UInt8} (l:List (Nat×Aut)):noRef (its ch l)=true:=by simp only[noRef];exact Qbu l
theorem Qox {p:Pln} {i:Nat}:fltN (ST.bitsL (pAll p (pN p))) (SD.part 5 (p.L.getD (91+i) 0))=pW p i:=by
 unfold fltN pW
 apply List.filter_congr
 intro x hx
 have:=partLt x hx
 show decide (x∈(List.range 5).filter _)=_
 simp[this]
theorem QbE (l:List (Nat×Nat)):noRefs (l.flatMap loC)=true:=QaJ (fun _=>rfl) l
theorem QdD (l:List (Nat×Nat)):noRef (los l)=true:=by simp only[noRef];exact QbE l
theorem QgG (l:List (Nat×Nat)):(l.flatMap loC).length=l.length*2:=Qbn (k:=2) (fun _=>rfl) l
theorem QaT (l:List (Nat×List (Nat×Nat))):noRefs (l.flatMap exC)=true:=QaJ (fun x=>by simp only[exC,noRefs,noRef,QbE];rfl) l
theorem Qbe (l:List (Nat×List (Nat×Nat))):noRef (exs l)=true:=by simp only[noRef];exact QaT l
theorem QdZ (l:List (Nat×List (Nat×Nat))):(l.flatMap exC).length=l.length*2:=Qbn (k:=2) (fun _=>rfl) l
theorem QcV (l:List (Nat×Int)):noRef (tes l)=true:=by simp only[noRef];exact QaL l
theorem QbW (l:List (List (Nat×Int)×Int)):noRefs (l.flatMap coC)=true:=QaJ (fun x=>by simp only[coC,noRefs,noRef,QaL];rfl) l
theorem Qh5 (l:List (List (Nat×Int)×Int)):noRef (cos l)=true:=by simp only[noRef];exact QbW l
theorem QeY {ch:UInt8} {l:List (Nat×Aut)} {i:Nat} {x:Nat×Aut} (h:l[i]?=some x):(l.flatMap (itC ch)).drop (i*5)= .str [ch,UInt8.ofNat (48+x.1)]::sliN x.2.al:: .int .i64 (x.2.n:Int)::sliN x.2.ms::egsN x.2.es::(l.drop (i+1)).flatMap (itC ch):=Qa3 (f:=itC ch) (k:=5) (fun _=>rfl) h
theorem Qoy {X:List Nat} {i:Nat} (h:i*4+4<=X.length):((u8s X).drop (i*4)).take 4=[.int .u8 ((X.getD (i*4) 0:Nat):Int),.int .u8 ((X.getD (i*4+1) 0:Nat):Int),.int .u8 ((X.getD (i*4+2) 0:Nat):Int),.int .u8 ((X.getD (i*4+3) 0:Nat):Int)]:=by
  have g:∀k,k<4->X.getD (i*4+k) 0=X[i*4+k]!:=fun k hk=>by
    rw[List.getD_eq_getElem?_getD,List.getElem!_eq_getElem?_getD];rfl
  apply List.ext_getElem?
  intro j
  by_cases hj:j<4
  · rw [List.getElem?_take_of_lt hj, List.getElem?_drop, QmS (by omega)]
    have:j=0\/j=1\/j=2\/j=3:=by omega
    rcases this with rfl|rfl|rfl|rfl<;>rfl
  · rw[List.getElem?_eq_none (by rw[List.length_take];omega),List.getElem?_eq_none (by simp;omega)]
theorem QaI (c:Cel):noRef (celV c)=true:=by
 rw[celV,noRef,noRefs,noRefs,noRefs,noRefs,noRefs,QmT,Qat,Qat,Qbe,Qh5];rfl
theorem Qc0 {s:List UInt8} {a:Aut}:noRefs [.str s,sliN a.al,.int .i64 (a.n:Int),sliN a.ms,egsN a.es]=true:=by simp only[noRefs,noRef,Qaa,Qah];rfl
theorem QaV {x y:List AV} (hx:noRefs x=true) (hy:noRefs y=true):noRefs (x++y)=true:=by rw[Qaf,hx,hy];rfl
theorem QmU {ch:UInt8} {i:Nat} {a:Aut}:List.flatMap (itC ch) [(i,a)]=[.str [ch,UInt8.ofNat (48+i)],sliN a.al,.int .i64 (a.n:Int),sliN a.ms,egsN a.es]:=rfl
theorem QcW {ch:UInt8} (l:List (Nat×Aut)):(l.flatMap (itC ch)).length=l.length*5:=Qbn (k:=5) (fun _=>rfl) l
theorem QnH {i:Nat}:pCs p (i+1)=pCs p i++[(i,pA p i)]:=by
 unfold pCs;rw[List.range_succ,List.map_append];rfl
theorem QnI {i:Nat}:pRs p (i+1)=pRs p i++[(i,pR p i)]:=by
 unfold pRs;rw[List.range_succ,List.map_append];rfl
theorem Qg3 {i:Nat}:(pCs p i).length=i:=by simp[pCs]
theorem QkT {i:Nat}:(pRs p i).length=i:=by simp[pRs]
theorem QkU:∀{i:Nat},pAll p i<32
 |0=>by show 0<32;decide
 |i+1=>Nat.or_lt_two_pow (n:=5) QkU (Nat.mod_lt _ (by decide))
end
theorem Qly (a:Nat):(ST.allV a).cells=[ST.allV a]:=by unfold ST.allV;split<;>rfl
theorem QnJ (a:Nat):(ST.allV a).one=true:=by unfold ST.allV;split<;>rfl
theorem Qj4 (a:Nat):noRefs [ST.allV a]=true:=by
 unfold ST.allV
 split
 ·rfl
 ·simp only[noRefs,noRef,Qaa];rfl
theorem Make26 (p : Pln) (h : POk p) : PSpec Tryz.prog 42 [plnV p] (celV (mkC p)) := by
  refine PSpec.of_rn 40 ok42 rfl (by simp only[noRefs,noRef,QcZ];rfl) (QaI _) ?_
  have hlen:=Qg1 h
  have hone:=Qg2 h
  have hnr:=@QcZ p
  have h5:(plnC p).take 5=u8s (p.L.take 5):=by simpa using Qjx h (k:=0) (m:=5) (by omega)
  have hev:=events88 (p.L.take 5) (by rw[List.length_take,h.L];rfl) (fun i=>by
    rw[List.getD_eq_getElem?_getD]
    cases e:(p.L.take 5)[i]? with
    |none=>decide
    |some x=>exact h.L8 x (List.mem_of_mem_take (List.mem_of_getElem? e)))
  rw[Qow]at hev
  have hat:∀{k},k<147->(plnC p)[k]?=some (.int .u8 ((p.L.getD k 0:Nat):Int)):=fun hk=>Qps h hk
  have a5:=hat (k:=5) (by omega)
  have a90:=hat (k:=90) (by omega)
  have a147:(plnC p)[147]?=some (.fsl (u8s p.X) p.xn 4):=QdY h (k:=0)
  have aF:∀i,i<3->(plnC p)[148+i]?=some (.int .i8 (pF p i)):=by
    intro i hi
    have:i=0\/i=1\/i=2:=by omega
    rcases this with rfl|rfl|rfl
    · exact QdY h (k:=1)
    · exact QdY h (k:=2)
    · exact QdY h (k:=3)
  have a151:(plnC p)[151]?=some (.int .i8 p.bd):=QdY h (k:=4)
  have hgr:∀{k},k+27<=147->((plnC p).drop k).take 27=_:=fun hk=>Qpt h hk
  show wS _ _ _ _ _ (argT 0 [.agg (plnC p)]) _ _
  generalize plnC p=C at*
  have htm:((p.L.getD 5 0:Nat):Int).tmod 3=((p.L.getD 5 0 % 3:Nat):Int):=by rw[Int.tmod_eq_emod_of_nonneg (Int.natCast_nonneg _)];norm_cast
  have hn:(1:Int)+((p.L.getD 5 0 % 3:Nat):Int)=(pN p:Int):=by unfold pN;omega
  have hn3:=@pN_le p
  simp(disch:=first|omega|(simp only[lenW]<;>omega)) only[s42,hlen,hone,h5,Bool.not_eq_true,wW,wV,simprocAttr]
  refine cp hev ?_
  simp(disch:=first|omega|(simp only[lenW]<;>omega)) only[a5,htm,hn,Bool.not_eq_true,wW,wV,simprocAttr]
  refine Qaw 100 (fun i:Nat=>[(1,.ptr 50 0 0),(2,.ptr 51 0 0),(3,.ptr 52 0 0),(4,.ptr 75 0 0),(5,.int .i64 (pN p:Int)),(26,.int .i64 (pN p:Int)),(27,.int .i64 i)])
    (fun i=>[(50,.cells 0 C),(51,.cells 0 [.nilsl,.nilsl,.nilsl,.nilsl,.nilsl]),(52,.cells 0 [evsV (fun i=>evOf ((p.L.take 5).getD i 0)),.sl 76 0 0 (pCs p i).length 5,.nilsl,.nilsl,.nilsl]),(75,.cells 0 [ST.allV (pAll p i)]),(76,.cells 0 ((pCs p i).flatMap (itC 99)))])
    (fun i=>i<=pN p) (fun i=>pN p-i) 0 0 200
    (fun _:Unit=>[(1,.ptr 50 0 0),(2,.ptr 51 0 0),(3,.ptr 52 0 0),(4,.ptr 75 0 0),(5,.int .i64 (pN p:Int))])
    (fun _=>[(50,.cells 0 C),(51,.cells 0 [.nilsl,.nilsl,.nilsl,.nilsl,.nilsl]),(52,.cells 0 [evsV (fun i=>evOf ((p.L.take 5).getD i 0)),its 99 (pCs p (pN p)),.nilsl,.nilsl,.nilsl]),(75,.cells 0 [sliN (ST.bitsL (pAll p (pN p)))])]) (fun _=>True) ?_ (Nat.zero_le _) ?_ ?_
  · refine ⟨[(50, .blk 40 0), (51, .blk 41 0), (52, .blk 46 0), (75, .blk 48 0), (76, .nil)], rfl, au0, ?_, au15⟩
    exact RB.cells rfl rfl gg (RnL.same hnr) (RB.cells rfl rfl gg (RnL.same rfl) (RB.cells rfl rfl gg (RnL.cons (Rn.same rfl) (RnL.cons (Rn.x4 rfl rfl) (RnL.same rfl))) (RB.cells rfl rfl gg (RnL.same rfl) (RB.newnil rfl rfl RB.nil))))
  · rintro i hi
    by_cases hlt:i<pN p
    · have hi3 : (i : Int) < 3 := by omega
      have a6:=hat (k:=6+i) (by omega)
      have hE:=events16 (p.L.getD (6+i) 0) (L_lt h _)
      have hU:=ST.union90 (a:=pAll p i) (b:=p.L.getD (6+i) 0) QkU
      have hg:=hgr (k:=9+i*27) (by omega)
      have hG:=graph91 (SD.part 5 (p.L.getD (6+i) 0)) (p.L.getD (9+i*27) 0) (p.L.getD (9+i*27+1) 0) ((p.L.drop (9+i*27+2)).take 25) (QcL _ _) partLt (L_lt h _) (L_lt h _) (by rw[List.length_take,List.length_drop,h.L];omega) (fun x hx=>h.L8 x (List.mem_of_mem_drop (List.mem_of_mem_take hx)))
      have hA:mkA (SD.part 5 (p.L.getD (6+i) 0)) (p.L.getD (9+i*27) 0 % 3) (p.L.getD (9+i*27+1) 0) ((p.L.drop (9+i*27+2)).take 25)=pA p i:=rfl
      rw[hA]at hG
      have hB:pAll p i|||p.L.getD (6+i) 0 % 32=pAll p (i+1):=rfl
      rw[hB]at hU
      have hsuc:=@QnH p i
      have hil:=@QcW 99 (pCs p i)
      have hpl:=@Qg3 p i
      simp(disch:=first|omega|(simp only[lenW]<;>omega)) only[hlt,hi3,a6,hlen,Bool.not_eq_true,wW,wV,simprocAttr]
      refine cp hE ?_
      simp(disch:=first|omega|(simp only[lenW]<;>omega)) only[Bool.not_eq_true,wW,wV,simprocAttr]
      refine cp hU ?_
      have hs:=Qek (i:=i) (by omega)
      have hg27:9+i*27+27<=152:=by omega
      simp(disch:=first|omega|(simp only[lenW]<;>omega)) only[hlt,hi3,hlen,hs,Qdk,Qly,QnJ,hg27,hg,Bool.not_eq_true,wW,wV,simprocAttr]
      refine cp hG ?_
      simp(disch:=first|omega|(simp only[lenW]<;>omega)) only[hil,hpl,Bool.not_eq_true,wW,wV,simprocAttr]
      refine⟨i+1,by omega,by omega,?_⟩
      rw[hsuc,List.flatMap_append,List.length_append,hpl,QmU]
      refine⟨[(50,.blk 50 0),(51,.blk 51 0),(52,.blk 52 0),(75,.blk 75 0),(76,.blk 76 1)],rfl,au0,?_,au15⟩
      exact RB.cells rfl rfl gg (RnL.same hnr) (RB.cells rfl rfl gg (RnL.same rfl) (RB.cells rfl rfl gg (RnL.cons (Rn.same rfl) (RnL.cons (Rn.x1 rfl rfl) (RnL.same rfl))) (RB.cells rfl rfl gg (RnL.same (Qj4 _)) (RB.cells rfl rfl gg (RnL.same (QaV (Qbu _) Qc0)) RB.nil))))
    · have e : i = pN p := by omega
      subst e
      have hil:=@QcW 99 (pCs p (pN p))
      have hpl:=@Qg3 p (pN p)
      simp(disch:=first|omega|(simp only[lenW]<;>omega)) only[hlt,Bool.not_eq_true,wW,wV,simprocAttr]
      refine⟨(),?_⟩
      refine⟨[(50,.blk 50 0),(51,.blk 51 0),(52,.blk 52 0),(75,.blk 75 0)],rfl,au0,?_,au15⟩
      refine RB.cells rfl rfl gg (RnL.same hnr) (RB.cells rfl rfl gg (RnL.same rfl) (RB.cells rfl rfl gg (RnL.cons (Rn.same rfl) (RnL.cons (Rn.fzm rfl rfl rfl rfl (QcW _) (RnL.same (Qbu _))) (RnL.same rfl))) (RB.cells rfl rfl gg (RnL.cons ?_ RnL.nil) RB.nil)))
      unfold ST.allV
      split
      · rename_i h0;rw[h0];exact Rn.nilK
      · exact Rn.same (Qab _)
  rintro _ _
  have htm90:((p.L.getD 90 0:Nat):Int).tmod 3=(pM p:Int):=by rw[Int.tmod_eq_emod_of_nonneg (Int.natCast_nonneg _)];unfold pM;norm_cast
  have hm2:=@pM_le p
  simp(disch:=first|omega|(simp only[lenW]<;>omega)) only[a90,htm90,Bool.not_eq_true,wW,wV,simprocAttr]
  refine Qaw 100 (fun i:Nat=>[(1,.ptr 50 0 0),(2,.ptr 51 0 0),(3,.ptr 52 0 0),(4,.ptr 75 0 0),(5,.int .i64 (pN p:Int)),(59,.int .i64 (pM p:Int)),(60,.int .i64 i)])
    (fun i=>[(50,.cells 0 C),(51,.cells 0 [.nilsl,.nilsl,.nilsl,.nilsl,.nilsl]),(52,.cells 0 [evsV (fun i=>evOf ((p.L.take 5).getD i 0)),its 99 (pCs p (pN p)),.sl 77 0 0 (pRs p i).length 5,.nilsl,.nilsl]),(75,.cells 0 [sliN (ST.bitsL (pAll p (pN p)))]),(77,.cells 0 ((pRs p i).flatMap (itC 114)))])
    (fun i=>i<=pM p) (fun i=>pM p-i) 0 2 200
    (fun _:Unit=>[(1,.ptr 50 0 0),(2,.ptr 51 0 0),(3,.ptr 52 0 0),(5,.int .i64 (pN p:Int))])
    (fun _=>[(50,.cells 0 C),(51,.cells 0 [.nilsl,.nilsl,.nilsl,.nilsl,.nilsl]),(52,.cells 0 [evsV (fun i=>evOf ((p.L.take 5).getD i 0)),its 99 (pCs p (pN p)),its 114 (pRs p (pM p)),.nilsl,.nilsl])]) (fun _=>True) ?_ (Nat.zero_le _) ?_ ?_
  · refine ⟨[(50, .blk 50 0), (51, .blk 51 0), (52, .blk 52 0), (75, .blk 75 0), (77, .nil)], rfl, au0, ?_, au15⟩
    exact RB.cells rfl rfl gg (RnL.same hnr) (RB.cells rfl rfl gg (RnL.same rfl) (RB.cells rfl rfl gg (RnL.cons (Rn.same rfl) (RnL.cons (Rn.same (Qat _)) (RnL.cons (Rn.x4 rfl rfl) (RnL.same rfl)))) (RB.cells rfl rfl gg (RnL.cons (Rn.same (Qab _)) RnL.nil) (RB.newnil rfl rfl RB.nil))))
  · rintro i hi
    by_cases hlt:i<pM p
    · have hi3 : (i : Int) < 2 := by omega
      have a6:=hat (k:=91+i) (by omega)
      have hE:=events89 (p.L.getD (91+i) 0) (L_lt h _)
      have hg:=hgr (k:=93+i*27) (by omega)
      have hG:=graph91 (pW p i) (p.L.getD (93+i*27) 0) (p.L.getD (93+i*27+1) 0) ((p.L.drop (93+i*27+2)).take 25) (Qh3 _) (pW_lt _) (L_lt h _) (L_lt h _) (by rw[List.length_take,List.length_drop,h.L];omega) (fun x hx=>h.L8 x (List.mem_of_mem_drop (List.mem_of_mem_take hx)))
      have hA:mkA (pW p i) (p.L.getD (93+i*27) 0 % 3) (p.L.getD (93+i*27+1) 0) ((p.L.drop (93+i*27+2)).take 25)=pR p i:=rfl
      rw[hA]at hG
      have hsuc:=@QnI p i
      have hil:=@QcW 114 (pRs p i)
      have hpl:=@QkT p i
      have hs:=Qek (i:=i) (by omega)
      have hg27:93+i*27+27<=152:=by omega
      have hW:fltN (ST.bitsL (pAll p (pN p))) (SD.part 5 (p.L.getD (91+i) 0))=pW p i:=Qox
      have hbl:(ST.bitsL (pAll p (pN p))).length<=1000000:=Nat.le_trans (QcE (i:=5)) (by decide)
      have hpl5:(SD.part 5 (p.L.getD (91+i) 0)).length<=1000000:=Nat.le_trans (QcE (i:=5)) (by decide)
      generalize ST.bitsL (pAll p (pN p))=A at*
      simp(disch:=first|omega|(simp only[lenW]<;>omega)) only[hlt,hi3,a6,hlen,Bool.not_eq_true,wW,wV,simprocAttr]
      refine ch (HSpec.of_O (b:=98) (by(try simp only[noRefs,Qaa,Qau,noRef,noRefs,Qab,QaL,Bool.and_self,Bool.and_true])<;>rfl) hE (by repeat (first|exact Fresh.e|exact Fresh.le (by assumption) (by omega)|refine Fresh.set ?_ (by omega) (by omega))) rfl) ?_
      simp(disch:=first|omega|(simp only[lenW]<;>omega)) only[Bool.not_eq_true,wW,wV,simprocAttr]
      refine chc (del40F hbl hpl5 gg gg) ?_
      rw[hW]
      simp(disch:=first|omega|(simp only[lenW]<;>omega)) only[hlt,hi3,hlen,hs,hg27,hg,Bool.not_eq_true,wW,wV,simprocAttr]
      refine cp hG ?_
      simp(disch:=first|omega|(simp only[lenW]<;>omega)) only[hil,hpl,Bool.not_eq_true,wW,wV,simprocAttr]
      refine⟨i+1,by omega,by omega,?_⟩
      rw[hsuc,List.flatMap_append,List.length_append,hpl,QmU]
      refine⟨[(50,.blk 50 0),(51,.blk 51 0),(52,.blk 52 0),(75,.blk 75 0),(77,.blk 77 1)],rfl,au0,?_,au15⟩
      exact RB.cells rfl rfl gg (RnL.same hnr) (RB.cells rfl rfl gg (RnL.same rfl) (RB.cells rfl rfl gg (RnL.cons (Rn.same rfl) (RnL.cons (Rn.same (Qat _)) (RnL.cons (Rn.x1 rfl rfl) (RnL.same rfl)))) (RB.cells rfl rfl gg (RnL.cons (Rn.same (Qab _)) RnL.nil) (RB.cells rfl rfl gg (RnL.same (QaV (Qbu _) Qc0)) RB.nil))))
    · have e : i = pM p := by omega
      subst e
      have hil:=@QcW 114 (pRs p (pM p))
      have hpl:=@QkT p (pM p)
      simp(disch:=first|omega|(simp only[lenW]<;>omega)) only[hlt,Bool.not_eq_true,wW,wV,simprocAttr]
      refine⟨(),?_⟩
      refine⟨[(50,.blk 50 0),(51,.blk 51 0),(52,.blk 52 0)],rfl,au0,?_,au15⟩
      exact RB.cells rfl rfl gg (RnL.same hnr) (RB.cells rfl rfl gg (RnL.same rfl) (RB.cells rfl rfl gg (RnL.cons (Rn.same rfl) (RnL.cons (Rn.same (Qat _)) (RnL.cons (Rn.fzm rfl rfl rfl rfl (QcW _) (RnL.same (Qbu _))) (RnL.same rfl)))) RB.nil))
  rintro _ _
  simp(disch:=first|omega|(simp only[lenW]<;>omega)) only[a147,Bool.not_eq_true,wW,wV,simprocAttr]
  refine Qaw 100 (fun i:Nat=>[(1,.ptr 50 0 0),(2,.ptr 51 0 0),(3,.ptr 52 0 0),(5,.int .i64 (pN p:Int)),(89,.fsl (u8s p.X) p.xn 4),(90,.int .i64 (p.xn:Int)),(91,.int .i64 i)])
    (fun i=>[(50,.cells 0 C),(51,.cells 0 [.nilsl,.nilsl,.nilsl,.nilsl,.nilsl]),(52,.cells 0 [evsV (fun i=>evOf ((p.L.take 5).getD i 0)),its 99 (pCs p (pN p)),its 114 (pRs p (pM p)),.sl 78 0 0 (pXs p i).length 2,.nilsl]),(78,.cells 0 ((pXs p i).flatMap exC))])
    (fun i=>i<=p.xn/\i<=2) (fun i=>p.xn-i) 0 4 200
    (fun _:Unit=>[(1,.ptr 50 0 0),(2,.ptr 51 0 0),(3,.ptr 52 0 0),(5,.int .i64 (pN p:Int))])
    (fun _=>[(50,.cells 0 C),(51,.cells 0 [.nilsl,.nilsl,.nilsl,.nilsl,.nilsl]),(52,.cells 0 [evsV (fun i=>evOf ((p.L.take 5).getD i 0)),its 99 (pCs p (pN p)),its 114 (pRs p (pM p)),exs (pXs p (min p.xn 2)),.nilsl])]) (fun _=>True) ?_ ⟨Nat.zero_le _,Nat.zero_le _⟩ ?_ ?_
  · refine ⟨[(50, .blk 50 0), (51, .blk 51 0), (52, .blk 52 0), (78, .nil)], rfl, au0, ?_, au15⟩
    exact RB.cells rfl rfl gg (RnL.same hnr) (RB.cells rfl rfl gg (RnL.same rfl) (RB.cells rfl rfl gg (RnL.cons (Rn.same rfl) (RnL.cons (Rn.same (Qat _)) (RnL.cons (Rn.same (Qat _)) (RnL.cons (Rn.x4 rfl rfl) (RnL.same rfl))))) (RB.newnil rfl rfl RB.nil)))
  · rintro i ⟨hi, hi2⟩
    have hxl:=@QdZ (pXs p i)
    have hxx:=@QgY p i
    by_cases hlt:i<p.xn
    · have hX := h.X
      have h4:=Qoy (X:=p.X) (i:=i) (by omega)
      have hul:i*4+4<=(u8s p.X).length:=by rw[Qci,hX];omega
      have hdl:4<=((u8s p.X).drop (i*4)).length:=by rw[List.length_drop];omega
      by_cases h2:i=2
      · subst h2
        have hi2':(2:Int)<(p.xn:Int):=by omega
        simp(disch:=first|omega|(simp only[lenW]<;>omega)) only[hlt,h4,hdl,hi2',Bool.not_eq_true,wW,wV,simprocAttr]
        refine⟨(),?_⟩
        rw[show min p.xn 2=2 by omega]
        refine⟨[(50,.blk 50 0),(51,.blk 51 0),(52,.blk 52 0)],rfl,au0,?_,au15⟩
        exact RB.cells rfl rfl gg (RnL.same hnr) (RB.cells rfl rfl gg (RnL.same rfl) (RB.cells rfl rfl gg (RnL.cons (Rn.same rfl) (RnL.cons (Rn.same (Qat _)) (RnL.cons (Rn.same (Qat _)) (RnL.cons (Rn.fzm rfl rfl rfl rfl (QdZ _) (RnL.same (QaT _))) (RnL.same rfl))))) RB.nil))
      have h2':¬(i:Int)=2:=by omega
      have hs:=Qek (i:=i) (by omega)
      simp(disch:=first|omega|(simp only[lenW]<;>omega)) only[hlt,h4,hdl,h2',hs,Bool.not_eq_true,wW,wV,simprocAttr]
      obtain⟨Y,hYe⟩:∃Y,Y=[AV.int .u8 ((p.X.getD (i*4) 0:Nat):Int),.int .u8 ((p.X.getD (i*4+1) 0:Nat):Int),.int .u8 ((p.X.getD (i*4+2) 0:Nat):Int),.int .u8 ((p.X.getD (i*4+3) 0:Nat):Int)]:=⟨_,rfl⟩
      have hYn:noRefs Y=true:=by rw[hYe];rfl
      have hYk:∀k,k<3->Y[k]?=some (.int .u8 ((p.X.getD (i*4+k) 0:Nat):Int)):=by
        intro k hk
        have:k=0\/k=1\/k=2:=by omega
        rcases this with rfl|rfl|rfl<;>rw[hYe]<;>rfl
      have hpl:=@Qg3 p (pN p)
      have hilC:=@QcW 99 (pCs p (pN p))
      rw[<-hYe,hpl]
      refine Qaw 220 (fun k:Nat=>[(1,.ptr 50 0 0),(2,.ptr 51 0 0),(3,.ptr 52 0 0),(5,.int .i64 (pN p:Int)),(11,.ptr 60 0 0),(12,.ptr 61 0 0),(89,.fsl (u8s p.X) p.xn 4),(90,.int .i64 (p.xn:Int)),(91,.int .i64 i),(106,.int .i64 (pN p:Int)),(107,.int .i64 k)])
        (fun k=>[(50,.cells 0 C),(51,.cells 0 [.nilsl,.nilsl,.nilsl,.nilsl,.nilsl]),(52,.cells 0 [evsV (fun i=>evOf ((p.L.take 5).getD i 0)),its 99 (pCs p (pN p)),its 114 (pRs p (pM p)),.sl 78 0 0 (pXs p i).length 2,.nilsl]),(60,.cells 0 Y),(61,.cells 0 [.str [101,UInt8.ofNat (48+i)],.sl 79 0 0 (pLo p i k).length 2]),(78,.cells 0 ((pXs p i).flatMap exC)),(79,.cells 0 ((pLo p i k).flatMap loC))])
        (fun k=>k<=pN p) (fun k=>pN p-k) 0 6 300
        (fun _:Unit=>[(1,.ptr 50 0 0),(2,.ptr 51 0 0),(3,.ptr 52 0 0),(5,.int .i64 (pN p:Int)),(12,.ptr 61 0 0),(89,.fsl (u8s p.X) p.xn 4),(90,.int .i64 (p.xn:Int)),(91,.int .i64 i)])
        (fun _=>[(50,.cells 0 C),(51,.cells 0 [.nilsl,.nilsl,.nilsl,.nilsl,.nilsl]),(52,.cells 0 [evsV (fun i=>evOf ((p.L.take 5).getD i 0)),its 99 (pCs p (pN p)),its 114 (pRs p (pM p)),.sl 78 0 0 (pXs p i).length 2,.nilsl]),(61,.cells 0 [.str [101,UInt8.ofNat (48+i)],los (pLo p i (pN p))]),(78,.cells 0 ((pXs p i).flatMap exC))]) (fun _=>True) ?_ (Nat.zero_le _) ?_ ?_
      · refine ⟨[(50, .blk 50 0), (51, .blk 51 0), (52, .blk 52 0), (60, .blk 104 0), (61, .blk 115 0), (78, .blk 78 0), (79, .nil)], rfl, au0, ?_, au15⟩
        exact RB.cells rfl rfl gg (RnL.same hnr) (RB.cells rfl rfl gg (RnL.same rfl) (RB.cells rfl rfl gg (RnL.cons (Rn.same rfl) (RnL.cons (Rn.same (Qat _)) (RnL.cons (Rn.same (Qat _)) (RnL.cons (Rn.x1 rfl rfl) (RnL.same rfl))))) (RB.cells rfl rfl gg (RnL.same hYn) (RB.cells rfl rfl gg (RnL.cons (Rn.same rfl) (RnL.cons (Rn.x4 rfl rfl) RnL.nil)) (RB.cells rfl rfl gg (RnL.same (QaT _)) (RB.newnil rfl rfl RB.nil))))))
      · rintro k hk
        have hll:=@QgG (pLo p i k)
        have hlx:=@QgZ p i k
        by_cases hkl:k<pN p
        · have hk3 : (k : Int) < 4 := by omega
          have hck:=QmL (p:=p) hkl
          have hdr:=QeY (ch:=99) hck
          have hdl2:5<=(((pCs p (pN p)).flatMap (itC 99)).drop (k*5)).length:=by rw[hdr];simp
          have hy:=hYk k (by omega)
          have hx8:=X_lt h (i*4+k)
          have hn5:(pA p k).n<=3:=(pA_wf k).n3
          have hrm:((p.X.getD (i*4+k) 0:Nat):Int).tmod (((pA p k).n:Int)+2)=((p.X.getD (i*4+k) 0 % ((pA p k).n+2):Nat):Int):=by
            rw[Int.tmod_eq_emod_of_nonneg (Int.natCast_nonneg _)];norm_cast
          have hn0:¬((pA p k).n:Int)+2=0:=by omega
          have hxm:p.X.getD (i*4+k) 0 % ((pA p k).n+2)<=10:=by have:=Nat.mod_lt (p.X.getD (i*4+k) 0) (show 0<(pA p k).n+2 by omega);omega
          have hsuc:pLo p i (k+1)=if p.X.getD (i*4+k) 0 % ((pA p k).n+2)<(pA p k).n then pLo p i k++[(k,p.X.getD (i*4+k) 0 % ((pA p k).n+2))]else pLo p i k:=rfl
          by_cases ht:p.X.getD (i*4+k) 0 % ((pA p k).n+2)<(pA p k).n
          · rw [if_pos ht] at hsuc
            have hlo1:List.flatMap loC [(k,p.X.getD (i*4+k) 0 % ((pA p k).n+2))]=[.int .i64 (k:Int),.int .i64 ((p.X.getD (i*4+k) 0 % ((pA p k).n+2):Nat):Int)]:=rfl
            simp(disch:=first|omega|(simp only[lenW]<;>omega)) only[hkl,hk3,hdr,hdl2,hy,hrm,hn0,ht,hll,Bool.not_eq_true,wW,wV,simprocAttr]
            refine⟨k+1,by omega,by omega,?_⟩
            rw[hsuc,List.flatMap_append,List.length_append,hlo1]
            refine⟨[(50,.blk 50 0),(51,.blk 51 0),(52,.blk 52 0),(60,.blk 60 0),(61,.blk 61 0),(78,.blk 78 0),(79,.blk 79 1)],rfl,au0,?_,au15⟩
            exact RB.cells rfl rfl gg (RnL.same hnr) (RB.cells rfl rfl gg (RnL.same rfl) (RB.cells rfl rfl gg (RnL.cons (Rn.same rfl) (RnL.cons (Rn.same (Qat _)) (RnL.cons (Rn.same (Qat _)) (RnL.cons (Rn.x1 rfl rfl) (RnL.same rfl))))) (RB.cells rfl rfl gg (RnL.same hYn) (RB.cells rfl rfl gg (RnL.cons (Rn.same rfl) (RnL.cons (Rn.x1 rfl rfl) RnL.nil)) (RB.cells rfl rfl gg (RnL.same (QaT _)) (RB.cells rfl rfl gg (RnL.same (QaV (QbE _) rfl)) RB.nil))))))
          · rw [if_neg ht] at hsuc
            simp(disch:=first|omega|(simp only[lenW]<;>omega)) only[hkl,hk3,hdr,hdl2,hy,hrm,hn0,ht,hll,Bool.not_eq_true,wW,wV,simprocAttr]
            refine⟨k+1,by omega,by omega,?_⟩
            rw[hsuc]
            refine⟨[(50,.blk 50 0),(51,.blk 51 0),(52,.blk 52 0),(60,.blk 60 0),(61,.blk 61 0),(78,.blk 78 0),(79,.blk 79 0)],rfl,au0,?_,au15⟩
            exact RB.cells rfl rfl gg (RnL.same hnr) (RB.cells rfl rfl gg (RnL.same rfl) (RB.cells rfl rfl gg (RnL.cons (Rn.same rfl) (RnL.cons (Rn.same (Qat _)) (RnL.cons (Rn.same (Qat _)) (RnL.cons (Rn.x1 rfl rfl) (RnL.same rfl))))) (RB.cells rfl rfl gg (RnL.same hYn) (RB.cells rfl rfl gg (RnL.cons (Rn.same rfl) (RnL.cons (Rn.x1 rfl rfl) RnL.nil)) (RB.cells rfl rfl gg (RnL.same (QaT _)) (RB.cells rfl rfl gg (RnL.same (QbE _)) RB.nil))))))
        · have e : k = pN p := by omega
          subst e
          simp(disch:=first|omega|(simp only[lenW]<;>omega)) only[hkl,Bool.not_eq_true,wW,wV,simprocAttr]
          refine⟨(),?_⟩
          refine⟨[(50,.blk 50 0),(51,.blk 51 0),(52,.blk 52 0),(61,.blk 61 0),(78,.blk 78 0)],rfl,au0,?_,au15⟩
          exact RB.cells rfl rfl gg (RnL.same hnr) (RB.cells rfl rfl gg (RnL.same rfl) (RB.cells rfl rfl gg (RnL.cons (Rn.same rfl) (RnL.cons (Rn.same (Qat _)) (RnL.cons (Rn.same (Qat _)) (RnL.cons (Rn.x1 rfl rfl) (RnL.same rfl))))) (RB.cells rfl rfl gg (RnL.cons (Rn.same rfl) (RnL.cons (Rn.fzm rfl rfl rfl rfl (QgG _) (RnL.same (QbE _))) RnL.nil)) (RB.cells rfl rfl gg (RnL.same (QaT _)) RB.nil))))
      rintro _ _
      have hsuc:pXs p (i+1)=if 0<(pLo p i (pN p)).length then pXs p i++[(i,pLo p i (pN p))]else pXs p i:=rfl
      have hlx:=@QgZ p i (pN p)
      by_cases h0:0<(pLo p i (pN p)).length
      · rw [if_pos h0] at hsuc
        have hex1:List.flatMap exC [(i,pLo p i (pN p))]=[.str [101,UInt8.ofNat (48+i)],los (pLo p i (pN p))]:=rfl
        simp(disch:=first|omega|(simp only[lenW]<;>omega)) only[h0,hxl,Bool.not_eq_true,wW,wV,simprocAttr]
        refine⟨i+1,by omega,⟨by omega,by omega⟩,?_⟩
        rw[hsuc,List.flatMap_append,List.length_append,hex1]
        refine⟨[(50,.blk 50 0),(51,.blk 51 0),(52,.blk 52 0),(78,.blk 78 1)],rfl,au0,?_,au15⟩
        exact RB.cells rfl rfl gg (RnL.same hnr) (RB.cells rfl rfl gg (RnL.same rfl) (RB.cells rfl rfl gg (RnL.cons (Rn.same rfl) (RnL.cons (Rn.same (Qat _)) (RnL.cons (Rn.same (Qat _)) (RnL.cons (Rn.x1 rfl rfl) (RnL.same rfl))))) (RB.cells rfl rfl gg (RnL.same (QaV (QaT _) (by simp only[noRefs,noRef,QbE];rfl))) RB.nil)))
      · rw [if_neg h0] at hsuc
        simp(disch:=first|omega|(simp only[lenW]<;>omega)) only[h0,hxl,Bool.not_eq_true,wW,wV,simprocAttr]
        refine⟨i+1,by omega,⟨by omega,by omega⟩,?_⟩
        rw[hsuc]
        refine⟨[(50,.blk 50 0),(51,.blk 51 0),(52,.blk 52 0),(78,.blk 78 0)],rfl,au0,?_,au15⟩
        exact RB.cells rfl rfl gg (RnL.same hnr) (RB.cells rfl rfl gg (RnL.same rfl) (RB.cells rfl rfl gg (RnL.cons (Rn.same rfl) (RnL.cons (Rn.same (Qat _)) (RnL.cons (Rn.same (Qat _)) (RnL.cons (Rn.x1 rfl rfl) (RnL.same rfl))))) (RB.cells rfl rfl gg (RnL.same (QaT _)) RB.nil)))
    · have e : i = p.xn := by omega
      subst e
      simp(disch:=first|omega|(simp only[lenW]<;>omega)) only[hlt,Bool.not_eq_true,wW,wV,simprocAttr]
      refine⟨(),?_⟩
      rw[show min p.xn 2=p.xn by omega]
      refine⟨[(50,.blk 50 0),(51,.blk 51 0),(52,.blk 52 0)],rfl,au0,?_,au15⟩
      exact RB.cells rfl rfl gg (RnL.same hnr) (RB.cells rfl rfl gg (RnL.same rfl) (RB.cells rfl rfl gg (RnL.cons (Rn.same rfl) (RnL.cons (Rn.same (Qat _)) (RnL.cons (Rn.same (Qat _)) (RnL.cons (Rn.fzm rfl rfl rfl rfl (QdZ _) (RnL.same (QaT _))) (RnL.same rfl))))) RB.nil))
  rintro _ _
  have hb1:=Int.lt_tmod_of_pos p.bd (show(0:Int)<8 by decide)
  have hb2:=Int.tmod_lt_of_pos p.bd (show(0:Int)<8 by decide)
  have hbd:=h.bd
  have hf0:=h.f0
  have hf1:=h.f1
  have hf2:=h.f2
  simp(disch:=first|omega|(simp only[lenW]<;>omega)) only[a151,Bool.not_eq_true,wW,wV,simprocAttr]
  refine Qaw 240 (fun i:Nat=>[(1,.ptr 50 0 0),(2,.ptr 51 0 0),(3,.ptr 52 0 0),(15,.ptr 62 0 0),(157,.int .i64 (pN p:Int)),(158,.int .i64 i)])
    (fun i=>[(50,.cells 0 C),(51,.cells 0 [.nilsl,.nilsl,.nilsl,.nilsl,.nilsl]),(52,.cells 0 [evsV (fun i=>evOf ((p.L.take 5).getD i 0)),its 99 (pCs p (pN p)),its 114 (pRs p (pM p)),exs (pXs p (min p.xn 2)),.nilsl]),(62,.cells 0 [.str [107],.sl 97 0 0 (pT p i).length 2,.int .i64 (p.bd.tmod 8)]),(97,.cells 0 ((pT p i).flatMap teC))])
    (fun i=>i<=pN p) (fun i=>pN p-i) 0 8 300
    (fun _:Unit=>[(2,.ptr 51 0 0),(3,.ptr 52 0 0),(15,.ptr 62 0 0)])
    (fun _=>[(51,.cells 0 [.nilsl,.nilsl,.nilsl,.nilsl,.nilsl]),(52,.cells 0 [evsV (fun i=>evOf ((p.L.take 5).getD i 0)),its 99 (pCs p (pN p)),its 114 (pRs p (pM p)),exs (pXs p (min p.xn 2)),.nilsl]),(62,.cells 0 [.str [107],.sl 97 0 0 (pT p (pN p)).length 2,.int .i64 (p.bd.tmod 8)]),(97,.cells 0 ((pT p (pN p)).flatMap teC))]) (fun _=>True) ?_ (Nat.zero_le _) ?_ ?_
  · refine ⟨[(50, .blk 50 0), (51, .blk 51 0), (52, .blk 52 0), (62, .blk 205 0), (97, .nil)], rfl, au0, ?_, au15⟩
    exact RB.cells rfl rfl gg (RnL.same hnr) (RB.cells rfl rfl gg (RnL.same rfl) (RB.cells rfl rfl gg (RnL.cons (Rn.same rfl) (RnL.cons (Rn.same (Qat _)) (RnL.cons (Rn.same (Qat _)) (RnL.cons (Rn.same (Qbe _)) (RnL.same rfl))))) (RB.cells rfl rfl gg (RnL.cons (Rn.same rfl) (RnL.cons (Rn.x4 rfl rfl) (RnL.same rfl))) (RB.newnil rfl rfl RB.nil))))
  · rintro i hi
    have htl:=@QcU (pT p i)
    have htx:=@Qjv p i
    by_cases hlt:i<pN p
    · have hi3 : (i : Int) < 3 := by omega
      have ha:=aF i (by omega)
      have hFb: -128<=pF p i/\pF p i<128:=pF_lt h i
      have hsuc:pT p (i+1)=if pF p i=0 then pT p i else pT p i++[(i,(pF p i).tmod 4)]:=rfl
      by_cases h0:pF p i=0
      · rw [if_pos h0] at hsuc
        simp(disch:=first|omega|(simp only[lenW]<;>omega)) only[hlt,hi3,hlen,ha,h0,Bool.not_eq_true,wW,wV,simprocAttr]
        refine⟨i+1,by omega,by omega,?_⟩
        rw[hsuc]
        refine⟨[(50,.blk 50 0),(51,.blk 51 0),(52,.blk 52 0),(62,.blk 62 0),(97,.blk 97 0)],rfl,au0,?_,au15⟩
        exact RB.cells rfl rfl gg (RnL.same hnr) (RB.cells rfl rfl gg (RnL.same rfl) (RB.cells rfl rfl gg (RnL.cons (Rn.same rfl) (RnL.cons (Rn.same (Qat _)) (RnL.cons (Rn.same (Qat _)) (RnL.cons (Rn.same (Qbe _)) (RnL.same rfl))))) (RB.cells rfl rfl gg (RnL.cons (Rn.same rfl) (RnL.cons (Rn.x1 rfl rfl) (RnL.same rfl))) (RB.cells rfl rfl gg (RnL.same (QaL _)) RB.nil))))
      · rw [if_neg h0] at hsuc
        have hte1:List.flatMap teC [(i,(pF p i).tmod 4)]=[.int .i64 (i:Int),.int .i64 ((pF p i).tmod 4)]:=rfl
        simp(disch:=first|omega|(simp only[lenW]<;>omega)) only[hlt,hi3,hlen,ha,h0,htl,Bool.not_eq_true,wW,wV,simprocAttr]
        refine⟨i+1,by omega,by omega,?_⟩
        rw[hsuc,List.flatMap_append,List.length_append,hte1]
        refine⟨[(50,.blk 50 0),(51,.blk 51 0),(52,.blk 52 0),(62,.blk 62 0),(97,.blk 97 1)],rfl,au0,?_,au15⟩
        exact RB.cells rfl rfl gg (RnL.same hnr) (RB.cells rfl rfl gg (RnL.same rfl) (RB.cells rfl rfl gg (RnL.cons (Rn.same rfl) (RnL.cons (Rn.same (Qat _)) (RnL.cons (Rn.same (Qat _)) (RnL.cons (Rn.same (Qbe _)) (RnL.same rfl))))) (RB.cells rfl rfl gg (RnL.cons (Rn.same rfl) (RnL.cons (Rn.x1 rfl rfl) (RnL.same rfl))) (RB.cells rfl rfl gg (RnL.same (QaV (QaL _) rfl)) RB.nil))))
    · have e : i = pN p := by omega
      subst e
      simp(disch:=first|omega|(simp only[lenW]<;>omega)) only[hlt,Bool.not_eq_true,wW,wV,simprocAttr]
      refine⟨(),?_⟩
      refine⟨[(51,.blk 51 0),(52,.blk 52 0),(62,.blk 62 0),(97,.blk 97 0)],rfl,au0,?_,au15⟩
      exact RB.cells rfl rfl gg (RnL.same rfl) (RB.cells rfl rfl gg (RnL.cons (Rn.same rfl) (RnL.cons (Rn.same (Qat _)) (RnL.cons (Rn.same (Qat _)) (RnL.cons (Rn.same (Qbe _)) (RnL.same rfl))))) (RB.cells rfl rfl gg (RnL.cons (Rn.same rfl) (RnL.cons (Rn.x1 rfl rfl) (RnL.same rfl))) (RB.cells rfl rfl gg (RnL.same (QaL _)) RB.nil)))
  rintro _ _
  have hT0:flt0 (pT p (pN p))=pT0 p:=rfl
  have hpt:=@Qjv p (pN p)
  simp(disch:=first|omega|(simp only[lenW]<;>omega)) only[Bool.not_eq_true,wW,wV,simprocAttr]
  refine chc (del93F (l:=pT p (pN p)) (by omega) gg) ?_
  rw[hT0]
  have htl0:(pT0 p).length<=3:=Nat.le_trans (List.length_filter_le _ _) (by omega)
  by_cases h0:0<(pT0 p).length
  · have hks : pKs p = [(pT0 p, p.bd.tmod 8)] := if_pos h0
    simp(disch:=first|omega|(simp only[lenW]<;>omega)) only[h0,Bool.not_eq_true,wW,wV,simprocAttr]
    refine⟨.inr trivial,_,rfl,?_⟩
    refine Rn.agg (RnL.cons (Rn.same rfl) (RnL.cons (Rn.same (Qat _)) (RnL.cons (Rn.same (Qat _)) (RnL.cons (Rn.same (Qbe _)) (RnL.cons ?_ RnL.nil)))))
    show Rn 0 π0 _ (cos (pKs p)) _
    rw[hks]
    exact Rn.fz0 (b:=310) rfl rfl (RnL.cons (Rn.same rfl) (RnL.cons (Rn.same (QcV _)) (RnL.cons (Rn.same rfl) RnL.nil)))
  · have hks : pKs p = [] := if_neg h0
    simp(disch:=first|omega|(simp only[lenW]<;>omega)) only[h0,Bool.not_eq_true,wW,wV,simprocAttr]
    refine⟨.inr trivial,_,rfl,?_⟩
    refine Rn.agg (RnL.cons (Rn.same rfl) (RnL.cons (Rn.same (Qat _)) (RnL.cons (Rn.same (Qat _)) (RnL.cons (Rn.same (Qbe _)) (RnL.cons ?_ RnL.nil)))))
    show Rn 0 π0 _ (cos (pKs p)) _
    rw[hks]
    exact Rn.nilK
end Go.AM.SU
namespace Go.AM.SN
open Go.Proofs Go.AM.SD Go.AM.SE Go.AM.SO
noncomputable section
def is0:AV->Bool| .int .i64 n=>decide (n=0)|_=>false
theorem Qpu:∀u,is0 u=true->u= .int .i64 0:=by
 intro u h
 unfold is0 at h
 grind
def nameR (s:List UInt8) (f:Nat) (X K:AV) (i:Int):Bool:=callR ansB noOrc SK.ft.get (exR ansB noOrc SK.ft.get 1000) (.c .pure) 197 [.str s,.fn f [] [.fptr [.any,X,K],.fptr [.int .i64 i]]] .e 64 (fun u _ _=>is0 u)
theorem QnK {s:List UInt8} {f:Nat} {X K:AV} {i:Int} (h:nameR s f X K i=true):PSpec Tryz.prog 197 [.str s,.fn f [] [.fptr [.any,X,K],.fptr [.int .i64 i]]] (.int .i64 0):=
 QbJ (t:=SK.ft) SK.ft_ok Qds (d:=1000) is0 Qpu h
theorem e0_1:nameR [101,48] 196 (.fsl [.str [101,48],.any] 1 2) .any 0=true:=by kernel_rfl
theorem e1_1:nameR [101,49] 196 (.fsl [.str [101,49],.any] 1 2) .any 0=true:=by kernel_rfl
theorem e0_2:nameR [101,48] 196 (.fsl [.str [101,48],.any,.str [101,49],.any] 2 2) .any 0=true:=by kernel_rfl
theorem e1_2a:nameR [101,49] 196 (.fsl [.str [101,48],.fsl [.any,.any] 1 2,.str [101,49],.any] 2 2) .any 1=true:=by kernel_rfl
theorem e1_2b:nameR [101,49] 196 (.fsl [.str [101,48],.fsl [.any,.any,.any,.any] 2 2,.str [101,49],.any] 2 2) .any 1=true:=by kernel_rfl
theorem e1_2c:nameR [101,49] 196 (.fsl [.str [101,48],.fsl [.any,.any,.any,.any,.any,.any] 3 2,.str [101,49],.any] 2 2) .any 1=true:=by kernel_rfl
theorem k_1:nameR [107] 199 .any (.fsl [.str [107],.any,.any] 1 3) 0=true:=by kernel_rfl
def Wk (x y:AV):Prop:=∀(ok:Okc) (c:Ctx ok) (w:World) (v:Value),VRel c w x v->VRel c w y v
def WkL:List AV->List AV->Prop
 |[],[]=>True
 |x::xs,y::ys=>Wk x y/\WkL xs ys
 |_,_=>False
theorem Wk.refl (x:AV):Wk x x:=fun _ _ _ _ h=>h
theorem Wk.any {x:AV}:Wk x .any:=fun _ _ _ _ _=>by simp[VRel]
theorem WkL.rels {ok:Okc} {c:Ctx ok} {w:World}:∀{xs ys:List AV} {vs:List Value},WkL xs ys->VRels c w xs vs->VRels c w ys vs
 |[],[],_,_,hv=>hv
 |[],_::_,_,h,_=>h.elim
 |_::_,[],_,h,_=>h.elim
 |x::xs,y::ys,vs,h,hv=>by
  simp only[VRels]at hv⊢
  obtain⟨v,vs',rfl,h1,h2⟩:=hv
  exact⟨v,vs',rfl,h.1 _ c w v h1,WkL.rels h.2 h2⟩
theorem WkL.pre {ok:Okc} {c:Ctx ok} {w:World}:∀{xs ys:List AV} {vs:List Value},WkL xs ys->VPre c w xs vs->VPre c w ys vs
 |[],[],_,_,hv=>hv
 |[],_::_,_,h,_=>h.elim
 |_::_,[],_,h,_=>h.elim
 |x::xs,y::ys,vs,h,hv=>by
  simp only[VPre]at hv⊢
  obtain⟨v,vs',rfl,h1,h2⟩:=hv
  exact⟨v,vs',rfl,h.1 _ c w v h1,WkL.pre h.2 h2⟩
theorem WkL.length:∀{xs ys:List AV},WkL xs ys->xs.length=ys.length
 |[],[],_=>rfl
 |[],_::_,h=>h.elim
 |_::_,[],h=>h.elim
 |x::xs,y::ys,h=>by simp[WkL.length h.2]
theorem Wk.fsl {cs ds:List AV} {len sz:Nat} (h:WkL cs ds):Wk (.fsl cs len sz) (.fsl ds len sz):=fun _ c w v hv=>by
 simp only[VRel]at hv⊢
 have hl:=h.length
 rcases hv with⟨h1,rfl,h2⟩|⟨cb,off,cap,C,e,fr,h1,h2,h3,h4,h5,h6⟩
 ·grind
 ·exact .inr ⟨cb,off,cap,C,e,fr,h1,h2,by omega,h4,h5,h.pre h6⟩
theorem Wk.fptr {cs ds:List AV} (h:WkL cs ds):Wk (.fptr cs) (.fptr ds):=fun _ c w v hv=>by
 simp only[VRel]at hv⊢
 obtain⟨cb,off,C,e,fr,h1,h2,h3,h4⟩:=hv
 exact⟨cb,off,C,e,fr,h1,h2,h3,h.pre h4⟩
theorem Wk.fn {f:Nat} {xs ys us vs:List AV} (h1:WkL xs ys) (h2:WkL us vs):Wk (.fn f xs us) (.fn f ys vs):=fun _ c w v hv=>by
 simp only[VRel]at hv⊢
 obtain⟨x',y',rfl,g1,g2⟩:=hv
 exact⟨x',y',rfl,h1.rels g1,h2.rels g2⟩
theorem PSpec.wk {f:Nat} {args bs:List AV} {v:AV} (hL:WkL args bs) (hn:noRefs args=true) (hp:PSpec Tryz.prog f bs v):PSpec Tryz.prog f args v:=SE.PSpec.weak (fun _ c w vs _ h=>hL.rels h) hn hp
theorem nameW {s:List UInt8} {f:Nat} {S X K X' K':AV} {i:Int} (h:nameR s f X' K' i=true) (hX:Wk X X') (hK:Wk K K') (hn:noRefs [S,X,K]=true):PSpec Tryz.prog 197 [.str s,.fn f [] [.fptr [S,X,K],.fptr [.int .i64 i]]] (.int .i64 0):=by
 refine PSpec.wk (bs:=[.str s,.fn f [] [.fptr [.any,X',K'],.fptr [.int .i64 i]]]) ⟨Wk.refl _,Wk.fn trivial ⟨Wk.fptr ⟨Wk.any,hX,hK,trivial⟩,Wk.refl _,trivial⟩,trivial⟩ ?_ (QnK h)
 simp_all [noRefs,noRef]
theorem nameX {S K:AV} {xs:List (Nat×List (Nat×Nat))} {i:Nat} {x:Nat×List (Nat×Nat)} (hx:xs[i]?=some x) (h2:xs.length<=2) (hs:(xs.map (·.1)).Pairwise (· < ·)) (hl:∀x∈xs,x.1<2) (hne:∀x∈xs,x.2≠[]/\x.2.length<=3) (hn:noRefs [S,exs xs,K]=true):
  PSpec Tryz.prog 197 [.str [101,UInt8.ofNat (48+x.1)],.fn 196 [] [.fptr [S,exs xs,K],.fptr [.int .i64 (i:Int)]]] (.int .i64 0):=by
 match xs,h2 with
 |[],_=>simp at hx
 | [(a, la)], _ =>
  have hi:i=0:=by
   grind
  subst hi
  simp at hx;subst hx
  have ha:=hl (a,la) (by simp)
  have:a=0\/a=1:=by omega
  rcases this with rfl|rfl
  ·exact nameW e0_1 (Wk.fsl ⟨Wk.refl _,Wk.any,trivial⟩) Wk.any hn
  ·exact nameW e1_1 (Wk.fsl ⟨Wk.refl _,Wk.any,trivial⟩) Wk.any hn
 | [(a, la), (b, lb)], _ =>
  have ha:=hl (a,la) (by simp)
  have hb:=hl (b,lb) (by simp)
  have hab:a<b:=by simpa using hs
  dsimp only at ha hb
  obtain rfl:a=0:=by omega
  obtain rfl:b=1:=by omega
  have hi:i=0\/i=1:=by
   grind
  rcases hi with rfl|rfl
  ·simp at hx; subst hx
   exact nameW e0_2 (Wk.fsl ⟨Wk.refl _,Wk.any,Wk.refl _,Wk.any,trivial⟩) Wk.any hn
  ·simp at hx; subst hx
   obtain⟨h3,h4⟩:=hne (0,la) (by simp)
   match la,h3,h4 with
   |[],h,_=>exact absurd rfl h
   |[p],_,_=>exact nameW e1_2a (Wk.fsl ⟨Wk.refl _,Wk.fsl ⟨Wk.any,Wk.any,trivial⟩,Wk.refl _,Wk.any,trivial⟩) Wk.any hn
   |[p,q],_,_=>exact nameW e1_2b (Wk.fsl ⟨Wk.refl _,Wk.fsl ⟨Wk.any,Wk.any,Wk.any,Wk.any,trivial⟩,Wk.refl _,Wk.any,trivial⟩) Wk.any hn
   |[p,q,r],_,_=>exact nameW e1_2c (Wk.fsl ⟨Wk.refl _,Wk.fsl ⟨Wk.any,Wk.any,Wk.any,Wk.any,Wk.any,Wk.any,trivial⟩,Wk.refl _,Wk.any,trivial⟩) Wk.any hn
theorem nameK {S X:AV} {ks:List (List (Nat×Int)×Int)} {x:List (Nat×Int)×Int} (hx:ks=[x]) (hn:noRefs [S,X,cos ks]=true):
  PSpec Tryz.prog 197 [.str [107],.fn 199 [] [.fptr [S,X,cos ks],.fptr [.int .i64 0]]] (.int .i64 0):=by
 subst hx
 exact nameW k_1 Wk.any (Wk.fsl ⟨Wk.refl _,Wk.any,Wk.any,trivial⟩) hn
end
end Go.AM.SN
namespace Go.AM.SO
open Go.Proofs Go.AM.SD Go.AM.SE
theorem great190 (n:Int) (h1: -65536<=n) (h2:n<=65536):PSpec Tryz.prog 253 [.int .i64 n] (.bool false):=by
 refine PSpec.Qag 64 ok253 rfl rfl rfl ?_
 have g1:¬n< -65536:=by omega
 have g2:¬65536<n:=by omega
 simp(disch:=first|omega|(simp only[lenW]<;>omega)) only[s253,g1,g2,wV,simprocAttr]
 exact⟨.inr trivial,_,rfl,rfl⟩
abbrev cdC (S:List Nat) (xs:List (Nat×List (Nat×Nat))) (ks:List (List (Nat×Int)×Int)):List AV:=[sliN S,exs xs,cos ks]
abbrev cdV (S:List Nat) (xs:List (Nat×List (Nat×Nat))) (ks:List (List (Nat×Int)×Int)):AV:= .agg (cdC S xs ks)
theorem QcX {S:List Nat} {xs:List (Nat×List (Nat×Nat))} {ks:List (List (Nat×Int)×Int)}:noRefs (cdC S xs ks)=true:=by
 rw[cdC,noRefs,noRefs,noRefs,Qab,SU.Qbe,SU.Qh5];rfl
theorem QkV {l:List (Nat×Nat)} {i:Nat} {x:Nat×Nat} (h:l[i]?=some x):(l.flatMap loC).drop (i*2)= .int .i64 (x.1:Int):: .int .i64 (x.2:Int)::(l.drop (i+1)).flatMap loC:=Qa3 (f:=loC) (k:=2) (fun _=>rfl) h
theorem pw_at {l:List Nat} (h:l.Pairwise (· < ·)) {i:Nat} {x y:Nat} (hx:l[i]?=some x) (hy:l[i+1]?=some y):x<y:=by
 have hi:i+1<l.length:=by
  rcases Nat.lt_or_ge (i+1) l.length with h|h
  ·exact h
  ·rw[List.getElem?_eq_none h]at hy;cases hy
 rw[List.getElem?_eq_getElem (by omega)]at hx
 rw[List.getElem?_eq_getElem hi]at hy
 cases hx;cases hy
 exact List.pairwise_iff_getElem.1 h i (i+1) (by omega) hi (Nat.lt_succ_self _)
theorem _root_.Go.AM.au16 {p:Prop} (h:p:=by repeat (first|exact RT.nil|(refine RT.cons ?_ ?_; · (first|exact Rn.any|exact Rn.x1 rfl rfl|exact Rn.x2 rfl rfl|exact Rn.x3 rfl rfl|exact Rn.x4 rfl rfl|exact Rn.x5 rfl|exact Rn.x6 rfl|exact Rn.x7 rfl|(refine Rn.slot ?_ ?_;(first|rfl|(rw[Int.natCast_add];rfl));(first|rfl|(simp only[noRef,noRefs,Qaf,Bool.and_self,Bool.and_true,Bool.true_and,Qaa,Qan,Qab,SU.QbE,SU.QaL,SU.Qbu,SU.QaT,SU.QbW];done)))|(refine Rn.fn ?_ ?_<;>(repeat' (first|exact RnL.nil|refine RnL.cons ?_ ?_|exact Rn.same rfl|exact Rn.x6 rfl|exact Rn.x2 rfl rfl|exact Rn.x5 rfl|exact Rn.x1 rfl rfl))))))):p:=h
theorem excl103 (S:List Nat) (xs:List (Nat×List (Nat×Nat))) (ks:List (List (Nat×Int)×Int)) (x:Nat×List (Nat×Nat)) (hS:S.length<=8) (hS3:∀s∈S,s<=4096) (hl:x.2.length<=1000) (hne:x.2≠[]) (hp:(x.2.map (·.1)).Pairwise (· < ·)) (hs:∀l∈x.2,∃n,S[l.1]?=some n/\l.2<n):
    PSpec Tryz.prog 198 [cdV S xs ks,.agg (exC x)] (.int .i64 0):=by
  obtain⟨nm,l⟩:=x
  dsimp only at hl hne hp hs
  have hex:exC (nm,l)=[.str [101,UInt8.ofNat (48+nm)],los l]:=rfl
  rw[hex]
  have hnr1:=@QcX S xs ks
  have hnr2:noRefs [.str [101,UInt8.ofNat (48+nm)],los l]=true:=by rw[noRefs,noRefs,SU.QdD];rfl
  refine PSpec.Qag 64 ok198 rfl (by rw[noRefs,noRefs,noRef,noRef,hnr1,hnr2];rfl) rfl ?_
  have hl0:¬(l.length:Int)=0:=by
    have:=List.length_pos_iff.2 hne
    omega
  have hll:=SU.QgG l
  simp(disch:=first|omega|(simp only[lenW]<;>omega)) only[s198,hl0,wV,simprocAttr]
  refine Qal 100 (fun i:Nat=>[(2,.ptr 50 0 0),(3,.ptr 51 0 0),(12,los l),(13,.int .i64 l.length),(14,.int .i64 i)]) (fun _=>[(50,.cells 0 (cdC S xs ks)),(51,.cells 0 [.str [101,UInt8.ofNat (48+nm)],los l])]) (fun i=>i<=l.length) (fun i=>l.length-i) 0 ⟨[(50,.blk 64 0),(51,.blk 65 0)],rfl,au0,?_,au16⟩ (Nat.zero_le _) ?_
  · exact RB.cells rfl rfl gg (RnL.same hnr1) (RB.cells rfl rfl gg (RnL.same hnr2) RB.nil)
  rintro i hi
  by_cases hlt:i<l.length
  · obtain ⟨⟨c, s⟩, hcs⟩ := Qad hlt
    obtain⟨n,hn,hsn⟩:=hs _ (List.mem_of_getElem? hcs)
    dsimp only at hn hsn
    have hcl:c<S.length:=by
      rcases Nat.lt_or_ge c S.length with h|h
      · exact h
      · rw[List.getElem?_eq_none h]at hn;cases hn
    have hn4:=hS3 n (List.mem_of_getElem? hn)
    have hdr:=QkV hcs
    have hdl:2<=((l.flatMap loC).drop (i*2)).length:=by rw[hdr];simp
    have h1:¬(c:Int)<0:=by omega
    have h2:¬(S.length:Int)<=(c:Int):=by omega
    have h3:¬(s:Int)<0:=by omega
    have h4:¬(n:Int)<=(s:Int):=by omega
    cases i with
    | zero =>
      have h0:¬(0:Int)<((0:Nat):Int):=by omega
      simp(disch:=first|omega|(simp only[lenW]<;>omega)) only[hlt,hdr,hdl,h0,h1,h2,h3,h4,QaN hn,hcl,wV,simprocAttr]
      refine⟨1,by omega,by omega,?_⟩
      refine⟨[(50,.blk 50 0),(51,.blk 51 0)],rfl,au0,?_,au16⟩
      exact RB.cells rfl rfl gg (RnL.same hnr1) (RB.cells rfl rfl gg (RnL.same hnr2) RB.nil)
    | succ j =>
      obtain⟨⟨c',s'⟩,hcs'⟩:=Qad (l:=l) (i:=j) (by omega)
      have hdr':=QkV hcs'
      have hcc:c'<c:=pw_at hp (i:=j) (by rw[List.getElem?_map,hcs'];rfl) (by rw[List.getElem?_map,hcs];rfl)
      have h0:(0:Int)<((j+1:Nat):Int):=by omega
      have h5:¬(c:Int)<=(c':Int):=by omega
      have h6:((j+1:Nat):Int)-1=(j:Int):=by omega
      have h7:j<l.length:=by omega
      have hle:((j+1:Nat):Int)<(l.length:Int):=by omega
      have hJt:((j+1:Nat):Int).toNat=j+1:=by omega
      have hJ2:0<=((j+1:Nat):Int):=by omega
      generalize hJJ:((j+1:Nat):Int)=J at*
      simp(disch:=first|omega|(simp only[lenW]<;>omega)) only[hlt,hle,hJt,hJ2,hdr,hdr',hdl,h0,h1,h2,h3,h4,h5,h6,h7,QaN hn,hcl,wV,simprocAttr]
      refine⟨j+2,by omega,by omega,?_⟩
      have hJ3:J+1=((j+2:Nat):Int):=by omega
      rw[hJ3]
      refine⟨[(50,.blk 50 0),(51,.blk 51 0)],rfl,au0,?_,au16⟩
      exact RB.cells rfl rfl gg (RnL.same hnr1) (RB.cells rfl rfl gg (RnL.same hnr2) RB.nil)
  · simp (disch := first | omega | (simp only [lenW] <;> omega)) only [hlt, wV, simprocAttr]
    exact⟨.inr trivial,_,rfl,rfl⟩
theorem cons105 (S:List Nat) (xs:List (Nat×List (Nat×Nat))) (ks:List (List (Nat×Int)×Int)) (x:List (Nat×Int)×Int) (hS:S.length<=8) (hl:x.1.length<=1000) (hne:x.1≠[]) (hp:(x.1.map (·.1)).Pairwise (· < ·)) (hs:∀l∈x.1,l.1<S.length/\l.2≠0/\ -65536<=l.2/\l.2<=65536) (hb: -65536<=x.2/\x.2<=65536):
    PSpec Tryz.prog 200 [cdV S xs ks,.agg (coC x)] (.int .i64 0):=by
  obtain⟨l,bd⟩:=x
  dsimp only at hl hne hp hs hb
  have hex:coC (l,bd)=[.str [107],tes l,.int .i64 bd]:=rfl
  rw[hex]
  have hnr1:=@QcX S xs ks
  have hnr2:noRefs [.str [107],tes l,.int .i64 bd]=true:=by rw[noRefs,noRefs,SU.QcV];rfl
  refine PSpec.Qag 64 ok200 rfl (by rw[noRefs,noRefs,noRef,noRef,hnr1,hnr2];rfl) rfl ?_
  have hl0:¬(l.length:Int)=0:=by
    have:=List.length_pos_iff.2 hne
    omega
  have hll:=SU.QcU l
  have hgb:=great190 bd hb.1 hb.2
  simp(disch:=first|omega|(simp only[lenW]<;>omega)) only[s200,hl0,wV,simprocAttr]
  refine Qal 100 (fun i:Nat=>[(2,.ptr 50 0 0),(3,.ptr 51 0 0),(12,tes l),(13,.int .i64 l.length),(14,.int .i64 i)]) (fun _=>[(50,.cells 0 (cdC S xs ks)),(51,.cells 0 [.str [107],tes l,.int .i64 bd])]) (fun i=>i<=l.length) (fun i=>l.length-i) 0 ⟨[(50,.blk 64 0),(51,.blk 65 0)],rfl,au0,?_,au16⟩ (Nat.zero_le _) ?_
  · exact RB.cells rfl rfl gg (RnL.same hnr1) (RB.cells rfl rfl gg (RnL.same hnr2) RB.nil)
  rintro i hi
  by_cases hlt:i<l.length
  · obtain ⟨⟨c, s⟩, hcs⟩ := Qad hlt
    obtain⟨hcl,hs0,hsa,hsb⟩:=hs _ (List.mem_of_getElem? hcs)
    dsimp only at hcl hs0 hsa hsb
    have hdr:=SU.Qc9 hcs
    have hdl:2<=((l.flatMap teC).drop (i*2)).length:=by rw[hdr];simp
    have h1:¬(c:Int)<0:=by omega
    have h2:¬(S.length:Int)<=(c:Int):=by omega
    have hgs:=great190 s hsa hsb
    cases i with
    | zero =>
      have h0:¬(0:Int)<((0:Nat):Int):=by omega
      simp(disch:=first|omega|(simp only[lenW]<;>omega)) only[hlt,hdr,hdl,h0,h1,h2,hs0,wV,simprocAttr]
      refine cp hgs ?_
      simp(disch:=first|omega|(simp only[lenW]<;>omega)) only[wV,simprocAttr]
      refine⟨1,by omega,by omega,?_⟩
      refine⟨[(50,.blk 50 0),(51,.blk 51 0)],rfl,au0,?_,au16⟩
      exact RB.cells rfl rfl gg (RnL.same hnr1) (RB.cells rfl rfl gg (RnL.same hnr2) RB.nil)
    | succ j =>
      obtain⟨⟨c',s'⟩,hcs'⟩:=Qad (l:=l) (i:=j) (by omega)
      have hdr':=SU.Qc9 hcs'
      have hcc:c'<c:=pw_at hp (i:=j) (by rw[List.getElem?_map,hcs'];rfl) (by rw[List.getElem?_map,hcs];rfl)
      have h0:(0:Int)<((j+1:Nat):Int):=by omega
      have h5:¬(c:Int)<=(c':Int):=by omega
      have h6:((j+1:Nat):Int)-1=(j:Int):=by omega
      have h7:j<l.length:=by omega
      have hle:((j+1:Nat):Int)<(l.length:Int):=by omega
      have hJt:((j+1:Nat):Int).toNat=j+1:=by omega
      have hJ2:0<=((j+1:Nat):Int):=by omega
      generalize hJJ:((j+1:Nat):Int)=J at*
      simp(disch:=first|omega|(simp only[lenW]<;>omega)) only[hlt,hle,hJt,hJ2,hdr,hdr',hdl,h0,h1,h2,hs0,h5,h6,h7,wV,simprocAttr]
      refine cp hgs ?_
      simp(disch:=first|omega|(simp only[lenW]<;>omega)) only[wV,simprocAttr]
      refine⟨j+2,by omega,by omega,?_⟩
      have hJ3:J+1=((j+2:Nat):Int):=by omega
      rw[hJ3]
      refine⟨[(50,.blk 50 0),(51,.blk 51 0)],rfl,au0,?_,au16⟩
      exact RB.cells rfl rfl gg (RnL.same hnr1) (RB.cells rfl rfl gg (RnL.same hnr2) RB.nil)
  · simp (disch := first | omega | (simp only [lenW] <;> omega)) only [hlt, wV, simprocAttr]
    refine cp hgb ?_
    simp(disch:=first|omega|(simp only[lenW]<;>omega)) only[wV,simprocAttr]
    exact⟨.inr trivial,_,rfl,rfl⟩
end Go.AM.SO
namespace Go.AM.SQ
open Go.Proofs
set_option maxHeartbeats 4000000
noncomputable section
def cf:YA.Cf:={most:= .pure,always:=[197].map fun k=>(k,.heap)}
def s156:SFn:=by
 refine(?f:YA.Yt Tryz.prog cf 156 [[0,2],[15,16,17],[1,18],[2,18,19],[],[23,24,25],[4,26,27,28],[1,20,21,22,30,29,41,40,39,38,31],[2,31,32],[20,21,22,30,29,41,40,39,38,33,34,35,36,37],[1,42],[2,42,43],[],[47,48,49,50],[5,51],[7,52,53,54,55],[56],[1,44,45,46,6,8,57,58],[2,6,8,57,59,60,61],[62],[1,44,45,46,9,63,64],[2,9,63,65],[44,45,46,66],[],[70,71,72,73],[10,74],[12,75,76,77,78],[79],[1,67,68,69,11,13,80,81],[2,11,13,80,82,83,84],[85],[1,67,68,69,14,86,87],[2,14,86,88],[1,67,68,69]]) ?s ?h
 case h=>exact YA.rr
 exact fun s _=>s
theorem ok156:okFn Tryz.prog 156 s156=true:=by kernel_rfl
end
end Go.AM.SQ
namespace Go.AM.SO
open Go.Proofs Go.AM.SD Go.AM.SE
def szs (c:Cel):List Nat:=c.cs.map (·.2.n)
theorem WfCel.comp {c:Cel} (h:WfCel c) {x:Nat×List (Nat×Nat)} (hx:x∈c.xs):∀l∈x.2,∃n,(szs c)[l.1]?=some n/\l.2<n:=fun l hl=>by
 obtain⟨y,h1,h2⟩:=(h.xl x hx).2.2 l hl
 exact⟨y.2.n,by unfold szs;rw[List.getElem?_map,h1];rfl,h2⟩
theorem WfCel.xlen {c:Cel} (h:WfCel c) {x:Nat×List (Nat×Nat)} (hx:x∈c.xs):x.2.length<=3:=by
  have h1:=QaQ c.cs.length (x.2.map (·.1)) (by rw[List.nodup_iff_pairwise_ne];exact(h.xl x hx).2.1.imp fun h=>by omega) (fun y hy=>by
    obtain⟨l,hl,rfl⟩:=List.mem_map.1 hy
    obtain⟨z,h1,_⟩:=(h.xl x hx).2.2 l hl
    rcases Nat.lt_or_ge l.1 c.cs.length with h|h
    · exact h
    · rw[List.getElem?_eq_none h]at h1;cases h1)
  rw[List.length_map]at h1
  exact Nat.le_trans h1 h.c3
theorem WfCel.klen {c:Cel} (h:WfCel c) {x:List (Nat×Int)×Int} (hx:x∈c.ks):x.1.length<=3:=by
  have h1:=QaQ c.cs.length (x.1.map (·.1)) (by rw[List.nodup_iff_pairwise_ne];exact(h.kl x hx).2.1.imp fun h=>by omega) (fun y hy=>by
    obtain⟨l,hl,rfl⟩:=List.mem_map.1 hy
    exact((h.kl x hx).2.2.1 l hl).1)
  rw[List.length_map]at h1
  exact Nat.le_trans h1 h.c3
theorem WfCel.slen {c:Cel} (h:WfCel c):(szs c).length=c.cs.length:=by simp[szs]
theorem WfCel.sz {c:Cel} (h:WfCel c):∀s∈szs c,1<=s/\s<=3:=fun s hs=>by
 obtain⟨x,hx,rfl⟩:=List.mem_map.1 hs
 exact⟨(h.ca x hx).pos,(h.ca x hx).n3⟩
theorem QkW {l:List (Nat×List (Nat×Nat))} {i:Nat} {x:Nat×List (Nat×Nat)} (h:l[i]?=some x):(l.flatMap exC).drop (i*2)= .str [101,UInt8.ofNat (48+x.1)]::los x.2::(l.drop (i+1)).flatMap exC:=Qa3 (f:=exC) (k:=2) (fun _=>rfl) h
theorem QkX {l:List (List (Nat×Int)×Int)} {i:Nat} {x:List (Nat×Int)×Int} (h:l[i]?=some x):(l.flatMap coC).drop (i*3)= .str [107]::tes x.1:: .int .i64 x.2::(l.drop (i+1)).flatMap coC:=Qa3 (f:=coC) (k:=3) (fun _=>rfl) h
theorem QgH (l:List (List (Nat×Int)×Int)):(l.flatMap coC).length=l.length*3:=Qbn (k:=3) (fun _=>rfl) l
theorem conds32 (c:Cel) (h:WfCel c):PSpec Tryz.prog 156 [cdV (szs c) c.xs c.ks] (.int .i64 0):=by
  have hnr:=@QcX (szs c) c.xs c.ks
  refine PSpec.Qag 64 SQ.ok156 rfl (by rw[noRefs,noRef,hnr];rfl) rfl ?_
  have hsl:=h.slen
  have hc3:=h.c3
  have hx2:=h.x2
  have hk1:=h.k1
  have g1:¬(8:Int)<((szs c).length:Int):=by omega
  have g2:¬(32:Int)<(c.xs.length:Int):=by omega
  have g3:¬(32:Int)<(c.ks.length:Int):=by omega
  have hxn:∀x∈c.xs,x.2≠[]/\x.2.length<=3:=fun x hx=>⟨(h.xl x hx).1,h.xlen hx⟩
  simp(disch:=first|omega|(simp only[lenW]<;>omega)) only[SQ.s156,g1,wW,wV,simprocAttr]
  refine Qaw 100 (fun i:Nat=>[(1,.ptr 50 0 0),(20,sliN (szs c)),(21,.int .i64 (szs c).length),(22,.int .i64 i)]) (fun _=>[(50,.cells 0 (cdC (szs c) c.xs c.ks))]) (fun i=>i<=(szs c).length) (fun i=>(szs c).length-i) 0 0 140
    (fun _:Unit=>[(1,.ptr 50 0 0)]) (fun _=>[(50,.cells 0 (cdC (szs c) c.xs c.ks))]) (fun _=>True) ⟨[(50,.blk 64 0)],rfl,au0,?_,au16⟩ (Nat.zero_le _) ?_ ?_
  · exact RB.cells rfl rfl gg (RnL.same hnr) RB.nil
  · rintro i hi
    by_cases hlt:i<(szs c).length
    · obtain ⟨s, hs⟩ := Qad hlt
      obtain⟨hs1,hs3⟩:=h.sz s (List.mem_of_getElem? hs)
      have q1:¬(s:Int)<1:=by omega
      have q2:¬(4096:Int)<(s:Int):=by omega
      simp(disch:=first|omega|(simp only[lenW]<;>omega)) only[hlt,QaN hs,q1,q2,wW,wV,simprocAttr]
      refine⟨i+1,by omega,by omega,?_⟩
      refine⟨[(50,.blk 50 0)],rfl,au0,?_,au16⟩
      exact RB.cells rfl rfl gg (RnL.same hnr) RB.nil
    · simp (disch := first | omega | (simp only [lenW] <;> omega)) only [hlt, wW, wV, simprocAttr]
      refine⟨(),?_⟩
      refine⟨[(50,.blk 50 0)],rfl,au0,?_,au16⟩
      exact RB.cells rfl rfl gg (RnL.same hnr) RB.nil
  rintro _ _
  simp(disch:=first|omega|(simp only[lenW]<;>omega)) only[g2,g3,wW,wV,simprocAttr]
  refine Qaw 200 (fun i:Nat=>[(1,.ptr 50 0 0),(44,exs c.xs),(45,.int .i64 c.xs.length),(46,.int .i64 i)]) (fun _=>[(50,.cells 0 (cdC (szs c) c.xs c.ks))]) (fun i=>i<=c.xs.length) (fun i=>c.xs.length-i) 0 2 240
    (fun _:Unit=>[(1,.ptr 50 0 0)]) (fun _=>[(50,.cells 0 (cdC (szs c) c.xs c.ks))]) (fun _=>True) ⟨[(50,.blk 50 0)],rfl,au0,?_,au16⟩ (Nat.zero_le _) ?_ ?_
  · exact RB.cells rfl rfl gg (RnL.same hnr) RB.nil
  · rintro i hi
    by_cases hlt:i<c.xs.length
    · obtain ⟨x, hx⟩ := Qad hlt
      have hxm:=List.mem_of_getElem? hx
      have hdr:=QkW hx
      have hdl:2<=((c.xs.flatMap exC).drop (i*2)).length:=by rw[hdr];simp
      have hN:=SN.nameX hx hx2 h.xn.1 h.xn.2 hxn hnr
      have hE:=excl103 (szs c) c.xs c.ks x (by omega) (fun s hs=>by have:=h.sz s hs;omega) (by have:=h.xlen hxm;omega) (h.xl x hxm).1 (h.xl x hxm).2.1 (h.comp hxm)
      have hex:exC x=[.str [101,UInt8.ofNat (48+x.1)],los x.2]:=rfl
      rw[hex]at hE
      simp(disch:=first|omega|(simp only[lenW]<;>omega)) only[hlt,hdr,hdl,wW,wV,simprocAttr]
      refine SU.chc (HSpec.lend (FrzL.cons (FrzTo.same _) (FrzL.cons (FrzTo.fn FrzL.nil (FrzL.cons (FrzTo.ptr (g:=0) (cs:=cdC (szs c) c.xs c.ks) gg (FrzL.same _)) (FrzL.cons (FrzTo.ptr (g:=0) (cs:=[.int .i64 (i:Int)]) gg (FrzL.same _)) FrzL.nil))) FrzL.nil)) hN rfl) ?_
      simp(disch:=first|omega|(simp only[lenW]<;>omega)) only[wW,wV,simprocAttr]
      refine cp hE ?_
      simp(disch:=first|omega|(simp only[lenW]<;>omega)) only[wW,wV,simprocAttr]
      refine⟨i+1,by omega,by omega,?_⟩
      refine⟨[(50,.blk 50 0)],rfl,au0,?_,au16⟩
      exact RB.cells rfl rfl gg (RnL.same hnr) RB.nil
    · simp (disch := first | omega | (simp only [lenW] <;> omega)) only [hlt, wW, wV, simprocAttr]
      refine⟨(),?_⟩
      refine⟨[(50,.blk 50 0)],rfl,au0,?_,au16⟩
      exact RB.cells rfl rfl gg (RnL.same hnr) RB.nil
  rintro _ _
  simp(disch:=first|omega|(simp only[lenW]<;>omega)) only[wW,wV,simprocAttr]
  refine Qal 300 (fun i:Nat=>[(1,.ptr 50 0 0),(67,cos c.ks),(68,.int .i64 c.ks.length),(69,.int .i64 i)]) (fun _=>[(50,.cells 0 (cdC (szs c) c.xs c.ks))]) (fun i=>i<=c.ks.length) (fun i=>c.ks.length-i) 0 ⟨[(50,.blk 50 0)],rfl,au0,?_,au16⟩ (Nat.zero_le _) ?_
  · exact RB.cells rfl rfl gg (RnL.same hnr) RB.nil
  rintro i hi
  by_cases hlt:i<c.ks.length
  · obtain ⟨x, hx⟩ := Qad hlt
    have hi0:i=0:=by omega
    subst hi0
    have hxm:=List.mem_of_getElem? hx
    have hdr:=QkX hx
    rw[Nat.zero_mul]at hdr
    have hdl:3<=(c.ks.flatMap coC).length:=by rw[QgH];omega
    have hks:c.ks=[x]:=by
      match hk:c.ks,hx,hk1 with
      |[y],hx,_=>simp at hx;rw[hx]
    have hN:=SN.nameK (S:=sliN (szs c)) (X:=exs c.xs) hks hnr
    obtain⟨k1,k2,k3,k4,k5⟩:=h.kl x hxm
    have hE:=cons105 (szs c) c.xs c.ks x (by omega) (by have:=h.klen hxm;omega) k1 k2 (fun l hl=>by obtain⟨q1,q2,q3,q4⟩:=k3 l hl;exact⟨by omega,q2,by omega,by omega⟩) ⟨by omega,by omega⟩
    have hex:coC x=[.str [107],tes x.1,.int .i64 x.2]:=rfl
    rw[hex]at hE
    have hlt0:(0:Int)<(c.ks.length:Int):=by omega
    rw[List.drop_zero]at hdr
    have htk:List.take 3 (c.ks.flatMap coC)=[.str [107],tes x.1,.int .i64 x.2]:=by rw[hdr];rfl
    simp(disch:=first|omega|(simp only[lenW]<;>omega)) only[hlt,hlt0,htk,hdl,wW,wV,simprocAttr]
    refine SU.chc (HSpec.lend (FrzL.cons (FrzTo.same _) (FrzL.cons (FrzTo.fn FrzL.nil (FrzL.cons (FrzTo.ptr (g:=0) (cs:=cdC (szs c) c.xs c.ks) gg (FrzL.same _)) (FrzL.cons (FrzTo.ptr (g:=0) (cs:=[.int .i64 0]) gg (FrzL.same _)) FrzL.nil))) FrzL.nil)) hN rfl) ?_
    simp(disch:=first|omega|(simp only[lenW]<;>omega)) only[wW,wV,simprocAttr]
    refine cp hE ?_
    simp(disch:=first|omega|(simp only[lenW]<;>omega)) only[wW,wV,simprocAttr]
    refine⟨1,by omega,by omega,?_⟩
    refine⟨[(50,.blk 50 0)],rfl,au0,?_,au16⟩
    exact RB.cells rfl rfl gg (RnL.same hnr) RB.nil
  · simp (disch := first | omega | (simp only [lenW] <;> omega)) only [hlt, wW, wV, simprocAttr]
    exact⟨.inr trivial,_,rfl,rfl⟩
end Go.AM.SO
namespace Go.AM.SO
open Go.Proofs Go.AM.SD Go.AM.SE
theorem QcG {α:Type} {f:α->List AV} (hf:∀x,(f x).all AV.one=true):∀l:List α,(l.flatMap f).all AV.one=true
 |[]=>rfl
 |x::l=>by rw[List.flatMap_cons,List.all_append,hf,QcG hf l];rfl
theorem clone148 (l:List (Nat×Nat)) (hl:l.length<=1000) (hne:l≠[]):PSpec Tryz.prog 201 [los l] (los l):=by
 refine PSpec.of_rn 100 ok201 rfl (by rw[noRefs,SU.QdD];rfl) (SU.QdD _) ?_
 have hq:aEqN false (los l)= .ret (.bool false):=by
  match l,hne with
  |x::l,_=>rfl
 have hone:(l.flatMap loC).all AV.one=true:=QcG (fun _=>rfl) l
 have hln:=SU.QgG l
 simp(disch:=first|omega|(simp only[lenW]<;>omega)) only[s201,hq,hone,hln,wW,wV,simprocAttr]
 exact⟨.inr trivial,_,rfl,Rn.fz0 rfl hln (RnL.same (SU.QbE _))⟩
theorem clone149 (l:List (Nat×Int)) (hl:l.length<=1000) (hne:l≠[]):PSpec Tryz.prog 202 [tes l] (tes l):=by
 refine PSpec.of_rn 100 ok202 rfl (by rw[noRefs,SU.QcV];rfl) (SU.QcV _) ?_
 have hq:aEqN false (tes l)= .ret (.bool false):=by
  match l,hne with
  |x::l,_=>rfl
 have hone:(l.flatMap teC).all AV.one=true:=QcG (fun _=>rfl) l
 have hln:=SU.QcU l
 simp(disch:=first|omega|(simp only[lenW]<;>omega)) only[s202,hq,hone,hln,wW,wV,simprocAttr]
 exact⟨.inr trivial,_,rfl,Rn.fz0 rfl hln (RnL.same (SU.QaL _))⟩
theorem take_succ' {α:Type} {l:List α} {i:Nat} {x:α} (h:l[i]?=some x):l.take (i+1)=l.take i++[x]:=by
 rw[List.take_add_one,h];rfl
theorem Qpv {x:Nat×List (Nat×Nat)}:List.flatMap exC [x]=[.str [101,UInt8.ofNat (48+x.1)],los x.2]:=rfl
theorem Qpw {x:List (Nat×Int)×Int}:List.flatMap coC [x]=[.str [107],tes x.1,.int .i64 x.2]:=rfl
theorem conds85 (c:Cel) (h:WfCel c):PSpec Tryz.prog 157 [celV c] (cdV (szs c) c.xs c.ks):=by
  have hnr:noRefs [evsV c.ev,its 99 c.cs,its 114 c.rs,exs c.xs,cos c.ks]=true:=by
    have:=SU.QaI c
    rwa [celV,noRef]at this
  refine PSpec.of_rn 64 ok157 rfl (by rw[noRefs,SU.QaI];rfl) (by rw[noRef];exact QcX) ?_
  have hc3:=h.c3
  have hx2:=h.x2
  have hk1:=h.k1
  have hci:=@SU.QcW 99 c.cs
  have hxi:=SU.QdZ c.xs
  have hki:=QgH c.ks
  simp(disch:=first|omega|(simp only[lenW]<;>omega)) only[s157,wW,wV,simprocAttr]
  refine Qaw 100 (fun i:Nat=>[(1,.ptr 50 0 0),(2,.ptr 51 0 0),(3,.ptr 52 0 0),(12,its 99 c.cs),(13,.int .i64 c.cs.length),(14,.int .i64 i)]) (fun i=>[(50,.cells 0 [evsV c.ev,its 99 c.cs,its 114 c.rs,exs c.xs,cos c.ks]),(51,.cells 0 [.nilsl,.nilsl,.nilsl]),(52,.cells 0 [.sl 76 0 0 (szs c|>.take i).length 1,.nilsl,.nilsl]),(76,.cells 0 (ints (nz ((szs c).take i))))]) (fun i=>i<=c.cs.length) (fun i=>c.cs.length-i) 0 0 160
    (fun _:Unit=>[(1,.ptr 50 0 0),(2,.ptr 51 0 0),(3,.ptr 52 0 0)]) (fun _=>[(50,.cells 0 [evsV c.ev,its 99 c.cs,its 114 c.rs,exs c.xs,cos c.ks]),(51,.cells 0 [.nilsl,.nilsl,.nilsl]),(52,.cells 0 [sliN (szs c),.nilsl,.nilsl])]) (fun _=>True) ⟨[(50,.blk 64 0),(51,.blk 65 0),(52,.blk 67 0),(76,.nil)],rfl,au0,?_,au16⟩ (Nat.zero_le _) ?_ ?_
  · exact RB.cells rfl rfl gg (RnL.same hnr) (RB.cells rfl rfl gg (RnL.same rfl) (RB.cells rfl rfl gg (RnL.cons (Rn.x4 rfl rfl) (RnL.same rfl)) (RB.newnil rfl rfl RB.nil)))
  · rintro i hi
    by_cases hlt:i<c.cs.length
    · obtain ⟨x, hx⟩ := Qad hlt
      have hdr:=SU.QeY (ch:=99) hx
      have hdl:5<=((c.cs.flatMap (itC 99)).drop (i*5)).length:=by rw[hdr];simp
      have hsx:(szs c)[i]?=some x.2.n:=by unfold szs;rw[List.getElem?_map,hx];rfl
      have hsuc:=take_succ' hsx
      have htl:((szs c).take i).length=i:=by rw[List.length_take,h.slen];omega
      have hone:=@SU.Qc0 [99,UInt8.ofNat (48+x.1)] x.2
      simp(disch:=first|omega|(simp only[lenW]<;>omega)) only[hlt,hdr,hdl,htl,wW,wV,simprocAttr]
      refine⟨i+1,by omega,by omega,?_⟩
      rw[hsuc,List.length_append,QaK,QaD,htl]
      refine⟨[(50,.blk 50 0),(51,.blk 51 0),(52,.blk 52 0),(76,.blk 76 1)],rfl,au0,?_,au16⟩
      exact RB.cells rfl rfl gg (RnL.same hnr) (RB.cells rfl rfl gg (RnL.same rfl) (RB.cells rfl rfl gg (RnL.cons (Rn.x1 rfl rfl) (RnL.same rfl)) (RB.cells rfl rfl gg (RnL.same (SU.QaV (Qaa _) rfl)) RB.nil)))
    · have e : i = c.cs.length := by omega
      subst e
      have hta:(szs c).take c.cs.length=szs c:=by rw[<-h.slen,List.take_length]
      simp(disch:=first|omega|(simp only[lenW]<;>omega)) only[hlt,hta,wW,wV,simprocAttr]
      refine⟨(),?_⟩
      refine⟨[(50,.blk 50 0),(51,.blk 51 0),(52,.blk 52 0)],rfl,au0,?_,au16⟩
      exact RB.cells rfl rfl gg (RnL.same hnr) (RB.cells rfl rfl gg (RnL.same rfl) (RB.cells rfl rfl gg (RnL.cons (Rn.fzm rfl rfl rfl rfl (by simp[ints]) (RnL.same (Qaa _))) (RnL.same rfl)) RB.nil))
  rintro _ _
  simp(disch:=first|omega|(simp only[lenW]<;>omega)) only[wW,wV,simprocAttr]
  refine Qaw 200 (fun i:Nat=>[(1,.ptr 50 0 0),(2,.ptr 51 0 0),(3,.ptr 52 0 0),(28,exs c.xs),(29,.int .i64 c.xs.length),(30,.int .i64 i)]) (fun i=>[(50,.cells 0 [evsV c.ev,its 99 c.cs,its 114 c.rs,exs c.xs,cos c.ks]),(51,.cells 0 [.nilsl,.nilsl,.nilsl]),(52,.cells 0 [sliN (szs c),.sl 77 0 0 (c.xs.take i).length 2,.nilsl]),(77,.cells 0 ((c.xs.take i).flatMap exC))]) (fun i=>i<=c.xs.length) (fun i=>c.xs.length-i) 0 2 260
    (fun _:Unit=>[(1,.ptr 50 0 0),(2,.ptr 51 0 0),(3,.ptr 52 0 0)]) (fun _=>[(50,.cells 0 [evsV c.ev,its 99 c.cs,its 114 c.rs,exs c.xs,cos c.ks]),(51,.cells 0 [.nilsl,.nilsl,.nilsl]),(52,.cells 0 [sliN (szs c),exs c.xs,.nilsl])]) (fun _=>True) ⟨[(50,.blk 50 0),(51,.blk 51 0),(52,.blk 52 0),(77,.nil)],rfl,au0,?_,au16⟩ (Nat.zero_le _) ?_ ?_
  · exact RB.cells rfl rfl gg (RnL.same hnr) (RB.cells rfl rfl gg (RnL.same rfl) (RB.cells rfl rfl gg (RnL.cons (Rn.same (Qab _)) (RnL.cons (Rn.x4 rfl rfl) (RnL.same rfl))) (RB.newnil rfl rfl RB.nil)))
  · rintro i hi
    by_cases hlt:i<c.xs.length
    · obtain ⟨x, hx⟩ := Qad hlt
      have hxm:=List.mem_of_getElem? hx
      have hdr:=QkW hx
      have hdl:2<=((c.xs.flatMap exC).drop (i*2)).length:=by rw[hdr];simp
      have hsuc:=take_succ' hx
      have htl:(c.xs.take i).length=i:=by rw[List.length_take];omega
      have hcl:=clone148 x.2 (by have:=h.xlen hxm;omega) (h.xl x hxm).1
      have hxl:=SU.QdZ (c.xs.take i)
      rw[htl]at hxl
      simp(disch:=first|omega|(simp only[lenW]<;>omega)) only[hlt,hdr,hdl,htl,wW,wV,simprocAttr]
      refine cp hcl ?_
      simp(disch:=first|omega|(simp only[lenW]<;>omega)) only[hxl,wW,wV,simprocAttr]
      refine⟨i+1,by omega,by omega,?_⟩
      rw[hsuc,List.length_append,List.flatMap_append,htl,Qpv]
      refine⟨[(50,.blk 50 0),(51,.blk 51 0),(52,.blk 52 0),(77,.blk 77 1)],rfl,au0,?_,au16⟩
      exact RB.cells rfl rfl gg (RnL.same hnr) (RB.cells rfl rfl gg (RnL.same rfl) (RB.cells rfl rfl gg (RnL.cons (Rn.same (Qab _)) (RnL.cons (Rn.x1 rfl rfl) (RnL.same rfl))) (RB.cells rfl rfl gg (RnL.same (SU.QaV (SU.QaT _) (by rw[noRefs,noRefs,SU.QdD];rfl))) RB.nil)))
    · have e : i = c.xs.length := by omega
      subst e
      simp(disch:=first|omega|(simp only[lenW]<;>omega)) only[hlt,List.take_length,wW,wV,simprocAttr]
      refine⟨(),?_⟩
      refine⟨[(50,.blk 50 0),(51,.blk 51 0),(52,.blk 52 0)],rfl,au0,?_,au16⟩
      exact RB.cells rfl rfl gg (RnL.same hnr) (RB.cells rfl rfl gg (RnL.same rfl) (RB.cells rfl rfl gg (RnL.cons (Rn.same (Qab _)) (RnL.cons (Rn.fzm rfl rfl rfl rfl (SU.QdZ _) (RnL.same (SU.QaT _))) (RnL.same rfl))) RB.nil))
  rintro _ _
  simp(disch:=first|omega|(simp only[lenW]<;>omega)) only[wW,wV,simprocAttr]
  refine Qaw 300 (fun i:Nat=>[(2,.ptr 51 0 0),(3,.ptr 52 0 0),(47,cos c.ks),(48,.int .i64 c.ks.length),(49,.int .i64 i)]) (fun i=>[(51,.cells 0 [.nilsl,.nilsl,.nilsl]),(52,.cells 0 [sliN (szs c),exs c.xs,.sl 78 0 0 (c.ks.take i).length 3]),(78,.cells 0 ((c.ks.take i).flatMap coC))]) (fun i=>i<=c.ks.length) (fun i=>c.ks.length-i) 0 4 360
    (fun _:Unit=>[(2,.ptr 51 0 0),(3,.ptr 52 0 0)]) (fun _=>[(51,.cells 0 [.nilsl,.nilsl,.nilsl]),(52,.cells 0 [sliN (szs c),exs c.xs,cos c.ks])]) (fun _=>True) ⟨[(51,.blk 51 0),(52,.blk 52 0),(78,.nil)],rfl,au0,?_,au16⟩ (Nat.zero_le _) ?_ ?_
  · exact RB.cells rfl rfl gg (RnL.same rfl) (RB.cells rfl rfl gg (RnL.cons (Rn.same (Qab _)) (RnL.cons (Rn.same (SU.Qbe _)) (RnL.cons (Rn.x4 rfl rfl) RnL.nil))) (RB.newnil rfl rfl RB.nil))
  · rintro i hi
    by_cases hlt:i<c.ks.length
    · obtain ⟨x, hx⟩ := Qad hlt
      have hxm:=List.mem_of_getElem? hx
      have hdr:=QkX hx
      have hdl:3<=((c.ks.flatMap coC).drop (i*3)).length:=by rw[hdr];simp
      have hsuc:=take_succ' hx
      have htl:(c.ks.take i).length=i:=by rw[List.length_take];omega
      have hcl:=clone149 x.1 (by have:=h.klen hxm;omega) (h.kl x hxm).1
      have hxl:=QgH (c.ks.take i)
      rw[htl]at hxl
      simp(disch:=first|omega|(simp only[lenW]<;>omega)) only[hlt,hdr,hdl,htl,wW,wV,simprocAttr]
      refine cp hcl ?_
      simp(disch:=first|omega|(simp only[lenW]<;>omega)) only[hxl,wW,wV,simprocAttr]
      refine⟨i+1,by omega,by omega,?_⟩
      rw[hsuc,List.length_append,List.flatMap_append,htl,Qpw]
      refine⟨[(51,.blk 51 0),(52,.blk 52 0),(78,.blk 78 1)],rfl,au0,?_,au16⟩
      exact RB.cells rfl rfl gg (RnL.same rfl) (RB.cells rfl rfl gg (RnL.cons (Rn.same (Qab _)) (RnL.cons (Rn.same (SU.Qbe _)) (RnL.cons (Rn.x1 rfl rfl) RnL.nil))) (RB.cells rfl rfl gg (RnL.same (SU.QaV (SU.QbW _) (by rw[noRefs,noRefs,SU.QcV];rfl))) RB.nil))
    · have e : i = c.ks.length := by omega
      subst e
      simp(disch:=first|omega|(simp only[lenW]<;>omega)) only[hlt,List.take_length,wW,wV,simprocAttr]
      refine⟨(),?_⟩
      refine⟨[(51,.blk 51 0),(52,.blk 52 0)],rfl,au0,?_,au16⟩
      exact RB.cells rfl rfl gg (RnL.same rfl) (RB.cells rfl rfl gg (RnL.cons (Rn.same (Qab _)) (RnL.cons (Rn.same (SU.Qbe _)) (RnL.cons (Rn.fzm rfl rfl rfl rfl (QgH _) (RnL.same (SU.QbW _))) RnL.nil))) RB.nil)
  rintro _ _
  simp(disch:=first|omega|(simp only[lenW]<;>omega)) only[wW,wV,simprocAttr]
  refine⟨.inr trivial,_,rfl,?_⟩
  exact Rn.same (by rw[noRef];exact QcX)
end Go.AM.SO
namespace Go.AM.SO
open Go.Proofs Go.AM.SD Go.AM.SE
def idxQ {α:Type} (q:α->Bool) (l:List α):Int:=if l.any q then(l.findIdx q:Int)else-1
theorem QmV {α:Type} {q:α->Bool} {l:List α} (h:∀x∈l,q x=false):idxQ q l= -1:=by
 unfold idxQ
 rw[if_neg]
 rw[List.any_eq_true]
 rintro⟨x,hx,hq⟩
 rw[h x hx]at hq;cases hq
theorem Qoz {α:Type} {q:α->Bool} {l:List α} {i:Nat} {x:α} (hx:l[i]?=some x) (hq:q x=true) (hb:∀(j:Nat) y,j<i->l[j]?=some y->q y=false):idxQ q l=i:=by
 have hlt:i<l.length:=by
  rcases Nat.lt_or_ge i l.length with h|h
  ·exact h
  ·rw[List.getElem?_eq_none h]at hx;cases hx
 have h1:l.any q=true:=List.any_eq_true.2 ⟨x,List.mem_of_getElem? hx,hq⟩
 have h2:l.findIdx q=i:=by
  rw[List.findIdx_eq hlt]
  refine⟨by rw[List.getElem?_eq_getElem hlt]at hx;cases hx;exact hq,fun j hj=>hb j l[j] hj (List.getElem?_eq_getElem (by omega))⟩
 unfold idxQ
 rw[if_pos h1,h2]
theorem QoA {α:Type} {q:α->Bool} {l:List α}:decide (0<=idxQ q l)=l.any q:=by
 unfold idxQ
 cases h:l.any q
 ·simp
 ·simp
theorem QeT {K:Nat} {cap:List AV} (h:noRefs cap=true):noRef (.fn K [] cap)=true:=by
 simp only[noRef,noRefs,h];rfl
theorem index110 {K : Nat} {cap : List AV} (q : Nat -> Bool) (l : List Nat) (hl : l.length <= 1000000) (hc : noRefs cap = true) (hk : ∀ x ∈ l, PSpec Tryz.prog K (.int .i64 (x : Int) :: cap) (.bool (q x))) : PSpec Tryz.prog 151 [sliN l, .fn K [] cap] (.int .i64 (idxQ q l)) := by
  refine PSpec.Qag 64 ok151 rfl (by rw[noRefs,noRefs,QeT hc,(Qab _)];rfl) rfl ?_
  have hfn:=QeT (K:=K) hc
  have hln:=(show(ints (nz l)).length=l.length*1 by simp[ints])
  simp(disch:=first|omega|(simp only[lenW]<;>omega)) only[s151,List.append_nil,wW,wV,simprocAttr]
  refine Qal 100 (fun i:Nat=>[(0,sliN l),(1,.fn K [] cap),(7,.int .i64 l.length),(8,.int .i64 i)]) (fun _=>[]) (fun i=>i<=l.length/\∀(j:Nat) y,j<i->l[j]?=some y->q y=false) (fun i=>l.length-i) 0 ?_ ⟨Nat.zero_le _,fun j y hj=>absurd hj (Nat.not_lt_zero _)⟩ ?_
  · exact⟨[],rfl,RO.zero,RB.nil,RT.cons (Rn.same (Qab _)) (RT.cons (Rn.same hfn) (RT.cons (Rn.same rfl) (RT.cons (Rn.same rfl) RT.nil)))⟩
  rintro i ⟨hi,hb⟩
  by_cases hlt:i<l.length
  · obtain ⟨x, hx⟩ := Qad hlt
    have hn:=hk x (List.mem_of_getElem? hx)
    have hdr:=QaN hx
    have hdl:1<=(List.drop (i*1) (ints (nz l))).length:=by rw[List.length_drop,hln];omega
    cases hq:q x
    · rw [hq] at hn
      simp(disch:=first|omega|(simp only[lenW]<;>omega)) only[hlt,hdr,hdl,List.head?_cons,List.append_nil,wW,wV,simprocAttr]
      refine⟨_,by simpa using hn,?_⟩
      simp(disch:=first|omega|(simp only[lenW]<;>omega)) only[List.append_nil,wW,wV,simprocAttr]
      refine⟨i+1,by omega,⟨by omega,fun j y hj hy=>?_⟩,?_⟩
      · by_cases e : j = i
        · subst e;rw[hx]at hy;cases hy;exact hq
        · exact hb j y (by omega) hy
      · exact⟨[],rfl,RO.zero,RB.nil,RT.cons (Rn.same (Qab _)) (RT.cons (Rn.same hfn) (RT.cons (Rn.same rfl) (RT.cons (Rn.same rfl) RT.nil)))⟩
    · rw [hq] at hn
      simp(disch:=first|omega|(simp only[lenW]<;>omega)) only[hlt,hdr,hdl,List.head?_cons,List.append_nil,wW,wV,simprocAttr]
      refine⟨_,by simpa using hn,?_⟩
      simp(disch:=first|omega|(simp only[lenW]<;>omega)) only[List.append_nil,wW,wV,simprocAttr]
      refine⟨.inr trivial,_,rfl,?_⟩
      rw[Qoz hx hq hb];rfl
  · simp (disch := first | omega | (simp only [lenW] <;> omega)) only [hlt, List.append_nil, wW, wV, simprocAttr]
    refine⟨.inr trivial,_,rfl,?_⟩
    rw[QmV fun x hx=>by
      obtain⟨j,hj,hjl⟩:=List.getElem_of_mem hx
      exact hb j x (by omega) (by rw[List.getElem?_eq_getElem hj,hjl])];rfl
theorem contains36 {K:Nat} {cap:List AV} (q:Nat->Bool) (l:List Nat) (hl:l.length<=1000000) (hc:noRefs cap=true) (hk:∀x∈l,PSpec Tryz.prog K (.int .i64 (x:Int)::cap) (.bool (q x))):PSpec Tryz.prog 144 [sliN l,.fn K [] cap] (.bool (l.any q)):=by
 refine PSpec.Qag 64 ok144 rfl (by rw[noRefs,noRefs,QeT hc,Qab];rfl) rfl ?_
 simp(disch:=first|omega|(simp only[lenW]<;>omega)) only[s144,List.append_nil,wW,wV,simprocAttr]
 refine cp (index110 q l hl hc hk) ?_
 have e:=@QoA Nat q l
 cases h:l.any q
 ·rw [h, decide_eq_false_iff_not] at e
  simp(disch:=first|omega|(simp only[lenW]<;>omega)) only[e,List.append_nil,wW,wV,simprocAttr]
  exact⟨.inr trivial,_,rfl,rfl⟩
 ·rw [h, decide_eq_true_eq] at e
  simp(disch:=first|omega|(simp only[lenW]<;>omega)) only[e,List.append_nil,wW,wV,simprocAttr]
  exact⟨.inr trivial,_,rfl,rfl⟩
theorem ge166 (x:Nat):PSpec Tryz.prog 192 [.int .i64 (x:Int),.fptr [.int .i64 5]] (.bool (decide (5<=x))):=by
 refine PSpec.Qag 64 ok192 rfl rfl rfl ?_
 have e:decide ((5:Int)<=(x:Int))=decide (5<=x):=decide_eq_decide.2 (by omega)
 simp(disch:=first|omega|(simp only[lenW]<;>omega)) only[s192,e,List.append_nil,wW,wV,simprocAttr]
 exact⟨.inr trivial,_,rfl,rfl⟩
end Go.AM.SO
namespace Go.AM.SR
open Go.Proofs
set_option maxHeartbeats 4000000
noncomputable section
def cf:YA.Cf:={most:= .pure,always:=[144].map fun k=>(k,.heap)}
def s154:SFn:=by
 refine(?f:YA.Yt Tryz.prog cf 154 [[0,1,8],[11,12,13,14],[2,3,4,5,10],[10,16,17,18,19],[2,3,4,5,15],[8,3,15,20,21,22],[23,24,25],[26],[2,4,5,9,27,28],[8,9,27,30,31,32,33],[2,4,5,29],[29,35,36,37,38],[2,4,5,34],[5,34,40,41,42,43,44],[2,4,39],[2,4,39,46,47,48,49,50,51],[45],[45]]) ?s ?h
 case h=>exact YA.rr
 exact fun s _=>s
theorem ok154:okFn Tryz.prog 154 s154=true:=by kernel_rfl
end
end Go.AM.SR
namespace Go.AM.SO
open Go.Proofs Go.AM.SD Go.AM.SE
theorem QmW {A B:List Nat} (hA:A.Pairwise (· < ·)) (hB:B.Pairwise (· < ·)) (h:∀x∈A,x∈B):mrg (fun a b=>a&& !b) A B=[]:=by
 rw[List.eq_nil_iff_forall_not_mem]
 intro x hx
 obtain⟨h1,h2⟩:=(Qbr hA hB).1 hx
 simp at h1
 exact h1.2 (h x h1.1)
theorem QmX {a:Aut} (h:WfA a):a.al.length<=32:=QaQ 32 a.al (by rw[List.nodup_iff_pairwise_ne];exact h.al.imp fun h=>by omega) h.al5
abbrev nmsB (l:List (List UInt8)):Blk:= .map 0 (mapS yes l)
theorem item83 (nm:List UInt8) (a:Aut) (B:List Nat) (names:List (List UInt8)) (h:WfI a) (hN:PSpec Tryz.prog 165 [.str nm] (.bool true)) (hn:nm∉names) (hnl:names.length<=100) (hB:B.Pairwise (· < ·)) (hBl:B.length<=1000000) (hs:∀x∈a.al,x∈B):
  HSpec Tryz.prog 154 [.agg [.str nm,sliN a.al,.int .i64 (a.n:Int),sliN a.ms,egsN a.es],.int .i64 5,sliN B,.map 68 0] (hp [(68,nmsB names)]) (.int .i64 0) (hp [(68,nmsB (names++[nm]))]):=by
 have hal:=QmX h.wf
 have hel:a.es.length<=1000000:=Nat.le_trans h.el (by decide)
 have hC:=check112 a h.wf hel
 have hI:=isCanon60 a h.wf hel h.can
 have hp0:=h.pos
 have hn0:¬(a.n:Int)=0:=by omega
 have h36:=contains36 (K:=192) (cap:=[.fptr [.int .i64 5]]) (fun x=>decide (5<=x)) a.al (by omega) rfl (fun x _=>ge166 x)
 have hany:a.al.any (fun x=>decide (5<=x))=false:=by
  rw[List.any_eq_false]
  intro x hx
  have:=h.a5 x hx
  simp;omega
 rw[hany]at h36
 have hsub:=subset167 a.al B (by omega) hBl
 rw[QmW h.wf.al hB hs]at hsub
 have hsub':PSpec Tryz.prog 193 [sliN a.al,sliN B] (.bool true):=hsub
 refine HSpec.QoS (m:=69) 100 SR.ok154 rfl rfl rfl ?_
 simp(disch:=first|omega|(simp only[lenW]<;>omega)) only[SR.s154,wW,wV,simprocAttr]
 refine cp hN ?_
 simp(disch:=first|omega|(simp only[lenW]<;>omega)) only[wW,wV,simprocAttr]
 refine QeQ gg hn ?_
 simp(disch:=first|omega|(simp only[lenW]<;>omega)) only[wW,wV,simprocAttr]
 refine Qdv gg hn (by omega) ?_
 simp(disch:=first|omega|(simp only[lenW]<;>omega)) only[QfZ,wW,wV,simprocAttr]
 refine cp hC ?_
 simp(disch:=first|omega|(simp only[lenW]<;>omega)) only[wW,wV,simprocAttr]
 refine cp hI ?_
 simp(disch:=first|omega|(simp only[lenW]<;>omega)) only[hn0,wW,wV,simprocAttr]
 refine SU.chc (HSpec.lend (FrzL.cons (FrzTo.same _) (FrzL.cons (FrzTo.fn FrzL.nil (FrzL.cons (FrzTo.ptr (g:=0) (cs:=[.int .i64 5]) gg (FrzL.same _)) FrzL.nil)) FrzL.nil)) h36 rfl) ?_
 simp(disch:=first|omega|(simp only[lenW]<;>omega)) only[wW,wV,simprocAttr]
 refine cp hsub' ?_
 simp(disch:=first|omega|(simp only[lenW]<;>omega)) only[wW,wV,simprocAttr]
 refine⟨.inr trivial,_,rfl,rfl,?_⟩
 refine⟨[(68,.nil)],rfl,au0,?_,au16⟩
 exact RB.mapB rfl gg (RnM.mapS fun _ _=>Rn.same rfl) RB.nil
theorem item83F {h:Heap} (nm:List UInt8) (a:Aut) (B:List Nat) (names:List (List UInt8)) (hw:WfI a) (hN:PSpec Tryz.prog 165 [.str nm] (.bool true)) (hn:nm∉names) (hnl:names.length<=100) (hB:B.Pairwise (· < ·)) (hBl:B.length<=1000000) (hs:∀x∈a.al,x∈B) (h68:h.get 68=some (nmsB names)):
  HSpec Tryz.prog 154 [.agg [.str nm,sliN a.al,.int .i64 (a.n:Int),sliN a.ms,egsN a.es],.int .i64 5,sliN B,.map 68 0] h (.int .i64 0) (h.set 68 (nmsB (names++[nm]))):=by
 have hm:∀(l:List (List UInt8)),∀e∈mapS yes l,noRef e.1=true/\noRef e.2=true:=fun l e he=>by
  unfold mapS at he
  obtain⟨x,_,rfl⟩:=List.mem_map.1 he
  exact⟨rfl,rfl⟩
 exact HSpec.frameM (item83 nm a B names hw hN hn hnl hB hBl hs) (OnlyD.cons (OnlyD.same (by rw[noRef];exact SU.Qc0)) (OnlyD.cons (OnlyD.same rfl) (OnlyD.cons (OnlyD.same (Qab _)) (OnlyD.cons (OnlyD.map rfl) OnlyD.nil)))) (OnlyD.same rfl) (hm _) (hm _) h68 rfl
end Go.AM.SO
namespace Go.AM.SO
open Go.Proofs Go.AM.SD Go.AM.SE
def uUp (l:List (Nat×Aut)):List Nat:=l.foldl (fun out x=>mrg (fun a b=>a||b) out x.2.al) []
theorem Qg4:∀{l:List (Nat×Aut)} {out:List Nat},out.Pairwise (· < ·)->(∀x∈l,x.2.al.Pairwise (· < ·))->
  (l.foldl (fun out x=>mrg (fun a b=>a||b) out x.2.al) out).Pairwise (· < ·)/\∀e,e∈l.foldl (fun out x=>mrg (fun a b=>a||b) out x.2.al) out↔e∈out\/∃y∈l,e∈y.2.al
 |[],out,h,_=>⟨h,fun e=>by simp⟩
 | x :: l, out, h, hl => by
  have hx:=hl x (by simp)
  obtain⟨h1,h2⟩:=Qg4 (l:=l) (Qb0 (k:=fun a b=>a||b) h hx) fun y hy=>hl y (by simp[hy])
  refine⟨h1,fun e=>?_⟩
  rw[List.foldl_cons,h2 e,Qbr h hx]
  simp only[List.mem_cons,exists_eq_or_imp,Bool.or_eq_true,decide_eq_true_eq]
  constructor
  ·rintro (⟨h3, _⟩ | h3)
   ·rcases h3 with h3 | h3
    ·exact .inl h3
    ·exact .inr (.inl h3)
   ·exact .inr (.inr h3)
  ·rintro (h3 | h3 | h3)
   ·exact .inl ⟨.inl h3,.inl h3⟩
   ·exact .inl ⟨.inr h3,.inr h3⟩
   ·exact .inr h3
theorem QgI {l:List (Nat×Aut)} (h:∀x∈l,WfI x.2):(uUp l).Pairwise (· < ·):=(Qg4 (by simp) fun x hx=>(h x hx).wf.al).1
theorem QkY {l:List (Nat×Aut)} (h:∀x∈l,WfI x.2) {e:Nat}:e∈uUp l↔∃y∈l,e∈y.2.al:=by
 have:=(Qg4 (l:=l) (out:=[]) (by simp) fun x hx=>(h x hx).wf.al).2 e
 simpa[uUp]using this
theorem QkZ {l:List (Nat×Aut)} (h:∀x∈l,WfI x.2):(uUp l).length<=5:=by
 refine QaQ 5 _ (by rw[List.nodup_iff_pairwise_ne];exact(QgI h).imp fun h=>by omega) fun x hx=>?_
 obtain⟨y,hy,he⟩:=(QkY h).1 hx
 exact(h y hy).a5 x he
theorem QnL {l:List (Nat×Aut)} {i:Nat} {x:Nat×Aut} (h:l[i]?=some x):uUp (l.take (i+1))=mrg (fun a b=>a||b) (uUp (l.take i)) x.2.al:=by
 unfold uUp
 rw[take_succ' h,List.foldl_append];rfl
def nmsI (ch:UInt8) (l:List (Nat×Aut)):List (List UInt8):=l.map fun x=>[ch,UInt8.ofNat (48+x.1)]
theorem Qjy {ch:UInt8} {l:List (Nat×Aut)} {i:Nat} {x:Nat×Aut} (h:l[i]?=some x):nmsI ch (l.take (i+1))=nmsI ch (l.take i)++[[ch,UInt8.ofNat (48+x.1)]]:=by
 unfold nmsI
 rw[take_succ' h,List.map_append];rfl
theorem QoB {a b:Nat} (ha:a<10) (hb:b<10) (h:UInt8.ofNat (48+a)=UInt8.ofNat (48+b)):a=b:=by
 have:=congrArg UInt8.toNat h
 simp at this
 omega
theorem QgJ {l:List (Nat×Aut)} (h:l.map (·.1)=List.range l.length) {i:Nat} {x:Nat×Aut} (hx:l[i]?=some x):x.1=i/\i<l.length:=by
 have hi:i<l.length:=by
  rcases Nat.lt_or_ge i l.length with h|h
  ·exact h
  ·rw[List.getElem?_eq_none h]at hx;cases hx
 have h1:(l.map (·.1))[i]?=some x.1:=by rw[List.getElem?_map,hx];rfl
 rw[h,List.getElem?_range hi]at h1
 cases h1
 exact⟨rfl,hi⟩
theorem Qk0 {ch:UInt8} {l:List (Nat×Aut)} (h:l.map (·.1)=List.range l.length) (h3:l.length<=9) {i:Nat} {x:Nat×Aut} (hx:l[i]?=some x):[ch,UInt8.ofNat (48+x.1)]∉nmsI ch (l.take i):=by
 intro hm
 obtain⟨y,hy,he⟩:=List.mem_map.1 hm
 obtain⟨j,hj,hjl⟩:=List.getElem_of_mem hy
 rw[List.length_take]at hj
 rw[List.getElem_take]at hjl
 obtain⟨e1,e2⟩:=QgJ h hx
 obtain⟨e3,e4⟩:=QgJ h (i:=j) (x:=y) (by rw[<-hjl];exact List.getElem?_eq_getElem (by omega))
 have:=QoB (a:=y.1) (b:=x.1) (by omega) (by omega) (by simpa using he)
 omega
theorem QmY {a b:UInt8} (hab:a≠b) {s:UInt8} {l:List (Nat×Aut)}:[a,s]∉nmsI b l:=by
 intro hm
 obtain⟨y,hy,he⟩:=List.mem_map.1 hm
 simp at he
 exact hab he.1.symm
theorem Qjr {i:Nat} (h:i<3):PSpec Tryz.prog 165 [.str [99,UInt8.ofNat (48+i)]] (.bool true):=by
 have:i=0\/i=1\/i=2:=by omega
 rcases this with rfl|rfl|rfl
 ·exact SP.Qok
 ·exact SP.Qol
 ·exact SP.Qom
theorem Qpx {i:Nat} (h:i<2):PSpec Tryz.prog 165 [.str [114,UInt8.ofNat (48+i)]] (.bool true):=by
 have:i=0\/i=1:=by omega
 rcases this with rfl|rfl
 ·exact SP.Qon
 ·exact SP.Qoo
theorem QeZ {m:Nat} {π:Nat->Option Src} {h:Heap}:RnM m π h (mapS yes []) []:=trivial
theorem Qa6 (c:Cel):noRefs [evsV c.ev,its 99 c.cs,its 114 c.rs,exs c.xs,cos c.ks]=true:=by
 have:=SU.QaI c
 rwa [celV,noRef]at this
theorem check21 (c : Cel) (h : WfCel c) : PSpec Tryz.prog 98 [celV c] (.int .i64 0) := by
  have hnr:=Qa6 c
  refine PSpec.Qag 64 ok98 rfl (by rw[noRefs,SU.QaI];rfl) rfl ?_
  have hE:=check82 c.ev h.ev
  have h0:=h.c0
  have h3:=h.c3
  have h2:=h.r2
  have g1:¬(c.cs.length:Int)=0:=by omega
  have g2:¬(8:Int)<(c.cs.length:Int):=by omega
  have g3:¬(12:Int)<(c.cs.length:Int)+(c.rs.length:Int):=by omega
  have hdL:=conds85 c h
  have hdC:=conds32 c h
  simp(disch:=first|omega|(simp only[lenW]<;>omega)) only[s98,wW,wV,simprocAttr]
  refine cp hE ?_
  simp(disch:=first|omega|(simp only[lenW]<;>omega)) only[g1,g2,g3,wW,wV,simprocAttr]
  refine Qaw 140 (fun i:Nat=>[(1,.ptr 50 0 0),(5,.map 68 0),(6,.sl 76 0 0 i 1),(7,.nilsl),(41,.int .i64 5),(42,.int .i64 i)]) (fun i=>[(50,.cells 0 [evsV c.ev,its 99 c.cs,its 114 c.rs,exs c.xs,cos c.ks]),(68,nmsB []),(76,.cells 0 (ints (nz (List.range i))))]) (fun i=>i<=5) (fun i=>5-i) 0 1 180
    (fun _:Unit=>[(1,.ptr 50 0 0),(5,.map 68 0),(6,sliN (List.range 5)),(7,sliN [])]) (fun _=>[(50,.cells 0 [evsV c.ev,its 99 c.cs,its 114 c.rs,exs c.xs,cos c.ks]),(68,nmsB [])]) (fun _=>True) ?_ (Nat.zero_le _) ?_ ?_
  · refine ⟨[(50, .blk 64 0), (68, .blk 90 0), (76, .nil)], rfl, au0, ?_, au16⟩
    exact RB.cells rfl rfl gg (RnL.same hnr) (RB.map rfl rfl gg QeZ (RB.newnil rfl rfl RB.nil))
  · rintro i hi
    by_cases hlt:i<5
    · have hlt2 : (i : Int) < 5 := by omega
      have hrl:(ints (nz (List.range i))).length=i:=by simp[ints]
      simp(disch:=first|omega|(simp only[lenW]<;>omega)) only[hlt2,List.length_range,hrl,wW,wV,simprocAttr]
      refine⟨i+1,by omega,by omega,?_⟩
      rw[List.range_succ,QaK,QaD]
      refine⟨[(50,.blk 50 0),(68,.blk 68 0),(76,.blk 76 1)],rfl,au0,?_,au16⟩
      exact RB.cells rfl rfl gg (RnL.same hnr) (RB.map rfl rfl gg QeZ (RB.cells rfl rfl gg (RnL.same (SU.QaV (Qaa _) rfl)) RB.nil))
    · have e : i = 5 := by omega
      subst e
      simp(disch:=first|omega|(simp only[lenW]<;>omega)) only[wW,wV,simprocAttr]
      refine⟨(),[(50,.blk 50 0),(68,.blk 68 0)],rfl,RO.zero,?_,?_⟩
      · exact RB.cells rfl rfl gg (RnL.same hnr) (RB.map rfl rfl gg QeZ RB.nil)
      · exact RT.cons (Rn.x2 rfl rfl) (RT.cons (Rn.x3 rfl rfl) (RT.cons (Rn.fz (b:=76) (g:=0) gg rfl rfl rfl (RnL.same rfl)) (RT.cons Rn.nilK RT.nil)))
  rintro _ _
  simp(disch:=first|omega|(simp only[lenW]<;>omega)) only[wW,wV,simprocAttr]
  refine Qaw 240 (fun i:Nat=>[(1,.ptr 50 0 0),(5,.map 68 0),(6,sliN (List.range 5)),(7,sliN (uUp (c.cs.take i))),(51,its 99 c.cs),(52,.int .i64 c.cs.length),(53,.int .i64 i)]) (fun i=>[(50,.cells 0 [evsV c.ev,its 99 c.cs,its 114 c.rs,exs c.xs,cos c.ks]),(68,nmsB (nmsI 99 (c.cs.take i)))]) (fun i=>i<=c.cs.length) (fun i=>c.cs.length-i) 0 3 280
    (fun _:Unit=>[(1,.ptr 50 0 0),(5,.map 68 0),(7,sliN (uUp c.cs))]) (fun _=>[(50,.cells 0 [evsV c.ev,its 99 c.cs,its 114 c.rs,exs c.xs,cos c.ks]),(68,nmsB (nmsI 99 c.cs))]) (fun _=>True) ?_ (Nat.zero_le _) ?_ ?_
  · refine ⟨[(50, .blk 50 0), (68, .blk 68 0)], rfl, au0, ?_, au16⟩
    exact RB.cells rfl rfl gg (RnL.same hnr) (RB.map rfl rfl gg QeZ RB.nil)
  · rintro i hi
    by_cases hlt:i<c.cs.length
    · obtain ⟨x, hx⟩ := Qad hlt
      have hxm:=List.mem_of_getElem? hx
      have hdr:=SU.QeY (ch:=99) hx
      have hdl:5<=((c.cs.flatMap (itC 99)).drop (i*5)).length:=by rw[hdr];simp
      have hwi:=h.ca x hxm
      have hfa:=QgJ h.cn hx
      have hnl:(nmsI 99 (c.cs.take i)).length<=100:=by simp[nmsI];omega
      have hN:=Qjr (i:=x.1) (by omega)
      have hnew:=Qk0 (ch:=99) h.cn (by omega) hx
      have hulen:(uUp (c.cs.take i)).length<=1000000:=by have:=QkZ (l:=c.cs.take i) fun y hy=>h.ca y (List.mem_of_mem_take hy);omega
      have hU:=union84 (uUp (c.cs.take i)) x.2.al hulen (by have:=QmX hwi.wf;omega)
      rw[<-QnL hx]at hU
      have hns:=Qjy (ch:=99) hx
      simp(disch:=first|omega|(simp only[lenW]<;>omega)) only[hlt,hdr,hdl,wW,wV,simprocAttr]
      refine SU.chc (item83F _ _ _ _ hwi hN hnew hnl List.pairwise_lt_range (by decide) (fun e he=>List.mem_range.2 (hwi.a5 e he)) gg) ?_
      simp(disch:=first|omega|(simp only[lenW]<;>omega)) only[wW,wV,simprocAttr]
      refine cp hU ?_
      simp(disch:=first|omega|(simp only[lenW]<;>omega)) only[wW,wV,simprocAttr]
      refine⟨i+1,by omega,by omega,?_⟩
      rw[hns]
      refine⟨[(50,.blk 50 0),(68,.blk 68 0)],rfl,au0,?_,au16⟩
      exact RB.cells rfl rfl gg (RnL.same hnr) (RB.map rfl rfl gg (RnM.mapS fun _ _=>Rn.same rfl) RB.nil)
    · have e : i = c.cs.length := by omega
      subst e
      simp(disch:=first|omega|(simp only[lenW]<;>omega)) only[hlt,List.take_length,wW,wV,simprocAttr]
      refine⟨(),?_⟩
      refine⟨[(50,.blk 50 0),(68,.blk 68 0)],rfl,au0,?_,au16⟩
      exact RB.cells rfl rfl gg (RnL.same hnr) (RB.map rfl rfl gg (RnM.mapS fun _ _=>Rn.same rfl) RB.nil)
  rintro _ _
  simp(disch:=first|omega|(simp only[lenW]<;>omega)) only[wW,wV,simprocAttr]
  refine Qaw 340 (fun i:Nat=>[(1,.ptr 50 0 0),(5,.map 68 0),(7,sliN (uUp c.cs)),(74,its 114 c.rs),(75,.int .i64 c.rs.length),(76,.int .i64 i)]) (fun i=>[(50,.cells 0 [evsV c.ev,its 99 c.cs,its 114 c.rs,exs c.xs,cos c.ks]),(68,nmsB (nmsI 99 c.cs++nmsI 114 (c.rs.take i)))]) (fun i=>i<=c.rs.length) (fun i=>c.rs.length-i) 0 5 380
    (fun _:Unit=>[(1,.ptr 50 0 0)]) (fun _=>[(50,.cells 0 [evsV c.ev,its 99 c.cs,its 114 c.rs,exs c.xs,cos c.ks])]) (fun _=>True) ?_ (Nat.zero_le _) ?_ ?_
  · rw [show nmsI 99 c.cs ++ nmsI 114 (c.rs.take 0) = nmsI 99 c.cs by simp [nmsI]]
    refine⟨[(50,.blk 50 0),(68,.blk 68 0)],rfl,au0,?_,au16⟩
    exact RB.cells rfl rfl gg (RnL.same hnr) (RB.map rfl rfl gg (RnM.mapS fun _ _=>Rn.same rfl) RB.nil)
  · rintro i hi
    by_cases hlt:i<c.rs.length
    · obtain ⟨x, hx⟩ := Qad hlt
      have hxm:=List.mem_of_getElem? hx
      have hdr:=SU.QeY (ch:=114) hx
      have hdl:5<=((c.rs.flatMap (itC 114)).drop (i*5)).length:=by rw[hdr];simp
      have hwi:=h.ra x hxm
      have hfa:=QgJ h.rn hx
      have hnl:(nmsI 99 c.cs++nmsI 114 (c.rs.take i)).length<=100:=by simp[nmsI];omega
      have hN:=Qpx (i:=x.1) (by omega)
      have hnew:[114,UInt8.ofNat (48+x.1)]∉nmsI 99 c.cs++nmsI 114 (c.rs.take i):=by
        intro hm
        rcases List.mem_append.1 hm with hm|hm
        · exact QmY (by decide) hm
        · exact Qk0 (ch:=114) h.rn (by omega) hx hm
      have hulen:(uUp c.cs).length<=1000000:=by have:=QkZ (l:=c.cs) h.ca;omega
      have hns:=Qjy (ch:=114) hx
      simp(disch:=first|omega|(simp only[lenW]<;>omega)) only[hlt,hdr,hdl,wW,wV,simprocAttr]
      refine SU.chc (item83F _ _ _ _ hwi hN hnew hnl (QgI h.ca) hulen (fun e he=>(QkY h.ca).2 (h.rsub x hxm e he)) gg) ?_
      simp(disch:=first|omega|(simp only[lenW]<;>omega)) only[wW,wV,simprocAttr]
      refine⟨i+1,by omega,by omega,?_⟩
      rw[hns,<-List.append_assoc]
      refine⟨[(50,.blk 50 0),(68,.blk 68 0)],rfl,au0,?_,au16⟩
      exact RB.cells rfl rfl gg (RnL.same hnr) (RB.map rfl rfl gg (RnM.mapS fun _ _=>Rn.same rfl) RB.nil)
    · simp (disch := first | omega | (simp only [lenW] <;> omega)) only [hlt, wW, wV, simprocAttr]
      refine⟨(),?_⟩
      refine⟨[(50,.blk 50 0)],rfl,au0,?_,au16⟩
      exact RB.cells rfl rfl gg (RnL.same hnr) RB.nil
  rintro _ _
  simp(disch:=first|omega|(simp only[lenW]<;>omega)) only[wW,wV,simprocAttr]
  refine cp hdL ?_
  simp(disch:=first|omega|(simp only[lenW]<;>omega)) only[wW,wV,simprocAttr]
  refine cp hdC ?_
  simp(disch:=first|omega|(simp only[lenW]<;>omega)) only[wW,wV,simprocAttr]
  exact⟨.inr trivial,_,rfl,rfl⟩
end Go.AM.SO
namespace Go.AM.SO
open Go.Proofs Go.AM.SD Go.AM.SE
theorem u8_wf {n:Int} (h:(Lit.int .u8 n).wf=true):0<=n/\n<256:=by
 grind [Lit.wf,IntKind.min,IntKind.max,IntKind.signed,IntKind.bits]
theorem i8_wf {n:Int} (h:(Lit.int .i8 n).wf=true): -128<=n/\n<128:=by
 grind [Lit.wf,IntKind.min,IntKind.max,IntKind.signed,IntKind.bits]
def u8O:Ty->Bool
 | .int k=>k== .u8
 | .arr _ t=>u8O t
 | .st t=>u8O t
 | .unit=>true
 | .pair a b=>u8O a&&u8O b
 |_=>false
theorem Qel {a b:List Nat}:u8s (a++b)=u8s a++u8s b:=by simp[u8s]
theorem QbK:∀(t:Ty),u8O t=true->∀(d:t.D),t.wf d->∃l:List Nat,l.length=t.sz/\(∀x∈l,x<256)/\t.cells d=u8s l
 | .int k,h,d,hw=>by
  have:k= .u8:=by grind [u8O]
  subst this
  have:=u8_wf hw
  refine⟨[Int.toNat d],rfl,by simp;omega,?_⟩
  show[AV.int .u8 d]=[AV.int .u8 ((Int.toNat d:Nat):Int)]
  grind
 | .bool,h,_,_=>by cases h
 | .str,h,_,_=>by cases h
 | .sl _,h,_,_=>by cases h
 | .st t,h,d,hw=>QbK t h d hw
 | .unit,_,_,_=>⟨[],rfl,by simp,rfl⟩
 | .pair a b,h,d,hw=>by
  simp only[u8O,Bool.and_eq_true]at h
  obtain⟨l,h1,h2,h3⟩:=QbK a h.1 d.1 hw.1
  obtain⟨m,g1,g2,g3⟩:=QbK b h.2 d.2 hw.2
  refine⟨l++m,by rw[List.length_append,h1,g1];rfl,fun x hx=>(List.mem_append.1 hx).elim (h2 x) (g2 x),?_⟩
  show a.cells d.1++b.cells d.2=_
  rw[h3,g3,Qel]
 | .arr n t, h, d, hw => by
  obtain⟨hl,hx⟩:=hw
  have key:∀l:List t.D,(∀x∈l,t.wf x)->∃r:List Nat,r.length=l.length*t.sz/\(∀x∈r,x<256)/\l.flatMap t.cells=u8s r:=by
   intro l
   induction l with
   |nil=>intro _;exact⟨[],by simp,by simp,rfl⟩
   |cons a l ih=>
    intro hl
    obtain⟨r,g1,g2,g3⟩:=ih fun y hy=>hl y (by simp[hy])
    obtain⟨m,h1,h2,h3⟩:=QbK t h a (hl a (by simp))
    refine⟨m++r,by grind,fun x hx=>(List.mem_append.1 hx).elim (h2 x) (g2 x),?_⟩
    rw[List.flatMap_cons,g3,h3,Qel]
  obtain⟨r,g1,g2,g3⟩:=key d hx
  refine⟨r,by rw[g1];show List.length d*t.sz=n*t.sz;rw[hl],g2,g3⟩
abbrev tyTo:Ty:= .arr 5 (.arr 5 (.int .u8))
abbrev tyGr:Ty:= .st (.pair (.int .u8) (.pair (.int .u8) (.pair tyTo .unit)))
abbrev tyPln:Ty:= .st (.pair (.arr 5 (.int .u8)) (.pair (.int .u8) (.pair (.arr 3 (.int .u8)) (.pair (.arr 3 tyGr) (.pair (.int .u8) (.pair (.arr 2 (.int .u8)) (.pair (.arr 2 tyGr)
 (.pair (.sl (.arr 4 (.int .u8))) (.pair (.arr 3 (.int .i8)) (.pair (.int .i8) .unit))))))))))
theorem Qpy {d:tyPln.D} (h:tyPln.wf d):∃p:Pln,POk p/\p.xn<=9223372036854775807/\tyPln.val d=plnV p:=by
 obtain⟨a,b,c,g,e,f,k,x,y,z,u⟩:=d
 obtain⟨h1,h2,h3,h4,h5,h6,h7,h8,h9,h10,_⟩:=h
 dsimp only at h1 h2 h3 h4 h5 h6 h7 h8 h9 h10
 obtain⟨l1,a1,b1,c1⟩:=QbK (.arr 5 (.int .u8)) rfl _ h1
 obtain⟨l2,a2,b2,c2⟩:=QbK (.int .u8) rfl _ h2
 obtain⟨l3,a3,b3,c3⟩:=QbK (.arr 3 (.int .u8)) rfl _ h3
 obtain⟨l4,a4,b4,c4⟩:=QbK (.arr 3 tyGr) rfl _ h4
 obtain⟨l5,a5,b5,c5⟩:=QbK (.int .u8) rfl _ h5
 obtain⟨l6,a6,b6,c6⟩:=QbK (.arr 2 (.int .u8)) rfl _ h6
 obtain⟨l7,a7,b7,c7⟩:=QbK (.arr 2 tyGr) rfl _ h7
 obtain⟨h80,h8⟩:=h8
 obtain⟨l8,a8,b8,c8⟩:=QbK (.arr (List.length x) (.arr 4 (.int .u8))) rfl x ⟨rfl,h8⟩
 obtain⟨hy,hyw⟩:=h9
 obtain⟨y0,y1,y2,rfl⟩:∃y0 y1 y2,y=[y0,y1,y2]:=by
  match y,hy with
  |[y0,y1,y2],_=>exact⟨y0,y1,y2,rfl⟩
 have w0:=i8_wf (hyw y0 (by simp))
 have w1:=i8_wf (hyw y1 (by simp))
 have w2:=i8_wf (hyw y2 (by simp))
 have wz:=i8_wf h10
 refine⟨⟨l1++l2++l3++l4++l5++l6++l7,l8,List.length x,y0,y1,y2,z⟩,⟨?_,?_,a8,b8,w0,w1,w2,wz⟩,h80,?_⟩
 ·simp only[List.length_append,a1,a2,a3,a4,a5,a6,a7];rfl
 ·grind
 ·show AV.agg (tyPln.cells _) = _
  congr 1
  show(Ty.arr 5 (.int .u8)).cells a++((Ty.int .u8).cells b++((Ty.arr 3 (.int .u8)).cells c++((Ty.arr 3 tyGr).cells g++((Ty.int .u8).cells e++((Ty.arr 2 (.int .u8)).cells f++((Ty.arr 2 tyGr).cells k++
   ([.fsl ((Ty.arr (List.length x) (.arr 4 (.int .u8))).cells x) (List.length x) 4]++((Ty.arr 3 (.int .i8)).cells [y0,y1,y2]++((Ty.int .i8).cells z++[])))))))))=_
  rw[c1,c2,c3,c4,c5,c6,c7,c8]
  simp only[plnC,Qel,List.append_assoc]
  rfl
end Go.AM.SO
namespace Go.AM.SO
open Go.Proofs Go.AM.SD Go.AM.SE
def eqL {α:Type} (e:α->α->Bool) (a b:List α):Bool:=decide (a.length=b.length)&&(List.range a.length).all fun i=>match a[i]?,b[i]? with
 |some x,some y=>e x y
 |_,_=>true
theorem Qe0 {α:Type} {e:α->α->Bool} {a b:List α} (h:¬a.length=b.length):eqL e a b=false:=by
 unfold eqL;simp[h]
theorem Qdw {α:Type} {e:α->α->Bool} {a b:List α} (hl:a.length=b.length) (h:∀(j:Nat) x y,a[j]?=some x->b[j]?=some y->e x y=true):eqL e a b=true:=by
 unfold eqL
 rw[Bool.and_eq_true,decide_eq_true_eq,List.all_eq_true]
 refine⟨hl,fun i _=>?_⟩
 split
 ·rename_i x y hx hy;exact h i x y hx hy
 ·rfl
theorem QdE {α:Type} {e:α->α->Bool} {a b:List α} {i:Nat} {x y:α} (hx:a[i]?=some x) (hy:b[i]?=some y) (he:e x y=false):eqL e a b=false:=by
 have hi:i<a.length:=by
  rcases Nat.lt_or_ge i a.length with h|h
  ·exact h
  ·rw[List.getElem?_eq_none h]at hx;cases hx
 unfold eqL
 rw[Bool.and_eq_false_iff]
 right
 rw[List.all_eq_false]
 exact⟨i,List.mem_range.2 hi,by rw[hx,hy];simp[he]⟩
theorem Qjz {α:Type} {e:α->α->Bool} {a:List α} (h:∀x∈a,e x x=true):eqL e a a=true:=
 Qdw rfl fun j x y hx hy=>by rw[hx]at hy;cases hy;exact h x (List.mem_of_getElem? hx)
def itN (x:List UInt8×Aut):List AV:=[.str x.1,sliN x.2.al,.int .i64 (x.2.n:Int),sliN x.2.ms,egsN x.2.es]
abbrev itsN (l:List (List UInt8×Aut)):AV:= .fsl (l.flatMap itN) l.length 5
def nmL' (ch:UInt8) (l:List (Nat×Aut)):List (List UInt8×Aut):=l.map fun x=>([ch,UInt8.ofNat (48+x.1)],x.2)
theorem QgK {ch:UInt8} {l:List (Nat×Aut)}:its ch l=itsN (nmL' ch l):=by
 unfold nmL'
 have:(l.map fun x=>([ch,UInt8.ofNat (48+x.1)],x.2)).flatMap itN=l.flatMap (itC ch):=by
  rw[List.flatMap_map];rfl
 rw[itsN,this,List.length_map]
theorem Qa5 (l:List (List UInt8×Aut)):noRefs (l.flatMap itN)=true:=QaJ (fun x=>by simp only[itN,noRefs,noRef,Qaa,Qah];rfl) l
theorem Qcr (l:List (List UInt8×Aut)):noRef (itsN l)=true:=by simp only[noRef];exact Qa5 l
theorem QeU (l:List (List UInt8×Aut)):(l.flatMap itN).length=l.length*5:=Qbn (k:=5) (fun _=>rfl) l
theorem Qk1 {l:List (List UInt8×Aut)} {i:Nat} {x:List UInt8×Aut} (h:l[i]?=some x):(l.flatMap itN).drop (i*5)= .str x.1::sliN x.2.al:: .int .i64 (x.2.n:Int)::sliN x.2.ms::egsN x.2.es::(l.drop (i+1)).flatMap itN:=Qa3 (f:=itN) (k:=5) (fun _=>rfl) h
def evl (e:Nat->Evt):List (List UInt8×Evt):=(List.range 5).map fun i=>([UInt8.ofNat (97+i)],e i)
def evN (x:List UInt8×Evt):List AV:=[.str x.1,.bool x.2.c,.bool x.2.o,.bool x.2.f,.int .i64 (x.2.flt:Int)]
theorem QoC (l:List (List UInt8×Evt)):(l.flatMap evN).length=l.length*5:=Qbn (k:=5) (fun _=>rfl) l
theorem QnM {l:List (List UInt8×Evt)} {i:Nat} {x:List UInt8×Evt} (h:l[i]?=some x):(l.flatMap evN).drop (i*5)= .str x.1:: .bool x.2.c:: .bool x.2.o:: .bool x.2.f:: .int .i64 (x.2.flt:Int)::(l.drop (i+1)).flatMap evN:=Qa3 (f:=evN) (k:=5) (fun _=>rfl) h
end Go.AM.SO
namespace Go.AM.SO
open Go.Proofs Go.AM.SD Go.AM.SE
def vrI (ch:UInt8) (x:Nat×Aut):List UInt8×Int:=([ch,UInt8.ofNat (48+x.1)],(x.2.n:Int)-1)
def vrsL (c:Cel):List (List UInt8×Int):=c.cs.map (vrI 99)++c.rs.map (vrI 114)
theorem QnN {c:Cel}:(vrsL c).length=c.cs.length+c.rs.length:=by simp[vrsL]
theorem Qdx {c:Cel} (h:WfCel c):(vrsL c).length<=5:=by
 have:=h.c3;have:=h.r2
 rw[QnN];omega
theorem Qg5 {c:Cel} (h:WfCel c):∀x∈vrsL c,0<=x.2/\x.2<=2:=by
 intro x hx
 rcases List.mem_append.1 hx with hx|hx
 ·obtain ⟨y, hy, rfl⟩ := List.mem_map.1 hx
  have h1:=(h.ca y hy).pos
  have h2:=(h.ca y hy).n3
  show 0<=((y.2.n:Nat):Int)-1/\((y.2.n:Nat):Int)-1<=2
  omega
 ·obtain ⟨y, hy, rfl⟩ := List.mem_map.1 hx
  have h1:=(h.ra y hy).pos
  have h2:=(h.ra y hy).n3
  show 0<=((y.2.n:Nat):Int)-1/\((y.2.n:Nat):Int)-1<=2
  omega
def szV (n:Int) (l:List (List UInt8×Int)):Int:=l.foldl (fun n x=>n*(x.2+1)) n
theorem QmZ:∀{l:List (List UInt8×Int)} {n m:Int},(∀x∈l,0<=x.2/\x.2<=2)->1<=n->n<=m->1<=szV n l/\szV n l<=m*3^l.length
 |[],n,m,_,h1,h2=>by simp[szV];omega
 | x :: l, n, m, h, h1, h2 => by
  have hx:=h x (by simp)
  have hn:1<=n*(x.2+1)/\n*(x.2+1)<=m*3:=by
   have:x.2=0\/x.2=1\/x.2=2:=by omega
   rcases this with e|e|e<;>rw[e]<;>omega
  have ih:=QmZ (l:=l) (fun y hy=>h y (by simp[hy])) hn.1 hn.2
  refine⟨ih.1,?_⟩
  rw[List.length_cons,Int.pow_succ,Int.mul_comm (3^l.length) 3,<-Int.mul_assoc]
  exact ih.2
theorem QjA {l:List (List UInt8×Int)} {i:Nat} {x:List UInt8×Int} (h:l[i]?=some x):szV 1 (l.take (i+1))=szV 1 (l.take i)*(x.2+1):=by
 unfold szV;rw[take_succ' h,List.foldl_append];rfl
theorem Qdy {l:List (List UInt8×Int)} (h:∀x∈l,0<=x.2/\x.2<=2) (hl:l.length<=5) (i:Nat):1<=szV 1 (l.take i)/\szV 1 (l.take i)<=243:=by
 have hb:=QmZ (l:=l.take i) (n:=1) (m:=1) (fun x hx=>h x (List.mem_of_mem_take hx)) (by decide) (by decide)
 refine⟨hb.1,Int.le_trans hb.2 ?_⟩
 have hk:(l.take i).length<=5:=by rw[List.length_take];omega
 generalize (l.take i).length=k at hk
 have:k=0\/k=1\/k=2\/k=3\/k=4\/k=5:=by omega
 rcases this with rfl|rfl|rfl|rfl|rfl|rfl<;>decide
theorem QoD {c:Cel} (h:WfCel c):1<=szV 1 (vrsL c)/\szV 1 (vrsL c)<=243:=by
 have:=Qdy (Qg5 h) (Qdx h) (vrsL c).length
 rwa [List.take_length]at this
end Go.AM.SO
namespace Go.AM.UK
open Go.Proofs
set_option maxHeartbeats 4000000
noncomputable section
def cf:YA.Cf:={most:= .pure,always:=[16,84,130,158,182,203].map fun k=>(k,.heap),value:= .pure}
def s7:SFn:=by
 refine(?f:YA.Yt Tryz.prog cf 7 [[0,6],[27,28,29,30,31,32,33,34,35,36,37,38,39,40,41,42],[1,2,3,43,44],[6,3,43,46,47,45,48,49],[8,50],[1,2,7,51],[6,51,52,53,54],[55,56,57,58,59,60,61,62,63,64,65,66,67,68,69,70,71,72,73,74,75,76,77,78,79,80],[1,2,7,9,81],[6,81],[82,83,84],[85,89,90,91,92,93,94,95,88,96,97],[],[98,99,100,101,102,103,104,105,106,107],[108,109,110],[11,12,13,111,112,113],[1,2,7,9,10,166,154,165,157,164,162,163,161,160,158,159,156,155,148,147,145,146,144,122,121,115,120,116,117,119,118,114,246,244,245,241,240,237,235,236,232,231,228,226,227,224,225,221,219,220,216,215,214,123],[6,123,125,126,127,128,129,130,131,124,132,133],[134,135,136,137,138,139,140],[141,142,143],[149],[14,15,16,149,150,151,152,153],[1,2,7,9,10,166,154,165,157,164,162,163,161,160,158,159,156,155,148,147,145,146,144,122,121,115,120,116,117,119,118,114,246,244,245,241,240,237,235,236,232,231,228,226,227,224,225,221,219,220,216,215,214,167],[6,167,168,169,170,171,172,173,174],[175],[176,178,179,180,181,182,183,177,184,185,18],[17,19,186,187],[1,2,7,9,10,166,154,165,157,164,162,163,161,160,158,159,156,155,148,147,145,146,144,122,121,115,120,116,117,119,118,114,246,244,245,241,240,237,235,236,232,231,228,226,227,224,225,221,219,220,216,215,214,188],[6,188,17,176,86,87],[2,10,166,154,165,157,164,162,163,161,160,158,159,156,155,148,147,145,146,144,122,121,115,120,116,117,119,118,114,189],[1,7,9,246,244,245,241,240,237,235,236,232,231,228,226,227,224,225,221,219,220,216,215,214,190],[6,190,192,193,194,191,195,196,197],[199,200,201,198,202,203],[205,206,207,204,208,209],[1,7,9,246,244,245,241,240,237,235,236,232,231,228,226,227,224,225,221,219,220,216,215,214,20,21,22,23,24,25,26,210,211,212,213,217,218,222,223,229,230,233,234,238,239,242,243,247]] [(9,[(5,9)])]) ?s ?h
 case h=>exact YA.rr
 exact fun s _=>s
def s10:SFn:=by
 refine(?f:YA.Yt Tryz.prog cf 10 [[0,3],[1,5,6],[4,7,8,9,10]]) ?s ?h
 case h=>exact YA.rr
 exact fun s _=>s
def s12:SFn:=by
 refine(?f:YA.Yt Tryz.prog cf 12 [[0,2],[],[1,6,7,8,9,10,11,12],[],[13,14,15],[16,19,20,21,22,23,24,25,26,27,28,29,30,31,32,33,34],[17,18],[3,4,5,35]] [(5,[(0,2),(0,5),(3,5)])]) ?s ?h
 case h=>exact YA.rr
 exact fun s _=>s
def s16:SFn:=by
 refine(?f:YA.Yt Tryz.prog cf 16 [[4],[6,7,8,9],[0,1,10],[4,10],[11,12,13],[14,17,18,19,20,21,22,23,24,25,26,27,28],[0,1,5,40,39,33,38,37,36,34,35,32,31,29,30,41],[4,41,15,16],[0,1,5,40,39,33,38,37,36,34,35,32,31,29,30]]) ?s ?h
 case h=>exact YA.rr
 exact fun s _=>s
def s19:SFn:=by
 refine(?f:YA.Yt Tryz.prog cf 19 [[0,5,6],[8,9,10],[11],[1,2,12,13,14],[5,12,16,17,15,18,19],[20],[1,2,7,21,22,23],[6,1,2,7,21,25,26,27,28,24,29,30],[31,32]]) ?s ?h
 case h=>exact YA.rr
 exact fun s _=>s
def s23:SFn:=by
 refine(?f:YA.Yt Tryz.prog cf 23 [[0,4],[19,20,21],[22],[1,2,5,23,24],[4,5,23,26,27,25,28,29,30],[31],[1,2,6,7,8,32,33],[4,8,32,34,35,36],[1,2,6,7,37],[4,37,39,40,38,41,42,43,10],[44],[1,2,6,7,9,8,45,46],[4,2,8,45,48,49,50,51,47,52,53],[7,11,54,55,56,57],[1,6,9,12,58],[4,9,58,59,60,61,62,63],[12],[],[67,68,69],[],[],[73,74,75],[18,76,77,78,79,80,81,82,83,84,85,92,93],[1,6,13,14,64,65,66,98,94,97,95,96,91,90,86,87,89,88,16,70,71,72,99],[4,99,100],[16,70,71,72,101],[1,6,13,14,64,65,66,98,94,97,95,96,91,90,86,87,89,88]]) ?s ?h
 case h=>exact YA.rr
 exact fun s _=>s
def s31:SFn:=by
 refine(?f:YA.Yt Tryz.prog cf 31 [[0,4,5],[14,15,16,13,17,18],[19],[1,2,6,7,20,21],[4,5,7,20],[1],[],[25,26,27],[29,30,31,32,28,33,34],[35],[2,6,8,22,23,24,10,11,12,36,37],[4,5,10,11,12,36,38,39,40,41,42,43,44,45,46,47,48,49],[50],[2,6,8,22,23,24,51]]) ?s ?h
 case h=>exact YA.rr
 exact fun s _=>s
def s32:SFn:=by
 refine(?f:YA.Yt Tryz.prog cf 32 [[0,4,5],[2,14,15,16,13,17,18],[19],[1,6,7,20,21],[4,5,7,20],[1],[],[25,26,27],[10,29,30,31,32,28,33,34],[35],[6,8,22,23,24,11,12,36,37],[4,5,11,12,36,38,39,40],[41],[6,8,22,23,24,42]]) ?s ?h
 case h=>exact YA.rr
 exact fun s _=>s
def s33:SFn:=by
 refine(?f:YA.Yt Tryz.prog cf 33 [[2],[5,6],[0,7],[2,7],[8,9,10],[11,14,15,16,17,18,19],[0,3,53,52,51,50,49,47,48,46,45,43,44,20],[2,20],[21,22,23,24,25,26,27],[28,31,32,33,34,35,36,37,38,39,40,41,42],[0,3,53,52,51,50,49,47,48,46,45,43,44,4,54],[2,54,29,30],[4,12,13],[0,3,53,52,51,50,49,47,48,46,45,43,44]]) ?s ?h
 case h=>exact YA.rr
 exact fun s _=>s
def s34:SFn:=by
 refine(?f:YA.Yt Tryz.prog cf 34 [[0,4],[11,12],[],[13,14,15],[16,19,20,21,22,23],[25,26,27,33],[1,2,5,6,123,117,122,121,119,120,118,116,114,115,113,110,104,109,108,107,105,106,103,101,102,100,85,82,84,83,81,80,53,46,52,51,50,47,49,48,32,28,31,30,29,7,24],[24,35,36,37,38,39,40,41],[1,2,5,6,123,117,122,121,119,120,118,116,114,115,113,110,104,109,108,107,105,106,103,101,102,100,85,82,84,83,81,80,53,46,52,51,50,47,49,48,32,28,31,30,29,7,34],[7,34,43,44,45,54],[1,2,5,6,123,117,122,121,119,120,118,116,114,115,113,110,104,109,108,107,105,106,103,101,102,100,85,82,84,83,81,80,53,46,52,51,50,47,49,48,32,28,31,30,29,42],[4,42],[55,56,57,58,59,60,61],[62,65,66,67,68,69,70,71,72],[73,74,75,76,77,78,79],[1,2,5,6,123,117,122,121,119,120,118,116,114,115,113,110,104,109,108,107,105,106,103,101,102,100,85,82,84,83,81,80,53,46,52,51,50,47,49,48,32,28,31,30,29,8,9,86],[4,86],[87,88,89],[90,93,94,95,96,97,98,99,111,112],[1,2,5,6,123,117,122,121,119,120,118,116,114,115,113,110,104,109,108,107,105,106,103,101,102,100,85,82,84,83,81,80,53,46,52,51,50,47,49,48,32,28,31,30,29,8,9,10,124],[4,124,91,92],[9,10,63,64],[8,17,18],[1,2,5,6,123,117,122,121,119,120,118,116,114,115,113,110,104,109,108,107,105,106,103,101,102,100,85,82,84,83,81,80,53,46,52,51,50,47,49,48,32,28,31,30,29]]) ?s ?h
 case h=>exact YA.rr
 exact fun s _=>s
def s35:SFn:=by
 refine(?f:YA.Yt Tryz.prog cf 35 [[0,4],[1,2,8,9,10,7,11,12,5],[6,13]]) ?s ?h
 case h=>exact YA.rr
 exact fun s _=>s
def s36:SFn:=by
 refine(?f:YA.Yt Tryz.prog cf 36 [[4],[0,1,5,6,7]]) ?s ?h
 case h=>exact YA.rr
 exact fun s _=>s
def s37:SFn:=by
 refine(?f:YA.Yt Tryz.prog cf 37 [[1,5],[10,11,12],[13],[0,3,6,14,15],[5,3,14,16,17],[0,6,18,19,20,21],[],[25,26,27],[9,28,29,30,31,32,33,34,35,36,37,38,39],[40],[7,22,23,24,41]]) ?s ?h
 case h=>exact YA.rr
 exact fun s _=>s
def s39:SFn:=by
 refine(?f:YA.Yt Tryz.prog cf 39 [[4],[7,8,9,10],[0,1,11],[4,0,11],[],[15,16,17,18],[6,5,19,20,21,22,23,24,25,26],[1,12,13,14,33,30,32,31,29,27,28,34],[4,34,35],[1,12,13,14,33,30,32,31,29,27,28]]) ?s ?h
 case h=>exact YA.rr
 exact fun s _=>s
def s40:SFn:=by
 refine(?f:YA.Yt Tryz.prog cf 40 [[4],[],[6,7,8],[9,12,13,14,15,16],[0,1,5,17],[4,17,10,11],[0,1,5]]) ?s ?h
 case h=>exact YA.rr
 exact fun s _=>s
def s43:SFn:=by
 refine(?f:YA.Yt Tryz.prog cf 43 [[0,2],[],[1,6,7],[],[8,9,10],[11,14,15,16,17,18,19,20,21],[12,13],[3,4,5,22]]) ?s ?h
 case h=>exact YA.rr
 exact fun s _=>s
def s44:SFn:=by
 refine(?f:YA.Yt Tryz.prog cf 44 [[0,2,3],[9,10],[11],[1,4,12,13],[2,3,1,4,12,14,15],[],[],[],[19,20,21],[8,22,23,24,25,26],[27],[5,6,16,17,18,28],[2,3,28,29],[5,6,16,17,18,30]]) ?s ?h
 case h=>exact YA.rr
 exact fun s _=>s
def s54:SFn:=by
 refine(?f:YA.Yt Tryz.prog cf 54 [[4],[0,1,5,6,7]]) ?s ?h
 case h=>exact YA.rr
 exact fun s _=>s
def s65:SFn:=by
 refine(?f:YA.Yt Tryz.prog cf 65 [[0,1,4],[2,3,5,6,7,8]]) ?s ?h
 case h=>exact YA.rr
 exact fun s _=>s
def s71:SFn:=by
 refine(?f:YA.Yt Tryz.prog cf 71 [[0,4,5],[12,13,11,14,15],[16],[1,2,6,7,17,18],[4,5,7,17],[],[22,23,24,25],[27,28,29,30,37],[1,2,6,19,20,21,59,52,58,57,56,53,55,54,51,36,32,35,34,33,31,9,8,26],[26,39,40,41,42,43,44,45,46],[1,2,6,19,20,21,59,52,58,57,56,53,55,54,51,36,32,35,34,33,31,9,8,38],[8,38,48,49,50,60],[1,2,6,19,20,21,59,52,58,57,56,53,55,54,51,36,32,35,34,33,31,9,47],[4,5,9,47,61,62,63,64],[65],[1,2,6,19,20,21,59,52,58,57,56,53,55,54,51,36,32,35,34,33,31,10,66,67],[4,5,10,66,68],[1,2,6,19,20,21,59,52,58,57,56,53,55,54,51,36,32,35,34,33,31,69]]) ?s ?h
 case h=>exact YA.rr
 exact fun s _=>s
def s79:SFn:=by
 refine(?f:YA.Yt Tryz.prog cf 79 [[6],[10,11,12,13],[0,1,2,14],[6,0,14],[],[18,19,20,21],[7,22,23,24,25],[8,9,26,27,28,29],[1,2,15,16,17,30],[6,30,31],[1,2,15,16,17]]) ?s ?h
 case h=>exact YA.rr
 exact fun s _=>s
def s80:SFn:=by
 refine(?f:YA.Yt Tryz.prog cf 80 [[0,1,4],[2,3,5,6,7,8,9,10,11,12,13,14,15,16]]) ?s ?h
 case h=>exact YA.rr
 exact fun s _=>s
def s81:SFn:=by
 refine(?f:YA.Yt Tryz.prog cf 81 [[6],[10,11,12,13],[0,1,2,14],[6,0,14],[],[18,19,20,21],[7,22,23,24,25],[8,9,26,27,28,29],[1,2,15,16,17,30],[6,30,31],[1,2,15,16,17]]) ?s ?h
 case h=>exact YA.rr
 exact fun s _=>s
def s82:SFn:=by
 refine(?f:YA.Yt Tryz.prog cf 82 [[0,1,4],[2,3,5,6,7,8,9,10,11,12,13,14,15,16]]) ?s ?h
 case h=>exact YA.rr
 exact fun s _=>s
def s84:SFn:=by
 refine(?f:YA.Yt Tryz.prog cf 84 [[4],[6],[],[9,10],[11,12,13,14,15],[0,1,7,8,5,16,17],[4,5,16,18],[0,1,7,8]]) ?s ?h
 case h=>exact YA.rr
 exact fun s _=>s
def s85:SFn:=by
 refine(?f:YA.Yt Tryz.prog cf 85 [[0,3],[1,2,4,5,6,7]]) ?s ?h
 case h=>exact YA.rr
 exact fun s _=>s
def s87:SFn:=by
 refine(?f:YA.Yt Tryz.prog cf 87 [[0,4],[],[6,7,8],[9,12,13,14,15,16,17,18,19,20,21,22],[1,2,5,32,26,31,30,28,29,27,25,23,24,33],[4,33,10,11],[1,2,5,32,26,31,30,28,29,27,25,23,24]]) ?s ?h
 case h=>exact YA.rr
 exact fun s _=>s
def s99:SFn:=by
 refine(?f:YA.Yt Tryz.prog cf 99 [[0,2],[],[1,6,7,8,9,10],[],[14,15,16],[5,17,18,19,20,21,22,23,24,25,26],[27],[3,11,12,13,28]]) ?s ?h
 case h=>exact YA.rr
 exact fun s _=>s
def s124:SFn:=by
 refine(?f:YA.Yt Tryz.prog cf 124 [[4],[6,7,8,9],[0,1,10],[4,10],[11,12,13],[14,17,18,19,20,21,22,23,24,25,26,27,28,29],[0,1,5,41,40,34,39,38,37,35,36,33,32,30,31,42],[4,42,15,16],[0,1,5,41,40,34,39,38,37,35,36,33,32,30,31]]) ?s ?h
 case h=>exact YA.rr
 exact fun s _=>s
def s130:SFn:=by
 refine(?f:YA.Yt Tryz.prog cf 130 [[4],[0,1,5,6,7,8]]) ?s ?h
 case h=>exact YA.rr
 exact fun s _=>s
def s131:SFn:=by
 refine(?f:YA.Yt Tryz.prog cf 131 [[0,3],[1],[],[9,10,11,12],[4,5,13,14,15,16,17,18,19,20],[2,6,7,8,27,21,26,25,23,24,22,28],[3,28,29],[2,6,7,8,27,21,26,25,23,24,22]]) ?s ?h
 case h=>exact YA.rr
 exact fun s _=>s
def s139:SFn:=by
 refine(?f:YA.Yt Tryz.prog cf 139 [[4],[1],[],[12,13,14],[15,16,17,18,19,20,21],[0,9,10,11,65,59,64,63,61,62,60,58,56,57,55,52,49,51,50,48,46,47,45,27,24,26,25,23,22,6,28],[4,28],[],[32,33,34,35],[8,7,36,37,38,39,40,41,42,43,44,53,54],[0,9,10,11,65,59,64,63,61,62,60,58,56,57,55,52,49,51,50,48,46,47,45,27,24,26,25,23,22,6,29,30,31,66],[4,66,67],[6,29,30,31,68],[0,9,10,11,65,59,64,63,61,62,60,58,56,57,55,52,49,51,50,48,46,47,45,27,24,26,25,23,22]]) ?s ?h
 case h=>exact YA.rr
 exact fun s _=>s
def s158:SFn:=by
 refine(?f:YA.Yt Tryz.prog cf 158 [[2],[],[],[],[12,13,14],[5,15,16,17,18],[19],[20,21],[20,22],[3,9,10,11,23,24],[0],[],[28,29,30],[8,31,32,33],[34],[6,25,26,27,35]]) ?s ?h
 case h=>exact YA.rr
 exact fun s _=>s
def s182:SFn:=by
 refine(?f:YA.Yt Tryz.prog cf 182 [[4],[6],[],[9,10],[11,12,13,14,15],[0,1,7,8,5,16,17],[4,5,16,18],[0,1,7,8]]) ?s ?h
 case h=>exact YA.rr
 exact fun s _=>s
def s203:SFn:=by
 refine(?f:YA.Yt Tryz.prog cf 203 [[4],[5],[6,7],[6,8,9,10,11,12,13,14],[15],[1,16,17,18,19,20,21,22,23,24,25],[0,1,16,26]]) ?s ?h
 case h=>exact YA.rr
 exact fun s _=>s
theorem ok7:okFn Tryz.prog 7 s7=true:=by kernel_rfl
theorem ok10:okFn Tryz.prog 10 s10=true:=by kernel_rfl
theorem ok12:okFn Tryz.prog 12 s12=true:=by kernel_rfl
theorem ok16:okFn Tryz.prog 16 s16=true:=by kernel_rfl
theorem ok19:okFn Tryz.prog 19 s19=true:=by kernel_rfl
theorem ok23:okFn Tryz.prog 23 s23=true:=by kernel_rfl
theorem ok31:okFn Tryz.prog 31 s31=true:=by kernel_rfl
theorem ok32:okFn Tryz.prog 32 s32=true:=by kernel_rfl
theorem ok33:okFn Tryz.prog 33 s33=true:=by kernel_rfl
theorem ok34:okFn Tryz.prog 34 s34=true:=by kernel_rfl
theorem ok35:okFn Tryz.prog 35 s35=true:=by kernel_rfl
theorem ok36:okFn Tryz.prog 36 s36=true:=by kernel_rfl
theorem ok37:okFn Tryz.prog 37 s37=true:=by kernel_rfl
theorem ok39:okFn Tryz.prog 39 s39=true:=by kernel_rfl
theorem ok40:okFn Tryz.prog 40 s40=true:=by kernel_rfl
theorem ok43:okFn Tryz.prog 43 s43=true:=by kernel_rfl
theorem ok44:okFn Tryz.prog 44 s44=true:=by kernel_rfl
theorem ok54:okFn Tryz.prog 54 s54=true:=by kernel_rfl
theorem ok65:okFn Tryz.prog 65 s65=true:=by kernel_rfl
theorem ok71:okFn Tryz.prog 71 s71=true:=by kernel_rfl
theorem ok79:okFn Tryz.prog 79 s79=true:=by kernel_rfl
theorem ok80:okFn Tryz.prog 80 s80=true:=by kernel_rfl
theorem ok81:okFn Tryz.prog 81 s81=true:=by kernel_rfl
theorem ok82:okFn Tryz.prog 82 s82=true:=by kernel_rfl
theorem ok84:okFn Tryz.prog 84 s84=true:=by kernel_rfl
theorem ok85:okFn Tryz.prog 85 s85=true:=by kernel_rfl
theorem ok87:okFn Tryz.prog 87 s87=true:=by kernel_rfl
theorem ok99:okFn Tryz.prog 99 s99=true:=by kernel_rfl
theorem ok124:okFn Tryz.prog 124 s124=true:=by kernel_rfl
theorem ok130:okFn Tryz.prog 130 s130=true:=by kernel_rfl
theorem ok131:okFn Tryz.prog 131 s131=true:=by kernel_rfl
theorem ok139:okFn Tryz.prog 139 s139=true:=by kernel_rfl
theorem ok158:okFn Tryz.prog 158 s158=true:=by kernel_rfl
theorem ok182:okFn Tryz.prog 182 s182=true:=by kernel_rfl
theorem ok203:okFn Tryz.prog 203 s203=true:=by kernel_rfl
end
end Go.AM.UK
namespace Go.AM.SO
open Go.Proofs Go.AM.SD Go.AM.SE
def vrN (x:List UInt8×Aut):List UInt8×Int:=(x.1,(x.2.n:Int)-1)
def itsL (c:Cel):List (List UInt8×Aut):=nmL' 99 c.cs++nmL' 114 c.rs
theorem vrs_N (c:Cel):vrsL c=(itsL c).map vrN:=by
 unfold vrsL itsL nmL'
 rw[List.map_append,List.map_map,List.map_map];rfl
theorem QjB (c:Cel):(itsL c).length=c.cs.length+c.rs.length:=by simp[itsL,nmL']
theorem Qm0 {c:Cel} (h:WfCel c):∀x∈itsL c,0<x.2.n/\x.2.n<=3:=by
 intro x hx
 rcases List.mem_append.1 hx with hx|hx
 ·obtain ⟨y, hy, rfl⟩ := List.mem_map.1 hx
  exact⟨(h.ca y hy).pos,(h.ca y hy).n3⟩
 ·obtain ⟨y, hy, rfl⟩ := List.mem_map.1 hx
  exact⟨(h.ra y hy).pos,(h.ra y hy).n3⟩
theorem Qm1 {x:List UInt8×Aut}:List.flatMap vrC (List.map vrN [x])=[.str x.1,.int .i64 0,.int .i64 ((x.2.n:Int)-1),.int .i64 0]:=rfl
theorem _root_.Go.AM.au17 {p:Prop} (h:p:=by repeat (first|exact RT.nil|(refine RT.cons ?_ ?_; · (first|exact Rn.any|exact Rn.x1 rfl rfl|exact Rn.x2 rfl rfl|exact Rn.x3 rfl rfl|exact Rn.x4 rfl rfl|exact Rn.x5 rfl|exact Rn.x6 rfl|exact Rn.x7 rfl|(refine Rn.slot ?_ ?_;(first|rfl|(rw[Int.natCast_add];rfl));(first|rfl|(simp only[noRef,noRefs,Qaf,Bool.and_self,Bool.and_true,Bool.true_and,Qaa,Qan,Qab,Qa5,QaC];done)))|(refine Rn.fn ?_ ?_<;>(repeat' (first|exact RnL.nil|refine RnL.cons ?_ ?_|exact Rn.same rfl|exact Rn.x6 rfl|exact Rn.x2 rfl rfl|exact Rn.x5 rfl|exact Rn.x1 rfl rfl))))))):p:=h
theorem vars12 (c:Cel) (h:WfCel c):PSpec Tryz.prog 12 [celV c] (vrsV (vrsL c)):=by
  have h3:=h.c3
  have h2:=h.r2
  have hn3:=Qm0 h
  rw[vrs_N]
  have hLl:=QjB c
  refine PSpec.of_rn 64 UK.ok12 rfl (by rw[noRefs,SU.QaI];rfl) (QbD _) ?_
  have hla:(nmL' 99 c.cs).length=c.cs.length:=by simp[nmL']
  have hlb:(nmL' 114 c.rs).length=c.rs.length:=by simp[nmL']
  rw[show celV c= .agg [evsV c.ev,itsN (nmL' 99 c.cs),itsN (nmL' 114 c.rs),exs c.xs,cos c.ks] from by rw[celV,QgK,QgK]]
  unfold itsL at*
  generalize nmL' 99 c.cs=A at*
  generalize nmL' 114 c.rs=B at*
  have hoa:(A.flatMap itN).all AV.one=true:=QcG (fun _=>rfl) _
  have hob:(B.flatMap itN).all AV.one=true:=QcG (fun _=>rfl) _
  have hAl:=QeU A
  have hBl:=QeU B
  simp(disch:=first|omega|exact PairsOK.mk rfl|(simp only[lenW]<;>omega)) only[UK.s12,wW,wV,simprocAttr]
  refine QgA [(8,[]),(11,[])] rfl rfl ?_
  simp(disch:=first|omega|exact PairsOK.mk rfl|(simp only[lenW]<;>omega)) only[hoa,hob,hAl,hBl,wW,wV,simprocAttr]
  refine⟨⟨⟨[],rfl,fun b hb=>hb⟩,⟨[],rfl,fun b hb=>hb⟩,trivial⟩,?_⟩
  have hLf:A.flatMap itN++B.flatMap itN=(A++B).flatMap itN:=by rw[List.flatMap_append]
  have hLL:A.length+B.length=(A++B).length:=List.length_append.symm
  rw[hLf,hLL]
  generalize A++B=L at*
  have hLn:=QeU L
  have hnl:=Qa5 L
  have hL5:L.length<=5:=by omega
  refine Qaw 100 (fun i:Nat=>[(3,.sl 60 0 0 i 4),(4,itsN L),(5,.int .i64 i)]) (fun i=>[(60,.cells 0 (((L.take i).map vrN).flatMap vrC))]) (fun i=>i<=L.length) (fun i=>L.length-i) 0 0 160 (fun _:Unit=>[(3,vrsV (L.map vrN))]) (fun _=>[]) (fun _=>True) ?_ (Nat.zero_le _) ?_ ?_
  · exact⟨[(60,.nil)],rfl,RO.zero,RB.newnil rfl rfl RB.nil,RT.cons (by first|exact Rn.x3 rfl rfl|exact Rn.x4 rfl rfl|exact Rn.x6 rfl|exact Rn.x7 rfl|exact Rn.x5 rfl) (RT.cons (Rn.fzm (b:=67) (g:=2) gg rfl rfl rfl hLn (RnL.same hnl)) au17)⟩
  · rintro i hi
    by_cases hlt:i<L.length
    · obtain ⟨x, hx⟩ := Qad hlt
      have hdr:=Qk1 hx
      have hdl:5<=((L.flatMap itN).drop (i*5)).length:=by rw[hdr];simp
      have htl:((L.take i).map vrN).length=i:=by rw[List.length_map,List.length_take];omega
      have htm:(((L.take i).map vrN).flatMap vrC).length=i*4:=by rw[Qgy,htl]
      have hn:=hn3 x (List.mem_of_getElem? hx)
      simp(disch:=first|omega|exact PairsOK.mk rfl|(simp only[lenW]<;>omega)) only[hlt,hdr,hdl,htm,wW,wV,simprocAttr]
      refine⟨i+1,by omega,by omega,?_⟩
      rw[take_succ' hx,List.map_append,List.flatMap_append,Qm1]
      refine⟨[(60,.blk 60 1)],rfl,au0,?_,au17⟩
      exact RB.cells rfl rfl gg (RnL.same (SU.QaV (QaC _) (QaC [vrN x]))) RB.nil
    · have e : i = L.length := by omega
      subst e
      simp(disch:=first|omega|exact PairsOK.mk rfl|(simp only[lenW]<;>omega)) only[hlt,List.take_length,wW,wV,simprocAttr]
      exact⟨(),[],rfl,RO.zero,RB.nil,RT.cons (Rn.fzm (b:=60) (g:=0) gg rfl rfl (List.length_map ..) (by rw[Qgy,List.length_map]) (RnL.same (QaC _))) RT.nil⟩
  rintro _ _
  simp(disch:=first|omega|exact PairsOK.mk rfl|(simp only[lenW]<;>omega)) only[wW,wV,simprocAttr]
  exact⟨.inr trivial,_,rfl,Rn.same (QbD _)⟩
theorem _root_.Go.AM.au18 {p:Prop} (h:p:=by repeat' (first|exact RB.nil|(refine RnL.same ?_;first|rfl|(simp only[noRef,noRefs,Qaf,Bool.and_self,Bool.and_true,Bool.true_and,Qaa,Qan,Qab,Qa5,QaC];done))|exact RnM.keyM rfl|exact RnL.nil|exact(True.intro:RnM _ _ _ [] [])|refine RnL.cons ?_ ?_|(refine Rn.same ?_;first|rfl|(simp only[noRef,noRefs,Qaf,Bool.and_self,Bool.and_true,Bool.true_and,Qaa,Qan,Qab,Qa5,QaC];done))|exact Rn.x1 rfl rfl|exact Rn.x2 rfl rfl|exact Rn.x3 rfl rfl|exact Rn.x4 rfl rfl|exact Rn.x5 rfl|exact Rn.x6 rfl|exact Rn.x7 rfl|refine RB.newnil rfl rfl ?_|refine RB.cells rfl rfl rfl ?_ ?_|refine RB.map rfl rfl rfl ?_ ?_|refine RB.cellsB rfl rfl ?_ ?_|refine RB.mapB rfl rfl ?_ ?_)):p:=h
theorem size43 (c:Cel) (h:WfCel c):PSpec Tryz.prog 43 [celV c] (.int .i64 (szV 1 (vrsL c))):=by
  have hv:=vars12 c h
  refine PSpec.Qag 64 UK.ok43 rfl (by rw[noRefs,SU.QaI];rfl) rfl ?_
  have hin:=Qg5 h
  have h5:=Qdx h
  generalize vrsL c=v at*
  simp(disch:=first|omega|exact PairsOK.mk rfl|(simp only[lenW]<;>omega)) only[UK.s43,wW,wV,simprocAttr]
  refine cp hv ?_
  simp(disch:=first|omega|exact PairsOK.mk rfl|(simp only[lenW]<;>omega)) only[wW,wV,simprocAttr]
  refine Qal 100 (fun i:Nat=>[(3,.int .i64 (szV 1 (v.take i))),(4,vrsV v),(5,.int .i64 i)]) (fun _=>[]) (fun i=>i<=v.length) (fun i=>v.length-i) 0 ⟨[],rfl,au0,au18,au17⟩ (Nat.zero_le _) ?_
  rintro i hi
  by_cases hlt:i<v.length
  · obtain ⟨x, hx⟩ := Qad hlt
    have hdr:=Qc8 hx
    have hdl:4<=((v.flatMap vrC).drop (i*4)).length:=by rw[hdr];simp
    have b1:=Qdy hin h5 i
    have b2:=hin x (List.mem_of_getElem? hx)
    have b3:=Qdy hin h5 (i+1)
    have e3:=QjA hx
    rw[e3]at b3
    generalize szV 1 (v.take i)=S at*
    simp(disch:=first|omega|exact PairsOK.mk rfl|(simp only[lenW]<;>omega)) only[hlt,hdr,hdl,wW,wV,simprocAttr]
    refine⟨i+1,by omega,by omega,?_⟩
    rw[e3]
    exact⟨[],rfl,au0,au18,au17⟩
  · have e : i = v.length := by omega
    subst e
    simp(disch:=first|omega|exact PairsOK.mk rfl|(simp only[lenW]<;>omega)) only[hlt,List.take_length,wW,wV,simprocAttr]
    exact⟨.inr trivial,_,rfl,rfl⟩
theorem small10 (c:Cel) (h:WfCel c) (C:List AV) (hlen:C.length=152) (hone:C.all AV.one=true) (hnr:noRefs C=true) (hM:PSpec Tryz.prog 42 [.agg C] (celV c)):PSpec Tryz.prog 10 [.agg C] (.tup [celV c,.bool true]):=by
 have hs:=size43 c h
 have hb:=QoD h
 have htk:C.take 152=C:=by rw[<-hlen,List.take_length]
 refine PSpec.Qag 64 UK.ok10 rfl (by rw[noRefs,noRef,hnr];rfl) (by rw[noRef,noRefs,SU.QaI];rfl) ?_
 generalize szV 1 (vrsL c)=S at*
 simp(disch:=first|omega|exact PairsOK.mk rfl|(simp only[lenW]<;>omega)) only[UK.s10,hlen,hone,htk,wW,wV,simprocAttr]
 refine cp hM ?_
 simp(disch:=first|omega|exact PairsOK.mk rfl|(simp only[lenW]<;>omega)) only[wW,wV,simprocAttr]
 refine cp hs ?_
 have h4:S<=400:=by omega
 simp(disch:=first|omega|exact PairsOK.mk rfl|(simp only[lenW]<;>omega)) only[h4,wW,wV,simprocAttr]
 exact⟨.inr trivial,_,rfl,rfl⟩
end Go.AM.SO
namespace Go.AM
variable {P:Program}
theorem HRel.give {ok : Okc} {c : Ctx ok} {h : Heap} {w : World} (H : HRel c h w) {b g len sz : Nat} {ds : List AV} (hb : h.get b = some (.cells g ds)) (hr : noRefs ds = true) (hl : ds.length = len * sz) (hlim : Nat.blt b 1099511627775 = true) :
    ∃c2,Evo c w c2 w/\HRel c2 (h.set b (.dead g)) w/\(∀v,VRel c w (.sl b g 0 len sz) v->VRel c2 w (.fsl ds len sz) v)/\∀x v,noRef x=true->VRel c w x v->VRel c2 w x v:=by
  have hlim':b<1099511627775:=by simp_all
  have hlive:Live h b g:=⟨_,hb,rfl,fun _=>by simp⟩
  let c2:Ctx ok:={c with F:=fun k=>c.F k\/∃base,c.ρ b g=some (.loc k base),O:=fun k=>c.O k/\¬∃base,c.ρ b g=some (.loc k base)}
  have hset:∀k,(h.set b (.dead g)).get k=if k=b then some (.dead g)else h.get k:=fun k=>by
    by_cases e:k=b
    · subst e;rw[QaR hlim',if_pos rfl]
    simp_all [Qa1]
  have hlv:∀k y,Live (h.set b (.dead g)) k y->k≠b/\Live h k y:=by
    rintro k y ⟨x,hk,hg,hd⟩
    rw[hset]at hk
    split at hk
    · grind
    · rename_i e;exact⟨e,x,hk,hg,hd⟩
  have E:=Evo.refl c w
  have E2:Evo c w c2 w:=⟨E.os,E.tape,E.output,E.size,E.shape,E.keep,E.rho,fun k hk=> .inl (E.frz k hk),fun k hk=>by
    rcases hk with hk|⟨base,hk⟩
    · simp_all
    · exact .inr (.inl (H.owned hlive hk)),fun k hk=>E.own k hk.1,E.base⟩
  refine⟨c2,E2,⟨fun k hk y=>?_,fun k x hk y hlt=>?_,fun k x hk=>?_,fun k y k' y' cb base base' l1 l2 p1 p2=>H.inj k y k' y' cb base base' (hlv _ _ l1).2 (hlv _ _ l2).2 p1 p2,fun k hF hO=>?_,fun k hF=>?_,fun k hO=>H.inO k hO.1⟩,fun v V=>?_,fun x v hn hv=>VRel.noRef (c:=c) (c':=c2) (fun _ h=> .inl h) _ _ hn hv⟩
  · rw [hset] at hk
    split at hk
    · cases hk
    · exact H.fresh k hk y
  · rw [hset] at hk
    split at hk
    · rename_i e; subst e; cases hk
      exact H.later k _ hb y hlt
    · exact H.later k x hk y hlt
  · rw [hset] at hk
    split at hk
    · cases hk;trivial
    · rename_i e
      refine BRel.mono (c:=c) (c':=c2) (w:=w) (w':=w) ⟨fun _ _ _ h=>h,fun _ h=> .inl h,fun _ _ _ h=>h,fun _ C _ fr h=>⟨C,fr,h,rfl⟩⟩ (fun cb base hd hp=>?_) (H.blk k x hk)
      have hlk:Live h k x.gen:=⟨x,hk,rfl,hd⟩
      exact⟨⟨H.owned hlk hp,fun⟨base',hp'⟩=>e (H.inj _ _ _ _ _ _ _ hlk hlive hp hp')⟩,rfl⟩
  · rcases hF with hF | hF
    · exact H.disj k hF hO.1
    grind
  · rcases hF with hF | ⟨base, hF⟩
    · exact H.inF k hF
    · exact H.inO k (H.owned hlive hF)
  · simp only [VRel] at V
    rcases V with⟨hp,rfl,_,rfl⟩|⟨cb,base,o,cap,C,e,fr,hp,rfl,hlc,hC,hcap⟩
    · simp_all [VRel]
    · obtain ⟨C', e', fr', hO, hC', hfr, hbs, hpre⟩ := H.here hb hp
      rw[hC]at hC';cases hC'
      have hF:c2.F cb:= .inr ⟨base,hp⟩
      by_cases h0:cap=0
      · have hl0 : len = 0 := by omega
        subst hl0
        have:ds=[]:=List.eq_nil_of_length_eq_zero (by rw[hl];simp)
        subst this
        simp only[VRel]
        simp_all
      · obtain ⟨rfl, hbd⟩ := hcap.resolve_left h0
        have hp2:=VPre.noRef2 (c:=c) (c':=c2) (fun _ h=> .inl h) hr hpre
        simp only[VRel]
        grind
theorem HSpec.give1 {f b g len sz:Nat} {ds:List AV} {h:Heap} {v:AV} (S:PSpec P f [.fsl ds len sz] v) (hb:h.get b=some (.cells g ds)) (hr:noRefs ds=true) (hl:ds.length=len*sz) (hlim:Nat.blt b 1099511627775=true):
  HSpec P f [.sl b g 0 len sz] h v (h.set b (.dead g)):=by
 have hS:=S
 obtain⟨_,_,h',hc,_⟩:=S
 refine⟨hc,fun c w cargs H ha=>?_⟩
 obtain⟨c2,E2,H2,V2,_⟩:=H.give hb hr hl hlim
 have ha2:VRels c2 w [.fsl ds len sz] cargs.toList:=by
  grind [VRels]
 refine((hS.pure H2 ha2).2).mono ?_
 rintro e w' ⟨cv,c',rfl,E,H',V⟩
 exact⟨cv,c',rfl,E2.trans E,H',V⟩
end Go.AM
namespace Go.AM
variable {P:Program} {N:NM} {r:List SOper} {dead:List Nat} {d:Option Nat} {fs:List Fr} {n:Nat} {T:Tmps} {h:Heap} {Q:QC}
theorem Qih {k sz bytes:Nat} {zero:List AV} (hk:0<k) (h1:k*bytes<=140737488355328) (h2:k<=140737488355328) (h3:0<sz):
  wM P N (aAppendZ .dyn n sz bytes zero .nilsl (.int .i64 (k:Int))) d r dead fs n T h Q=wN P N (List.replicate k zero).flatten (.sl n 0 0 k sz) d r dead fs n T h Q:=by
 obtain⟨j,rfl⟩:∃j,k=j+1:=⟨k-1,by omega⟩
 show wM P N (aAppendZ .dyn n sz bytes zero .nilsl (.int .i64 (.ofNat (j+1)))) d r dead fs n T h Q=_
 simp only[aAppendZ]
 rw[if_pos ⟨h1,h2,h3⟩]
 exact QeJ (x:=fun g=> .cells g _) rfl
theorem HSpec.give2 {f b g len sz:Nat} {x:AV} {ds:List AV} {h:Heap} {v:AV} (S:PSpec P f [x,.fsl ds len sz] v) (hb:h.get b=some (.cells g ds)) (hr:noRefs ds=true) (hl:ds.length=len*sz) (hlim:Nat.blt b 1099511627775=true):
  HSpec P f [x,.sl b g 0 len sz] h v (h.set b (.dead g)):=by
 have hS:=S
 have hn:noRef x=true:=by
  have:=S.1
  simp only[noRefs,Bool.and_eq_true]at this
  exact this.1
 obtain⟨_,_,h',hc,_⟩:=S
 refine⟨hc,fun c w cargs H ha=>?_⟩
 obtain⟨c2,E2,H2,V2,V3⟩:=H.give hb hr hl hlim
 have V4:=fun v=>V3 x v hn
 have ha2:VRels c2 w [x,.fsl ds len sz] cargs.toList:=by
  simp only[VRels]at ha⊢
  obtain⟨p,l1,e1,hp,q,l2,e2,hq,e3⟩:=ha
  exact⟨p,l1,e1,V4 p hp,q,l2,e2,V2 q hq,e3⟩
 refine((hS.pure H2 ha2).2).mono ?_
 rintro e w' ⟨cv,c',rfl,E,H',V⟩
 exact⟨cv,c',rfl,E2.trans E,H',V⟩
end Go.AM
namespace Go.AM.SO
open Go.Proofs Go.AM.SD Go.AM.SE
abbrev zIt:List AV:=[.str [],.nilsl,.int .i64 0,.nilsl,.nilsl]
theorem QjC (k:Nat):noRefs (List.replicate k zIt).flatten=true:=by
 induction k with
 |zero=>rfl
 |succ k ih=>rw[List.replicate_succ,List.flatten_cons];exact SU.QaV rfl ih
theorem capN:aCap .nilsl=some (.int .i64 0):=rfl
theorem sliceN {sz:Nat}:aSliceC (some sz) .nilsl none (some (.int .i64 0)) none=some .nilsl:=rfl
theorem _root_.Go.AM.au19 {p:Prop} (h:p:=by repeat (first|exact RT.nil|(refine RT.cons ?_ ?_; · (first|exact Rn.any|exact Rn.x1 rfl rfl|exact Rn.x2 rfl rfl|exact Rn.x3 rfl rfl|exact Rn.x4 rfl rfl|exact Rn.x5 rfl|exact Rn.x6 rfl|exact Rn.x7 rfl|(refine Rn.slot ?_ ?_;(first|rfl|(rw[Int.natCast_add];rfl));(first|rfl|(simp only[noRef,noRefs,Qaf,Bool.and_self,Bool.and_true,Bool.true_and,Qaa,Qan,Qab,QaC,Qa5,Qb4];done)))|(refine Rn.fn ?_ ?_<;>(repeat' (first|exact RnL.nil|refine RnL.cons ?_ ?_|exact Rn.same rfl|exact Rn.x6 rfl|exact Rn.x2 rfl rfl|exact Rn.x5 rfl|exact Rn.x1 rfl rfl))))))):p:=h
theorem grow203 (k:Nat) (h0:0<k) (hk:k<=1000000):HSpec Tryz.prog 203 [.nilsl,.int .i64 (k:Int)] .e (.sl 90 0 0 0 5) (hp [(90,.cells 0 (List.replicate k zIt).flatten)]):=by
 refine HSpec.QdT 100 UK.ok203 rfl ?_
 have h1:¬(k:Int)<0:=by omega
 have h2:(0:Int)<(k:Int):=by omega
 simp(disch:=first|omega|exact PairsOK.mk rfl|(simp only[lenW]<;>omega)) only[UK.s203,QoP,Qlm,capN,sliceN,Qih,Int.sub_zero,h1,h2,wW,wV,simprocAttr]
 refine⟨.inr trivial,_,rfl,?_⟩
 refine⟨[(90,.blk 118 0)],rfl,au0,?_,au19⟩
 exact RB.cells rfl rfl gg (RnL.same (QjC k)) RB.nil
def catX (z:List AV) (S:List (List (List UInt8×Aut))) (i:Nat):List AV:=if i=0 then z else((S.take i).flatten).flatMap itN
theorem QnO {z:List AV} {S:List (List (List UInt8×Aut))} {i g:Nat}:srcB (some (.cells g (catX z S i))) g 0 ((S.take i).flatten.length) 5=some (((S.take i).flatten).flatMap itN):=by
 unfold catX
 split
 ·rename_i h;subst h;simp[QbT]
 ·exact QfP (QeU _)
theorem Qm2 {z:List AV} {S:List (List (List UInt8×Aut))} {i:Nat} {A:List (List UInt8×Aut)} (h:S[i]?=some A):((S.take i).flatten).flatMap itN++A.flatMap itN=catX z S (i+1):=by
 unfold catX
 rw[if_neg (by omega),take_succ' h,List.flatten_append,List.flatMap_append]
 simp
theorem Qh6 {S:List (List (List UInt8×Aut))} {i:Nat} {A:List (List UInt8×Aut)} (h:S[i]?=some A):(S.take (i+1)).flatten.length=(S.take i).flatten.length+A.length:=by
 rw[take_succ' h,List.flatten_append,List.length_append];simp
theorem Qe1 {S:List (List (List UInt8×Aut))} (i:Nat):(S.take i).flatten.length<=S.flatten.length:=by
 have h:(S.take i).flatten.length+(S.drop i).flatten.length=S.flatten.length:=by
  rw[<-List.length_append,<-List.flatten_append,List.take_append_drop]
 omega
theorem QoE {S:List (List (List UInt8×Aut))} {k i:Nat}:noRefs (catX (List.replicate k zIt).flatten S i)=true:=by
 unfold catX
 split
 ·exact QjC k
 ·exact Qa5 _
abbrev itss (S:List (List (List UInt8×Aut))):AV:= .fsl (S.map itsN) S.length 1
theorem Qb4 (S:List (List (List UInt8×Aut))):noRefs (S.map itsN)=true:=by
 induction S with
 |nil=>rfl
 |cons x S ih=>rw[List.map_cons,noRefs,Qcr,ih];rfl
theorem Qh7 {S:List (List (List UInt8×Aut))} {i:Nat} {A:List (List UInt8×Aut)} (h:S[i]?=some A):((S.map itsN).drop i).head?=some (itsN A):=by
 rw[List.head?_drop,List.getElem?_map,h];rfl
theorem _root_.Go.AM.au20 {p:Prop} (h:p:=by repeat' (first|exact RB.nil|(refine RnL.same ?_;first|rfl|(simp only[noRef,noRefs,Qaf,Bool.and_self,Bool.and_true,Bool.true_and,Qaa,Qan,Qab,QaC,Qa5,Qb4];done))|exact RnM.keyM rfl|exact RnL.nil|exact(True.intro:RnM _ _ _ [] [])|refine RnL.cons ?_ ?_|(refine Rn.same ?_;first|rfl|(simp only[noRef,noRefs,Qaf,Bool.and_self,Bool.and_true,Bool.true_and,Qaa,Qan,Qab,QaC,Qa5,Qb4];done))|exact Rn.x1 rfl rfl|exact Rn.x2 rfl rfl|exact Rn.x3 rfl rfl|exact Rn.x4 rfl rfl|exact Rn.x5 rfl|exact Rn.x6 rfl|exact Rn.x7 rfl|refine RB.newnil rfl rfl ?_|refine RB.cells rfl rfl rfl ?_ ?_|refine RB.map rfl rfl rfl ?_ ?_|refine RB.cellsB rfl rfl ?_ ?_|refine RB.mapB rfl rfl ?_ ?_)):p:=h
theorem concat158 (S : List (List (List UInt8 × Aut))) (hS : S.length <= 1000) (h0 : 0 < S.flatten.length) (hk : S.flatten.length <= 1000000) : PSpec Tryz.prog 158 [itss S] (itsN S.flatten) := by
  refine PSpec.of_rn 64 UK.ok158 rfl (by rw[noRefs,noRef,Qb4];rfl) (Qcr _) ?_
  have hnr:=Qb4 S
  simp(disch:=first|omega|exact PairsOK.mk rfl|(simp only[lenW]<;>omega)) only[UK.s158,wW,wV,simprocAttr]
  refine Qal 100 (fun i:Nat=>[(0,itss S),(3,.int .i64 ((S.take i).flatten.length:Nat)),(9,itss S),(10,.int .i64 S.length),(11,.int .i64 i)]) (fun _=>[]) (fun i=>i<=S.length) (fun i=>S.length-i) 0 ?_ (Nat.zero_le _) ?_
  · exact⟨[],rfl,au0,au20,au19⟩
  rintro i hi
  by_cases hlt:i<S.length
  · obtain ⟨A, hx⟩ := Qad hlt
    have hh:=Qh7 hx
    have b1:=@Qe1 S i
    have b2:=@Qe1 S (i+1)
    have e2:=Qh6 hx
    rw[e2]at b2
    have hng:¬((S.take i).flatten.length:Int)+(A.length:Int)<0:=by omega
    simp(disch:=first|omega|exact PairsOK.mk rfl|(simp only[lenW]<;>omega)) only[hlt,hh,hng,wW,wV,simprocAttr]
    refine⟨i+1,by omega,by omega,?_⟩
    rw[e2]
    exact⟨[],rfl,au0,au20,au19⟩
  have e:i=S.length:=by omega
  subst e
  simp(disch:=first|omega|exact PairsOK.mk rfl|(simp only[lenW]<;>omega)) only[hlt,List.take_length,wW,wV,simprocAttr]
  refine ch (HSpec.of_O (b:=90) (by(try simp only[noRefs,Qaa,noRef,noRefs,QaC,SU.QaI,Bool.and_self,Bool.and_true])<;>rfl) (grow203 _ h0 hk) (by repeat (first|exact Fresh.e|exact Fresh.le (by assumption) (by omega)|refine Fresh.set ?_ (by omega) (by omega))) rfl) ?_
  simp(disch:=first|omega|exact PairsOK.mk rfl|(simp only[lenW]<;>omega)) only[wW,wV,simprocAttr]
  generalize hz:(List.replicate S.flatten.length zIt).flatten=z
  have hzn:∀i,noRefs (catX z S i)=true:=fun i=>by rw[<-hz];exact QoE
  refine Qaw 200 (fun i:Nat=>[(6,.sl 91 0 0 (S.take i).flatten.length 5),(25,itss S),(26,.int .i64 S.length),(27,.int .i64 i)]) (fun i=>[(91,.cells 0 (catX z S i))]) (fun i=>i<=S.length) (fun i=>S.length-i) 0 2 260 (fun _:Unit=>[(6,itsN S.flatten)]) (fun _=>[]) (fun _=>True) ?_ (Nat.zero_le _) ?_ ?_
  · refine ⟨[(91, .blk 90 0)], rfl, au0, ?_, au19⟩
    exact RB.cells rfl rfl gg (RnL.same (by rw[<-hz];exact QjC _)) RB.nil
  · rintro i hi
    by_cases hlt:i<S.length
    · obtain ⟨A, hx⟩ := Qad hlt
      have hh:=Qh7 hx
      have b1:=@Qe1 S i
      have b2:=@Qe1 S (i+1)
      have e2:=Qh6 hx
      rw[e2]at b2
      have hs:=@QnO z S i
      have hone:(A.flatMap itN).all AV.one=true:=QcG (fun _=>rfl) _
      have hX:=Qm2 (z:=z) hx
      simp(disch:=first|omega|exact PairsOK.mk rfl|(simp only[lenW]<;>omega)) only[hlt,hh,hs,hone,hX,wW,wV,simprocAttr]
      refine⟨i+1,by omega,by omega,?_⟩
      rw[e2]
      refine⟨[(91,.blk 91 1)],rfl,au0,?_,au19⟩
      exact RB.cells rfl rfl gg (RnL.same (hzn _)) RB.nil
    · have e : i = S.length := by omega
      subst e
      have hX:catX z S S.length=S.flatten.flatMap itN:=by
        unfold catX
        rw[if_neg (fun h=>by rw[List.length_eq_zero_iff]at h;subst h;simp at h0),List.take_length]
      simp(disch:=first|omega|exact PairsOK.mk rfl|(simp only[lenW]<;>omega)) only[hlt,hX,List.take_length,wW,wV,simprocAttr]
      exact⟨(),[],rfl,RO.zero,RB.nil,RT.cons (Rn.fzm (b:=91) (g:=0) gg rfl rfl rfl (QeU _) (RnL.same (Qa5 _))) RT.nil⟩
  rintro _ _
  simp(disch:=first|omega|exact PairsOK.mk rfl|(simp only[lenW]<;>omega)) only[wW,wV,simprocAttr]
  exact⟨.inr trivial,_,rfl,Rn.same (Qcr _)⟩
end Go.AM.SO
namespace Go.AM.SO
open Go.Proofs Go.AM.SD Go.AM.SE
theorem _root_.Go.AM.au21 {p:Prop} (h:p:=by repeat (first|exact RT.nil|(refine RT.cons ?_ ?_; · (first|exact Rn.any|exact Rn.x1 rfl rfl|exact Rn.x2 rfl rfl|exact Rn.x3 rfl rfl|exact Rn.x4 rfl rfl|exact Rn.x5 rfl|exact Rn.x6 rfl|exact Rn.x7 rfl|(refine Rn.slot ?_ ?_;(first|rfl|(rw[Int.natCast_add];rfl));(first|rfl|(simp only[noRef,noRefs,Qaf,Bool.and_self,Bool.and_true,Bool.true_and,Qaa,Qan,Qab,QaC,Qa5];done)))|(refine Rn.fn ?_ ?_<;>(repeat' (first|exact RnL.nil|refine RnL.cons ?_ ?_|exact Rn.same rfl|exact Rn.x6 rfl|exact Rn.x2 rfl rfl|exact Rn.x5 rfl|exact Rn.x1 rfl rfl))))))):p:=h
theorem vars99 (c:Cel) (h:WfCel c):PSpec Tryz.prog 99 [celV c] (vrsV (vrsL c)):=by
  have h0:=h.c0
  have h3:=h.c3
  have h2:=h.r2
  have hn3:=Qm0 h
  rw[vrs_N]
  have hLl:=QjB c
  refine PSpec.of_rn 64 UK.ok99 rfl (by rw[noRefs,SU.QaI];rfl) (QbD _) ?_
  have hla:(nmL' 99 c.cs).length=c.cs.length:=by simp[nmL']
  have hlb:(nmL' 114 c.rs).length=c.rs.length:=by simp[nmL']
  rw[show celV c= .agg [evsV c.ev,itsN (nmL' 99 c.cs),itsN (nmL' 114 c.rs),exs c.xs,cos c.ks] from by rw[celV,QgK,QgK]]
  unfold itsL at*
  generalize nmL' 99 c.cs=A at*
  generalize nmL' 114 c.rs=B at*
  have hfl:[A,B].flatten=A++B:=by simp
  have hC:=concat158 [A,B] (by show 2<=1000;decide) (by rw[hfl];omega) (by rw[hfl];omega)
  rw[hfl]at hC
  simp(disch:=first|omega|exact PairsOK.mk rfl|(simp only[lenW]<;>omega)) only[UK.s99,wW,wV,simprocAttr]
  refine ch (HSpec.give1 (g:=0) (ds:=[itsN A,itsN B]) hC gg (by rw[noRefs,Qcr,noRefs,Qcr];rfl) rfl rfl) ?_
  generalize A++B=L at*
  have hL5:L.length<=5:=by omega
  simp(disch:=first|omega|exact PairsOK.mk rfl|(simp only[lenW]<;>omega)) only[wW,wV,simprocAttr]
  refine Qaw 100 (fun i:Nat=>[(3,.sl 60 0 0 i 4),(11,itsN L),(12,.int .i64 L.length),(13,.int .i64 i)]) (fun i=>[(60,.cells 0 (((L.take i).map vrN).flatMap vrC))]) (fun i=>i<=L.length) (fun i=>L.length-i) 0 0 160 (fun _:Unit=>[(3,vrsV (L.map vrN))]) (fun _=>[]) (fun _=>True) ?_ (Nat.zero_le _) ?_ ?_
  · refine ⟨[(60, .nil)], rfl, au0, ?_, au21⟩
    exact RB.newnil rfl rfl RB.nil
  · rintro i hi
    by_cases hlt:i<L.length
    · obtain ⟨x, hx⟩ := Qad hlt
      have hdr:=Qk1 hx
      have hdl:5<=((L.flatMap itN).drop (i*5)).length:=by rw[hdr];simp
      have htl:((L.take i).map vrN).length=i:=by rw[List.length_map,List.length_take];omega
      have htm:(((L.take i).map vrN).flatMap vrC).length=i*4:=by rw[Qgy,htl]
      have hn:=hn3 x (List.mem_of_getElem? hx)
      simp(disch:=first|omega|exact PairsOK.mk rfl|(simp only[lenW]<;>omega)) only[hlt,hdr,hdl,htm,wW,wV,simprocAttr]
      refine⟨i+1,by omega,by omega,?_⟩
      rw[take_succ' hx,List.map_append,List.flatMap_append,Qm1]
      refine⟨[(60,.blk 60 1)],rfl,au0,?_,au21⟩
      exact RB.cells rfl rfl gg (RnL.same (SU.QaV (QaC _) (QaC [vrN x]))) RB.nil
    · have e : i = L.length := by omega
      subst e
      simp(disch:=first|omega|exact PairsOK.mk rfl|(simp only[lenW]<;>omega)) only[hlt,List.take_length,wW,wV,simprocAttr]
      exact⟨(),[],rfl,RO.zero,RB.nil,RT.cons (Rn.fzm (b:=60) (g:=0) gg rfl rfl (List.length_map ..) (by rw[Qgy,List.length_map]) (RnL.same (QaC _))) RT.nil⟩
  rintro _ _
  simp(disch:=first|omega|exact PairsOK.mk rfl|(simp only[lenW]<;>omega)) only[wW,wV,simprocAttr]
  exact⟨.inr trivial,_,rfl,Rn.same (QbD _)⟩
theorem _root_.Go.AM.au22 {p:Prop} (h:p:=by repeat' (first|exact RB.nil|(refine RnL.same ?_;first|rfl|(simp only[noRef,noRefs,Qaf,Bool.and_self,Bool.and_true,Bool.true_and,Qaa,Qan,Qab,QaC,Qa5];done))|exact RnM.keyM rfl|exact RnL.nil|exact(True.intro:RnM _ _ _ [] [])|refine RnL.cons ?_ ?_|(refine Rn.same ?_;first|rfl|(simp only[noRef,noRefs,Qaf,Bool.and_self,Bool.and_true,Bool.true_and,Qaa,Qan,Qab,QaC,Qa5];done))|exact Rn.x1 rfl rfl|exact Rn.x2 rfl rfl|exact Rn.x3 rfl rfl|exact Rn.x4 rfl rfl|exact Rn.x5 rfl|exact Rn.x6 rfl|exact Rn.x7 rfl|refine RB.newnil rfl rfl ?_|refine RB.cells rfl rfl rfl ?_ ?_|refine RB.map rfl rfl rfl ?_ ?_|refine RB.cellsB rfl rfl ?_ ?_|refine RB.mapB rfl rfl ?_ ?_)):p:=h
theorem first44 (c:Cel) (h:WfCel c):PSpec Tryz.prog 44 [celV c] (.tup [vrsV (vrsL c),.int .i64 0]):=by
  have hv:=vars99 c h
  have hC:=check21 c h
  refine PSpec.Qag 64 UK.ok44 rfl (by rw[noRefs,SU.QaI];rfl) (by rw[noRef,noRefs,QbD];rfl) ?_
  have hin:=Qg5 h
  have h5:=Qdx h
  generalize vrsL c=v at*
  simp(disch:=first|omega|exact PairsOK.mk rfl|(simp only[lenW]<;>omega)) only[UK.s44,wW,wV,simprocAttr]
  refine cp hC ?_
  simp(disch:=first|omega|exact PairsOK.mk rfl|(simp only[lenW]<;>omega)) only[wW,wV,simprocAttr]
  refine cp hv ?_
  simp(disch:=first|omega|exact PairsOK.mk rfl|(simp only[lenW]<;>omega)) only[wW,wV,simprocAttr]
  refine Qal 100 (fun i:Nat=>[(5,vrsV v),(6,.int .i64 (szV 1 (v.take i))),(16,vrsV v),(17,.int .i64 v.length),(18,.int .i64 i)]) (fun _=>[]) (fun i=>i<=v.length) (fun i=>v.length-i) 0 ⟨[],rfl,au0,au22,au21⟩ (Nat.zero_le _) ?_
  rintro i hi
  by_cases hlt:i<v.length
  · obtain ⟨x, hx⟩ := Qad hlt
    have hdr:=Qc8 hx
    have hdl:4<=((v.flatMap vrC).drop (i*4)).length:=by rw[hdr];simp
    have b1:=Qdy hin h5 i
    have b2:=hin x (List.mem_of_getElem? hx)
    have b3:=Qdy hin h5 (i+1)
    have e3:=QjA hx
    rw[e3]at b3
    generalize szV 1 (v.take i)=S at*
    have b4:¬(4096:Int)<S*(x.2+1):=by omega
    simp(disch:=first|omega|exact PairsOK.mk rfl|(simp only[lenW]<;>omega)) only[hlt,hdr,hdl,b4,wW,wV,simprocAttr]
    refine⟨i+1,by omega,by omega,?_⟩
    rw[e3]
    exact⟨[],rfl,au0,au22,au21⟩
  · simp (disch := first | omega | exact PairsOK.mk rfl | (simp only [lenW] <;> omega)) only [hlt, wW, wV, simprocAttr]
    exact⟨.inr trivial,_,rfl,rfl⟩
end Go.AM.SO
namespace Go.AM.SO
open Go.Proofs Go.AM.SD Go.AM.SE
abbrev tyBx:Ty:= .st (.pair (.sl tyI) (.pair (.sl tyI) .unit))
abbrev tyGd:Ty:= .st (.pair tyI (.pair (.sl tyBx) .unit))
abbrev tyGds:Ty:= .sl tyGd
def inBx (d:tyBx.D):Bxn:=⟨d.1,d.2.1⟩
def inGd (d:tyGd.D):Gdn:=⟨d.1,(show List tyBx.D from d.2.1).map inBx⟩
def inGds (d:tyGds.D):List Gdn:=(show List tyGd.D from d).map inGd
theorem cBx (d:tyBx.D):tyBx.cells d=bxC (inBx d):=by
 show Ty.cells (.sl tyI) d.1++(Ty.cells (.sl tyI) d.2.1++[])=_
 rw[slI,slI];rfl
theorem cGd (d:tyGd.D):tyGd.cells d=gdC (inGd d):=by
 show[AV.int .i64 d.1]++(Ty.cells (.sl tyBx) d.2.1++[])=_
 rw[slV (t:=tyBx) (f:=inBx) (g:=bxC) cBx];rfl
theorem cGds (d:tyGds.D):tyGds.val d=gdsV (inGds d):=by
 have h:=slV (t:=tyGd) (f:=inGd) (g:=gdC) cGd d
 exact List.head_eq_of_cons_eq h
structure GdsR (l:List Gdn):Prop where
 len:l.length<=9223372036854775807
 bl:∀g∈l,g.bs.length<=9223372036854775807
 ll:∀g∈l,∀b∈g.bs,b.lo.length<=9223372036854775807/\b.hi.length<=9223372036854775807
theorem Qpz {d:tyGds.D} (h:tyGds.wf d):GdsR (inGds d):=by
 obtain⟨h1,h2⟩:=h
 refine⟨by show(List.map _ _).length<=_;rw[List.length_map];exact h1,fun g hg=>?_,fun g hg b hb=>?_⟩
 ·obtain ⟨y, hy, rfl⟩ := List.mem_map.1 hg
  show(List.map _ _).length<=_
  rw[List.length_map]
  exact(h2 y hy).2.1.1
 ·obtain ⟨y, hy, rfl⟩ := List.mem_map.1 hg
  obtain⟨z,hz,rfl⟩:=List.mem_map.1 hb
  have:=(h2 y hy).2.1.2 z hz
  exact⟨this.1.1,this.2.1.1⟩
theorem ints_in' (d:(Ty.sl tyI).D) (h:(Ty.sl tyI).wf d):∃l:List Int,l.length<=9223372036854775807/\(Ty.sl tyI).val d=sli l:=
 ⟨d,h.1,List.head_eq_of_cons_eq (slI d)⟩
end Go.AM.SO
namespace Go.AM.SO
open Go.Proofs Go.AM.SD Go.AM.SE
theorem bx_at {v:List (List UInt8×Int)} {l:List Bxn} {i:Nat} {b:Bxn} {e:Int} (hb:l[i]?=some b) (he:bxE v b=e) (h0:e≠0) (hc:∀j,j<i->bxE v (l.getD j bx0)=0):bxsE v l=e:=
 fe_at (f:=fun i=>bxE v (l.getD i bx0)) (by rw[QaA hb];exact he) h0 hc (List.getElem?_eq_some_iff.1 hb).1
theorem vr_at {v:List (List UInt8×Int)} {b:Bxn} (h1:b.lo.length=v.length) (h2:b.hi.length=v.length) {j:Nat} (hj:j<v.length) (he:vrE v b j=2) (hc:∀k,k<j->vrE v b k=0):bxE v b=2:=by
 unfold bxE
 rw[if_pos ⟨h1,h2⟩]
 exact fe_at he (by decide) hc hj
theorem _root_.Go.AM.au23 {p:Prop} (h:p:=by repeat' (first|exact RB.nil|(refine RnL.same ?_;first|rfl|(simp only[noRef,noRefs,Qaf,Bool.and_self,Bool.and_true,Bool.true_and,Qaa,Qan,Qab,Qba,Qax,QaC];done))|exact RnM.keyM rfl|exact RnL.nil|exact(True.intro:RnM _ _ _ [] [])|refine RnL.cons ?_ ?_|(refine Rn.same ?_;first|rfl|(simp only[noRef,noRefs,Qaf,Bool.and_self,Bool.and_true,Bool.true_and,Qaa,Qan,Qab,Qba,Qax,QaC];done))|exact Rn.x1 rfl rfl|exact Rn.x2 rfl rfl|exact Rn.x3 rfl rfl|exact Rn.x4 rfl rfl|exact Rn.x5 rfl|exact Rn.x6 rfl|exact Rn.x7 rfl|refine RB.newnil rfl rfl ?_|refine RB.cells rfl rfl rfl ?_ ?_|refine RB.map rfl rfl rfl ?_ ?_|refine RB.cellsB rfl rfl ?_ ?_|refine RB.mapB rfl rfl ?_ ?_)):p:=h
theorem _root_.Go.AM.au24 {p:Prop} (h:p:=by repeat (first|exact RT.nil|(refine RT.cons ?_ ?_; · (first|exact Rn.any|exact Rn.x1 rfl rfl|exact Rn.x2 rfl rfl|exact Rn.x3 rfl rfl|exact Rn.x4 rfl rfl|exact Rn.x5 rfl|exact Rn.x6 rfl|exact Rn.x7 rfl|(refine Rn.slot ?_ ?_;(first|rfl|(rw[Int.natCast_add];rfl));(first|rfl|(simp only[noRef,noRefs,Qaf,Bool.and_self,Bool.and_true,Bool.true_and,Qaa,Qan,Qab,Qba,Qax,QaC];done)))|(refine Rn.fn ?_ ?_<;>(repeat' (first|exact RnL.nil|refine RnL.cons ?_ ?_|exact Rn.same rfl|exact Rn.x6 rfl|exact Rn.x2 rfl rfl|exact Rn.x5 rfl|exact Rn.x1 rfl rfl))))))):p:=h
theorem cbx139 (v : List (List UInt8 × Int)) (l : List Bxn) (hv : v.length <= 1000) (hl : l.length <= 9223372036854775807) (hll : ∀ b ∈ l, b.lo.length <= 9223372036854775807 /\ b.hi.length <= 9223372036854775807) :
    PSpec Tryz.prog 139 [vrsV v,bxsV l] (.int .i64 (bxsE v l)):=by
  refine PSpec.Qag 64 UK.ok139 rfl (by rw[noRefs,QbD,noRefs,Qmt];rfl) rfl ?_
  simp(disch:=first|omega|exact PairsOK.mk rfl|(simp only[lenW]<;>omega)) only[UK.s139,wW,wV,simprocAttr]
  refine Qal 100 (fun i:Nat=>[(0,vrsV v),(9,bxsV l),(10,.int .i64 l.length),(11,.int .i64 i)]) (fun _=>[]) (fun i=>i<=l.length/\∀j,j<i->bxE v (l.getD j bx0)=0) (fun i=>l.length-i) 0 ⟨[],rfl,au0,au23,au24⟩ ⟨Nat.zero_le _,fun j hj=>absurd hj (Nat.not_lt_zero _)⟩ ?_
  rintro i ⟨hi,hb⟩
  by_cases hlt:i<l.length
  · obtain ⟨b, hx⟩ := Qad hlt
    have hdr:=Qbx hx
    have hdl:2<=((l.flatMap bxC).drop (i*2)).length:=by rw[hdr];simp
    obtain⟨hl1,hl2⟩:=hll b (List.mem_of_getElem? hx)
    by_cases a1:(b.lo.length:Int)=(v.length:Int)
    · by_cases a2 : (b.hi.length : Int) = (v.length : Int)
      · simp (disch := first | omega | exact PairsOK.mk rfl | (simp only [lenW] <;> omega)) only [hlt, hdr, hdl, a1, a2, wW, wV, simprocAttr]
        have e1:b.lo.length=v.length:=by omega
        have e2:b.hi.length=v.length:=by omega
        refine Qal 140 (fun j:Nat=>[(0,vrsV v),(9,bxsV l),(10,.int .i64 l.length),(11,.int .i64 i),(6,.ptr 51 0 0),(29,vrsV v),(30,.int .i64 v.length),(31,.int .i64 j)]) (fun _=>[(51,.cells 0 [sli b.lo,sli b.hi])]) (fun j=>j<=v.length/\∀k,k<j->vrE v b k=0) (fun j=>v.length-j) 0 ⟨[(51,.blk 103 0)],rfl,au0,au23,au24⟩ ⟨Nat.zero_le _,fun j hj=>absurd hj (Nat.not_lt_zero _)⟩ ?_
        rintro j ⟨hj,hc⟩
        by_cases hlj:j<v.length
        · obtain ⟨x, hvx⟩ := Qad hlj
          obtain⟨p,hp⟩:=Qad (l:=b.lo) (i:=j) (by omega)
          obtain⟨q,hq⟩:=Qad (l:=b.hi) (i:=j) (by omega)
          have hlp:j<b.lo.length:=by omega
          have hlq:j<b.hi.length:=by omega
          have hdv:=Qc8 hvx
          have hdw:4<=((v.flatMap vrC).drop (j*4)).length:=by rw[hdv];simp
          have hve:∀e,(if p<0\/x.2<q\/q<p then(2:Int)else 0)=e->vrE v b j=e:=fun e h=>by unfold vrE;rw[QaA hvx,QaA hp,QaA hq];exact h
          by_cases b1:p<0
          · simp (disch := first | omega | exact PairsOK.mk rfl | (simp only [lenW] <;> omega)) only [hlj, hlp, hlq, hdv, hdw, Qae hp, Qae hq, b1, wW, wV, simprocAttr]
            exact⟨.inr trivial,_,rfl,by rw[bx_at hx (vr_at e1 e2 hlj (hve 2 (if_pos (.inl b1))) hc) (by decide) hb];rfl⟩
          by_cases b2:x.2<q
          · simp (disch := first | omega | exact PairsOK.mk rfl | (simp only [lenW] <;> omega)) only [hlj, hlp, hlq, hdv, hdw, Qae hp, Qae hq, b1, b2, wW, wV, simprocAttr]
            exact⟨.inr trivial,_,rfl,by rw[bx_at hx (vr_at e1 e2 hlj (hve 2 (if_pos (.inr (.inl b2)))) hc) (by decide) hb];rfl⟩
          by_cases b3:q<p
          · simp (disch := first | omega | exact PairsOK.mk rfl | (simp only [lenW] <;> omega)) only [hlj, hlp, hlq, hdv, hdw, Qae hp, Qae hq, b1, b2, b3, wW, wV, simprocAttr]
            exact⟨.inr trivial,_,rfl,by rw[bx_at hx (vr_at e1 e2 hlj (hve 2 (if_pos (.inr (.inr b3)))) hc) (by decide) hb];rfl⟩
          simp(disch:=first|omega|exact PairsOK.mk rfl|(simp only[lenW]<;>omega)) only[hlj,hlp,hlq,hdv,hdw,Qae hp,Qae hq,b1,b2,b3,wW,wV,simprocAttr]
          exact⟨j+1,by omega,⟨by omega,fe_up hc (hve 0 (if_neg (by omega)))⟩,⟨[(51,.blk 51 0)],rfl,au0,au23,au24⟩⟩
        · simp (disch := first | omega | exact PairsOK.mk rfl | (simp only [lenW] <;> omega)) only [hlj, wW, wV, simprocAttr]
          exact⟨i+1,by omega,⟨by omega,fe_up hb (by rw[QaA hx];unfold bxE;rw[if_pos ⟨e1,e2⟩];exact QbN fun k hk=>hc k (by omega))⟩,⟨[],rfl,au0,au23,au24⟩⟩
      · simp (disch := first | omega | exact PairsOK.mk rfl | (simp only [lenW] <;> omega)) only [hlt, hdr, hdl, a1, a2, wW, wV, simprocAttr]
        exact⟨.inr trivial,_,rfl,by rw[bx_at hx (e:=4) (by unfold bxE;rw[if_neg (by omega)]) (by decide) hb];rfl⟩
    · simp (disch := first | omega | exact PairsOK.mk rfl | (simp only [lenW] <;> omega)) only [hlt, hdr, hdl, a1, wW, wV, simprocAttr]
      exact⟨.inr trivial,_,rfl,by rw[bx_at hx (e:=4) (by unfold bxE;rw[if_neg (by omega)]) (by decide) hb];rfl⟩
  · simp (disch := first | omega | exact PairsOK.mk rfl | (simp only [lenW] <;> omega)) only [hlt, wW, wV, simprocAttr]
    exact⟨.inr trivial,_,rfl,by rw[bxsE,QbN fun j hj=>hb j (by omega)];rfl⟩
end Go.AM.SO
namespace Go.AM.SO
open Go.Proofs Go.AM.SD Go.AM.SE
abbrev ctC (c:Cel) (k:Nat):Bool:=(c.ev k).c
def gF (ct:Nat->Bool) (v:List (List UInt8×Int)) (l:List Gdn) (i:Nat):Int:=gdE ct v (decide (i=0)) (l.getD (i-1) gd0) (l.getD i gd0)
theorem Qbi {ct:Nat->Bool} {v:List (List UInt8×Int)} {l:List Gdn} {i:Nat} {e:Int} (hi:i<l.length) (he:gF ct v l i=e) (h0:e≠0) (hc:∀j,j<i->gF ct v l j=0):gdsE ct v l=e:=fe_at (f:=gF ct v l) he h0 hc hi
theorem gF_2 {ct:Nat->Bool} {v:List (List UInt8×Int)} {l:List Gdn} {i:Nat} {g:Gdn} (hg:l[i]?=some g) (h:g.ev<0\/5<=g.ev):gF ct v l i=2:=by
 unfold gF gdE;rw[QaA hg,if_pos h]
theorem gF_11 {ct:Nat->Bool} {v:List (List UInt8×Int)} {l:List Gdn} {i:Nat} {g:Gdn} (hg:l[i]?=some g) (h:¬(g.ev<0\/5<=g.ev)) (h1:ct g.ev.toNat=false):gF ct v l i=11:=by
 unfold gF gdE;rw[QaA hg,if_neg h,if_pos h1]
theorem gF_5 {ct:Nat->Bool} {v:List (List UInt8×Int)} {l:List Gdn} {i:Nat} {g y:Gdn} (hg:l[i]?=some g) (hy:l[i-1]?=some y) (h:¬(g.ev<0\/5<=g.ev)) (h1:ct g.ev.toNat=true) (h2:0<i) (h3:g.ev<=y.ev):gF ct v l i=5:=by
 unfold gF gdE;rw[QaA hg,QaA hy,if_neg h,if_neg (by rw[h1];decide),if_pos ⟨decide_eq_false (by omega),h3⟩]
theorem gF_b {ct:Nat->Bool} {v:List (List UInt8×Int)} {l:List Gdn} {i:Nat} {g:Gdn} (hg:l[i]?=some g) (h:¬(g.ev<0\/5<=g.ev)) (h1:ct g.ev.toNat=true) (h2:i=0\/∀y,l[i-1]?=some y->¬g.ev<=y.ev):gF ct v l i=bxsE v g.bs:=by
 unfold gF gdE
 rw[QaA hg,if_neg h,if_neg (by rw[h1];decide),if_neg]
 rintro⟨h3,h4⟩
 have h3:¬i=0:=of_decide_eq_false h3
 rcases h2 with h2|h2
 ·exact h3 h2
 ·have hl := (List.getElem?_eq_some_iff.1 hg).1
  obtain⟨y,hy⟩:=Qad (l:=l) (i:=i-1) (by omega)
  rw[QaA hy]at h4
  exact h2 y hy h4
theorem ev_at (e:Nat->Evt) {k:Nat} (hk:k<5):(evl e)[k]?=some ([UInt8.ofNat (97+k)],e k):=by
 unfold evl
 rw[List.getElem?_map,List.getElem?_range hk];rfl
theorem QjD (e:Nat->Evt) {k:Nat} (hk:k<5):(evsC e).drop (k*5)= .str [UInt8.ofNat (97+k)]:: .bool (e k).c:: .bool (e k).o:: .bool (e k).f:: .int .i64 ((e k).flt:Int)::((evl e).drop (k+1)).flatMap evN:=QnM (ev_at e hk)
theorem Qk2 (e:Nat->Evt):(evsC e).length=25:=QoC (evl e)
theorem _root_.Go.AM.au25 {p:Prop} (h:p:=by repeat (first|exact RT.nil|(refine RT.cons ?_ ?_; · (first|exact Rn.any|exact Rn.x1 rfl rfl|exact Rn.x2 rfl rfl|exact Rn.x3 rfl rfl|exact Rn.x4 rfl rfl|exact Rn.x5 rfl|exact Rn.x6 rfl|exact Rn.x7 rfl|(refine Rn.slot ?_ ?_;(first|rfl|(rw[Int.natCast_add];rfl));(first|rfl|(simp only[noRef,noRefs,Qaf,Bool.and_self,Bool.and_true,Bool.true_and,Qaa,Qan,Qab,Qba,Qax,QaC,SU.Qbu,SU.QaT,SU.QbW];done)))|(refine Rn.fn ?_ ?_<;>(repeat' (first|exact RnL.nil|refine RnL.cons ?_ ?_|exact Rn.same rfl|exact Rn.x6 rfl|exact Rn.x2 rfl rfl|exact Rn.x5 rfl|exact Rn.x1 rfl rfl))))))):p:=h
theorem _root_.Go.AM.au26 {p:Prop} (h:p:=by repeat' (first|exact RB.nil|(refine RnL.same ?_;first|rfl|(simp only[noRef,noRefs,Qaf,Bool.and_self,Bool.and_true,Bool.true_and,Qaa,Qan,Qab,Qba,Qax,QaC,SU.Qbu,SU.QaT,SU.QbW];done))|exact RnM.keyM rfl|exact RnL.nil|exact(True.intro:RnM _ _ _ [] [])|refine RnL.cons ?_ ?_|(refine Rn.same ?_;first|rfl|(simp only[noRef,noRefs,Qaf,Bool.and_self,Bool.and_true,Bool.true_and,Qaa,Qan,Qab,Qba,Qax,QaC,SU.Qbu,SU.QaT,SU.QbW];done))|exact Rn.x1 rfl rfl|exact Rn.x2 rfl rfl|exact Rn.x3 rfl rfl|exact Rn.x4 rfl rfl|exact Rn.x5 rfl|exact Rn.x6 rfl|exact Rn.x7 rfl|refine RB.newnil rfl rfl ?_|refine RB.cells rfl rfl rfl ?_ ?_|refine RB.map rfl rfl rfl ?_ ?_|refine RB.cellsB rfl rfl ?_ ?_|refine RB.mapB rfl rfl ?_ ?_)):p:=h
theorem check34 (c : Cel) (h : WfCel c) (l : List Gdn) (hr : GdsR l) : PSpec Tryz.prog 34 [celV c, gdsV l] (.int .i64 (gdsE (ctC c) (vrsL c) l)) := by
  have hv:=vars12 c h
  have hnr:=Qa6 c
  refine PSpec.Qag 64 UK.ok34 rfl (by rw[noRefs,SU.QaI,noRefs,QbC];rfl) rfl ?_
  have h5:=Qdx h
  have hel:=Qk2 c.ev
  generalize vrsL c=v at*
  simp(disch:=first|omega|exact PairsOK.mk rfl|(simp only[lenW]<;>omega)) only[UK.s34,wW,wV,simprocAttr]
  refine cp hv ?_
  simp(disch:=first|omega|exact PairsOK.mk rfl|(simp only[lenW]<;>omega)) only[wW,wV,simprocAttr]
  refine Qal 100 (fun i:Nat=>[(1,gdsV l),(2,.ptr 50 0 0),(5,vrsV v),(6,.int .i64 i)]) (fun _=>[(50,.cells 0 [evsV c.ev,its 99 c.cs,its 114 c.rs,exs c.xs,cos c.ks])]) (fun i=>i<=l.length/\∀j,j<i->gF (ctC c) v l j=0) (fun i=>l.length-i) 0 ?_ ⟨Nat.zero_le _,fun j hj=>absurd hj (Nat.not_lt_zero _)⟩ ?_
  · refine ⟨[(50, .blk 64 0)], rfl, au0, ?_, au25⟩
    exact RB.cells rfl rfl gg (RnL.same hnr) RB.nil
  rintro i ⟨hi,hb⟩
  have hrl:=hr.len
  by_cases hlt:i<l.length
  · obtain ⟨g, hg⟩ := Qad hlt
    have hdr:=Qbc hg
    have hdl:2<=((l.flatMap gdC).drop (i*2)).length:=by rw[hdr];simp
    have hrb:=hr.bl g (List.mem_of_getElem? hg)
    by_cases a1:g.ev<0
    · simp (disch := first | omega | exact PairsOK.mk rfl | (simp only [lenW] <;> omega)) only [hlt, hdr, hdl, a1, wW, wV, simprocAttr]
      exact⟨.inr trivial,_,rfl,by rw[Qbi hlt (gF_2 hg (.inl a1)) (by decide) hb];rfl⟩
    by_cases a2:5<=g.ev
    · simp (disch := first | omega | exact PairsOK.mk rfl | (simp only [lenW] <;> omega)) only [hlt, hdr, hdl, a1, a2, wW, wV, simprocAttr]
      exact⟨.inr trivial,_,rfl,by rw[Qbi hlt (gF_2 hg (.inr a2)) (by decide) hb];rfl⟩
    have a12:¬(g.ev<0\/5<=g.ev):=by omega
    obtain⟨K,hK⟩:∃K:Nat,g.ev=(K:Int):=⟨g.ev.toNat,by omega⟩
    have hK5:K<5:=by omega
    have hdK:=QjD c.ev hK5
    have hdL:5<=((evsC c.ev).drop (K*5)).length:=by rw[hdK];simp
    have hKn:g.ev.toNat=K:=by omega
    have g1:¬(K:Int)<0:=by omega
    have g2:¬(5:Int)<=(K:Int):=by omega
    by_cases a3:(c.ev K).c=true
    · have hct : ctC c g.ev.toNat = true := by rw [hKn]; exact a3
      by_cases i0:i=0
      · have hG : gF (ctC c) v l i = bxsE v g.bs := gF_b hg a12 hct (.inl i0)
        have a4:¬(0:Int)<(i:Int):=by omega
        simp(disch:=first|omega|exact PairsOK.mk rfl|(simp only[lenW]<;>omega)) only[hlt,hdr,hdl,hK,g1,g2,hK5,hdK,hdL,a3,a4,wW,wV,simprocAttr]
        refine Qal 140 (fun k:Nat=>[(1,gdsV l),(2,.ptr 50 0 0),(5,vrsV v),(6,.int .i64 i),(8,.int .i64 k)]) (fun _=>[(50,.cells 0 [evsV c.ev,its 99 c.cs,its 114 c.rs,exs c.xs,cos c.ks])]) (fun k=>k<=g.bs.length/\∀j,j<k->bxE v (g.bs.getD j bx0)=0) (fun k=>g.bs.length-k) 0 ⟨[(50,.blk 50 0)],rfl,au0,au26,au25⟩ ⟨Nat.zero_le _,fun j hj=>absurd hj (Nat.not_lt_zero _)⟩ ?_
        rintro k ⟨hk,hc⟩
        by_cases hlk:k<g.bs.length
        · obtain ⟨b, hx⟩ := Qad hlk
          have hdr2:=Qbx hx
          have hdl2:2<=((g.bs.flatMap bxC).drop (k*2)).length:=by rw[hdr2];simp
          obtain⟨hl1,hl2⟩:=hr.ll g (List.mem_of_getElem? hg) b (List.mem_of_getElem? hx)
          by_cases a1:(b.lo.length:Int)=(v.length:Int)
          · by_cases a2 : (b.hi.length : Int) = (v.length : Int)
            · simp (disch := first | omega | exact PairsOK.mk rfl | (simp only [lenW] <;> omega)) only [hlt, hdr, hdl, hlk, hdr2, hdl2, a1, a2, wW, wV, simprocAttr]
              have e1:b.lo.length=v.length:=by omega
              have e2:b.hi.length=v.length:=by omega
              refine Qal 180 (fun j:Nat=>[(1,gdsV l),(2,.ptr 50 0 0),(5,vrsV v),(6,.int .i64 i),(8,.int .i64 k),(9,.ptr 51 0 0),(10,.int .i64 j)]) (fun _=>[(50,.cells 0 [evsV c.ev,its 99 c.cs,its 114 c.rs,exs c.xs,cos c.ks]),(51,.cells 0 [sli b.lo,sli b.hi])]) (fun j=>j<=v.length/\∀k,k<j->vrE v b k=0) (fun j=>v.length-j) 0 ⟨[(50,.blk 50 0),(51,.blk 156 0)],rfl,au0,au26,au25⟩ ⟨Nat.zero_le _,fun j hj=>absurd hj (Nat.not_lt_zero _)⟩ ?_
              rintro j ⟨hj,hd⟩
              by_cases hlj:j<v.length
              · obtain ⟨x, hvx⟩ := Qad hlj
                obtain⟨p,hp⟩:=Qad (l:=b.lo) (i:=j) (by omega)
                obtain⟨q,hq⟩:=Qad (l:=b.hi) (i:=j) (by omega)
                have hlp:j<b.lo.length:=by omega
                have hlq:j<b.hi.length:=by omega
                have hdv:=Qc8 hvx
                have hdw:4<=((v.flatMap vrC).drop (j*4)).length:=by rw[hdv];simp
                have hve:∀e,(if p<0\/x.2<q\/q<p then(2:Int)else 0)=e->vrE v b j=e:=fun e h=>by unfold vrE;rw[QaA hvx,QaA hp,QaA hq];exact h
                have bad:vrE v b j=2->gdsE (ctC c) v l=2:=fun h=>Qbi hlt (by rw[hG];exact bx_at hx (vr_at e1 e2 hlj h hd) (by decide) hc) (by decide) hb
                by_cases b1:p<0
                · simp (disch := first | omega | exact PairsOK.mk rfl | (simp only [lenW] <;> omega)) only [hlj, hlp, hlq, hdv, hdw, Qae hp, Qae hq, b1, wW, wV, simprocAttr]
                  exact⟨.inr trivial,_,rfl,by rw[bad (hve 2 (if_pos (.inl b1)))];rfl⟩
                by_cases b2:x.2<q
                · simp (disch := first | omega | exact PairsOK.mk rfl | (simp only [lenW] <;> omega)) only [hlj, hlp, hlq, hdv, hdw, Qae hp, Qae hq, b1, b2, wW, wV, simprocAttr]
                  exact⟨.inr trivial,_,rfl,by rw[bad (hve 2 (if_pos (.inr (.inl b2))))];rfl⟩
                by_cases b3:q<p
                · simp (disch := first | omega | exact PairsOK.mk rfl | (simp only [lenW] <;> omega)) only [hlj, hlp, hlq, hdv, hdw, Qae hp, Qae hq, b1, b2, b3, wW, wV, simprocAttr]
                  exact⟨.inr trivial,_,rfl,by rw[bad (hve 2 (if_pos (.inr (.inr b3))))];rfl⟩
                simp(disch:=first|omega|exact PairsOK.mk rfl|(simp only[lenW]<;>omega)) only[hlj,hlp,hlq,hdv,hdw,Qae hp,Qae hq,b1,b2,b3,wW,wV,simprocAttr]
                exact⟨j+1,by omega,⟨by omega,fe_up hd (hve 0 (if_neg (by omega)))⟩,⟨[(50,.blk 50 0),(51,.blk 51 0)],rfl,au0,au26,au25⟩⟩
              · simp (disch := first | omega | exact PairsOK.mk rfl | (simp only [lenW] <;> omega)) only [hlj, wW, wV, simprocAttr]
                exact⟨k+1,by omega,⟨by omega,fe_up hc (by rw[QaA hx];unfold bxE;rw[if_pos ⟨e1,e2⟩];exact QbN fun k hk=>hd k (by omega))⟩,⟨[(50,.blk 50 0)],rfl,au0,au26,au25⟩⟩
            · simp (disch := first | omega | exact PairsOK.mk rfl | (simp only [lenW] <;> omega)) only [hlt, hdr, hdl, hlk, hdr2, hdl2, a1, a2, wW, wV, simprocAttr]
              exact⟨.inr trivial,_,rfl,by rw[Qbi hlt (e:=4) (by rw[hG];exact bx_at hx (by unfold bxE;rw[if_neg (by omega)]) (by decide) hc) (by decide) hb];rfl⟩
          · simp (disch := first | omega | exact PairsOK.mk rfl | (simp only [lenW] <;> omega)) only [hlt, hdr, hdl, hlk, hdr2, hdl2, a1, wW, wV, simprocAttr]
            exact⟨.inr trivial,_,rfl,by rw[Qbi hlt (e:=4) (by rw[hG];exact bx_at hx (by unfold bxE;rw[if_neg (by omega)]) (by decide) hc) (by decide) hb];rfl⟩
        · simp (disch := first | omega | exact PairsOK.mk rfl | (simp only [lenW] <;> omega)) only [hlt, hdr, hdl, hlk, wW, wV, simprocAttr]
          exact⟨i+1,by omega,⟨by omega,fe_up hb (by rw[hG];exact QbN fun j hj=>hc j (by omega))⟩,⟨[(50,.blk 50 0)],rfl,au0,au26,au25⟩⟩
      · obtain ⟨y, hy⟩ := Qad (l := l) (i := i - 1) (by omega)
        have a4:(0:Int)<(i:Int):=by omega
        have q5:(i:Int)-1=((i-1:Nat):Int):=by omega
        have q6:((i-1:Nat):Int)<l.length:=by omega
        have q7:i-1<l.length:=by omega
        have hdy:=Qbc hy
        have hdm:2<=((l.flatMap gdC).drop ((i-1)*2)).length:=by rw[hdy];simp
        by_cases a5:g.ev<=y.ev
        · have a6 : (K : Int) <= y.ev := by omega
          simp(disch:=first|omega|exact PairsOK.mk rfl|(simp only[lenW]<;>omega)) only[hlt,hdr,hdl,hK,g1,g2,hK5,hdK,hdL,a3,a4,q5,q6,q7,hdy,hdm,a6,wW,wV,simprocAttr]
          exact⟨.inr trivial,_,rfl,by rw[Qbi hlt (gF_5 hg hy a12 hct (by omega) a5) (by decide) hb];rfl⟩
        have hG:gF (ctC c) v l i=bxsE v g.bs:=gF_b hg a12 hct (.inr fun z hz=>by rw[hy]at hz;cases hz;exact a5)
        have a6:¬(K:Int)<=y.ev:=by omega
        simp(disch:=first|omega|exact PairsOK.mk rfl|(simp only[lenW]<;>omega)) only[hlt,hdr,hdl,hK,g1,g2,hK5,hdK,hdL,a3,a4,q5,q6,q7,hdy,hdm,a6,wW,wV,simprocAttr]
        refine Qal 140 (fun k:Nat=>[(1,gdsV l),(2,.ptr 50 0 0),(5,vrsV v),(6,.int .i64 i),(8,.int .i64 k)]) (fun _=>[(50,.cells 0 [evsV c.ev,its 99 c.cs,its 114 c.rs,exs c.xs,cos c.ks])]) (fun k=>k<=g.bs.length/\∀j,j<k->bxE v (g.bs.getD j bx0)=0) (fun k=>g.bs.length-k) 0 ⟨[(50,.blk 50 0)],rfl,au0,au26,au25⟩ ⟨Nat.zero_le _,fun j hj=>absurd hj (Nat.not_lt_zero _)⟩ ?_
        rintro k ⟨hk,hc⟩
        by_cases hlk:k<g.bs.length
        · obtain ⟨b, hx⟩ := Qad hlk
          have hdr2:=Qbx hx
          have hdl2:2<=((g.bs.flatMap bxC).drop (k*2)).length:=by rw[hdr2];simp
          obtain⟨hl1,hl2⟩:=hr.ll g (List.mem_of_getElem? hg) b (List.mem_of_getElem? hx)
          by_cases a1:(b.lo.length:Int)=(v.length:Int)
          · by_cases a2 : (b.hi.length : Int) = (v.length : Int)
            · simp (disch := first | omega | exact PairsOK.mk rfl | (simp only [lenW] <;> omega)) only [hlt, hdr, hdl, hlk, hdr2, hdl2, a1, a2, wW, wV, simprocAttr]
              have e1:b.lo.length=v.length:=by omega
              have e2:b.hi.length=v.length:=by omega
              refine Qal 180 (fun j:Nat=>[(1,gdsV l),(2,.ptr 50 0 0),(5,vrsV v),(6,.int .i64 i),(8,.int .i64 k),(9,.ptr 51 0 0),(10,.int .i64 j)]) (fun _=>[(50,.cells 0 [evsV c.ev,its 99 c.cs,its 114 c.rs,exs c.xs,cos c.ks]),(51,.cells 0 [sli b.lo,sli b.hi])]) (fun j=>j<=v.length/\∀k,k<j->vrE v b k=0) (fun j=>v.length-j) 0 ⟨[(50,.blk 50 0),(51,.blk 156 0)],rfl,au0,au26,au25⟩ ⟨Nat.zero_le _,fun j hj=>absurd hj (Nat.not_lt_zero _)⟩ ?_
              rintro j ⟨hj,hd⟩
              by_cases hlj:j<v.length
              · obtain ⟨x, hvx⟩ := Qad hlj
                obtain⟨p,hp⟩:=Qad (l:=b.lo) (i:=j) (by omega)
                obtain⟨q,hq⟩:=Qad (l:=b.hi) (i:=j) (by omega)
                have hlp:j<b.lo.length:=by omega
                have hlq:j<b.hi.length:=by omega
                have hdv:=Qc8 hvx
                have hdw:4<=((v.flatMap vrC).drop (j*4)).length:=by rw[hdv];simp
                have hve:∀e,(if p<0\/x.2<q\/q<p then(2:Int)else 0)=e->vrE v b j=e:=fun e h=>by unfold vrE;rw[QaA hvx,QaA hp,QaA hq];exact h
                have bad:vrE v b j=2->gdsE (ctC c) v l=2:=fun h=>Qbi hlt (by rw[hG];exact bx_at hx (vr_at e1 e2 hlj h hd) (by decide) hc) (by decide) hb
                by_cases b1:p<0
                · simp (disch := first | omega | exact PairsOK.mk rfl | (simp only [lenW] <;> omega)) only [hlj, hlp, hlq, hdv, hdw, Qae hp, Qae hq, b1, wW, wV, simprocAttr]
                  exact⟨.inr trivial,_,rfl,by rw[bad (hve 2 (if_pos (.inl b1)))];rfl⟩
                by_cases b2:x.2<q
                · simp (disch := first | omega | exact PairsOK.mk rfl | (simp only [lenW] <;> omega)) only [hlj, hlp, hlq, hdv, hdw, Qae hp, Qae hq, b1, b2, wW, wV, simprocAttr]
                  exact⟨.inr trivial,_,rfl,by rw[bad (hve 2 (if_pos (.inr (.inl b2))))];rfl⟩
                by_cases b3:q<p
                · simp (disch := first | omega | exact PairsOK.mk rfl | (simp only [lenW] <;> omega)) only [hlj, hlp, hlq, hdv, hdw, Qae hp, Qae hq, b1, b2, b3, wW, wV, simprocAttr]
                  exact⟨.inr trivial,_,rfl,by rw[bad (hve 2 (if_pos (.inr (.inr b3))))];rfl⟩
                simp(disch:=first|omega|exact PairsOK.mk rfl|(simp only[lenW]<;>omega)) only[hlj,hlp,hlq,hdv,hdw,Qae hp,Qae hq,b1,b2,b3,wW,wV,simprocAttr]
                exact⟨j+1,by omega,⟨by omega,fe_up hd (hve 0 (if_neg (by omega)))⟩,⟨[(50,.blk 50 0),(51,.blk 51 0)],rfl,au0,au26,au25⟩⟩
              · simp (disch := first | omega | exact PairsOK.mk rfl | (simp only [lenW] <;> omega)) only [hlj, wW, wV, simprocAttr]
                exact⟨k+1,by omega,⟨by omega,fe_up hc (by rw[QaA hx];unfold bxE;rw[if_pos ⟨e1,e2⟩];exact QbN fun k hk=>hd k (by omega))⟩,⟨[(50,.blk 50 0)],rfl,au0,au26,au25⟩⟩
            · simp (disch := first | omega | exact PairsOK.mk rfl | (simp only [lenW] <;> omega)) only [hlt, hdr, hdl, hlk, hdr2, hdl2, a1, a2, wW, wV, simprocAttr]
              exact⟨.inr trivial,_,rfl,by rw[Qbi hlt (e:=4) (by rw[hG];exact bx_at hx (by unfold bxE;rw[if_neg (by omega)]) (by decide) hc) (by decide) hb];rfl⟩
          · simp (disch := first | omega | exact PairsOK.mk rfl | (simp only [lenW] <;> omega)) only [hlt, hdr, hdl, hlk, hdr2, hdl2, a1, wW, wV, simprocAttr]
            exact⟨.inr trivial,_,rfl,by rw[Qbi hlt (e:=4) (by rw[hG];exact bx_at hx (by unfold bxE;rw[if_neg (by omega)]) (by decide) hc) (by decide) hb];rfl⟩
        · simp (disch := first | omega | exact PairsOK.mk rfl | (simp only [lenW] <;> omega)) only [hlt, hdr, hdl, hlk, wW, wV, simprocAttr]
          exact⟨i+1,by omega,⟨by omega,fe_up hb (by rw[hG];exact QbN fun j hj=>hc j (by omega))⟩,⟨[(50,.blk 50 0)],rfl,au0,au26,au25⟩⟩
    · have a3 : (c.ev K).c = false := by simpa using a3
      simp(disch:=first|omega|exact PairsOK.mk rfl|(simp only[lenW]<;>omega)) only[hlt,hdr,hdl,hK,g1,g2,hK5,hdK,hdL,a3,wW,wV,simprocAttr]
      exact⟨.inr trivial,_,rfl,by rw[Qbi hlt (gF_11 hg a12 (by rw[hKn];exact a3)) (by decide) hb];rfl⟩
  · simp (disch := first | omega | exact PairsOK.mk rfl | (simp only [lenW] <;> omega)) only [hlt, wW, wV, simprocAttr]
    exact⟨.inr trivial,_,rfl,by rw[show gdsE (ctC c) v l=0 from QbN (f:=gF (ctC c) v l) fun j hj=>hb j (by omega)];rfl⟩
end Go.AM.SO
namespace Go.AM.SO
open Go.Proofs Go.AM.SD Go.AM.SE
def ckA (e:Int) (v:List (List UInt8×Int)):AV:=if e=0 then vrsV v else .nilsl
abbrev ckV (e:Int) (v:List (List UInt8×Int)):AV:= .tup [ckA e v,.int .i64 e]
theorem QjE (e:Int) (v:List (List UInt8×Int)):noRef (ckV e v)=true:=by
 unfold ckV ckA
 split
 ·rw[noRef,noRefs,QbD];rfl
 ·rfl
theorem ckA_0 {v:List (List UInt8×Int)}:ckA 0 v=vrsV v:=if_pos rfl
theorem Qd0 {e:Int} {v:List (List UInt8×Int)} (h:e≠0):ckA e v= .nilsl:=if_neg h
theorem checked71 (c : Cel) (h : WfCel c) (l : List Gdn) (hr : GdsR l) : PSpec Tryz.prog 71 [celV c, gdsV l] (ckV (gdsE (ctC c) (vrsL c) l) (vrsL c)) := by
  have hv:=first44 c h
  have hnr:=Qa6 c
  refine PSpec.Qag 64 UK.ok71 rfl (by rw[noRefs,SU.QaI,noRefs,QbC];rfl) (QjE _ _) ?_
  have h5:=Qdx h
  have hel:=Qk2 c.ev
  generalize vrsL c=v at*
  simp(disch:=first|omega|exact PairsOK.mk rfl|(simp only[lenW]<;>omega)) only[UK.s71,wW,wV,simprocAttr]
  refine cp hv ?_
  simp(disch:=first|omega|exact PairsOK.mk rfl|(simp only[lenW]<;>omega)) only[wW,wV,simprocAttr]
  refine Qal 100 (fun i:Nat=>[(1,gdsV l),(2,.ptr 50 0 0),(6,vrsV v),(19,gdsV l),(20,.int .i64 l.length),(21,.int .i64 i)]) (fun _=>[(50,.cells 0 [evsV c.ev,its 99 c.cs,its 114 c.rs,exs c.xs,cos c.ks])]) (fun i=>i<=l.length/\∀j,j<i->gF (ctC c) v l j=0) (fun i=>l.length-i) 0 ?_ ⟨Nat.zero_le _,fun j hj=>absurd hj (Nat.not_lt_zero _)⟩ ?_
  · refine ⟨[(50, .blk 64 0)], rfl, au0, ?_, au25⟩
    exact RB.cells rfl rfl gg (RnL.same hnr) RB.nil
  rintro i ⟨hi,hb⟩
  have hrl:=hr.len
  by_cases hlt:i<l.length
  · obtain ⟨g, hg⟩ := Qad hlt
    have hdr:=Qbc hg
    have hdl:2<=((l.flatMap gdC).drop (i*2)).length:=by rw[hdr];simp
    have hrb:=hr.bl g (List.mem_of_getElem? hg)
    by_cases a1:g.ev<0
    · simp (disch := first | omega | exact PairsOK.mk rfl | (simp only [lenW] <;> omega)) only [hlt, hdr, hdl, a1, wW, wV, simprocAttr]
      exact⟨.inr trivial,_,rfl,by rw[Qbi hlt (gF_2 hg (.inl a1)) (by decide) hb];rfl⟩
    by_cases a2:5<=g.ev
    · simp (disch := first | omega | exact PairsOK.mk rfl | (simp only [lenW] <;> omega)) only [hlt, hdr, hdl, a1, a2, wW, wV, simprocAttr]
      exact⟨.inr trivial,_,rfl,by rw[Qbi hlt (gF_2 hg (.inr a2)) (by decide) hb];rfl⟩
    have a12:¬(g.ev<0\/5<=g.ev):=by omega
    obtain⟨K,hK⟩:∃K:Nat,g.ev=(K:Int):=⟨g.ev.toNat,by omega⟩
    have hK5:K<5:=by omega
    have hdK:=QjD c.ev hK5
    have hdL:5<=((evsC c.ev).drop (K*5)).length:=by rw[hdK];simp
    have hKn:g.ev.toNat=K:=by omega
    have g1:¬(K:Int)<0:=by omega
    have g2:¬(5:Int)<=(K:Int):=by omega
    by_cases a3:(c.ev K).c=true
    · have hct : ctC c g.ev.toNat = true := by rw [hKn]; exact a3
      by_cases i0:i=0
      · have hG : gF (ctC c) v l i = bxsE v g.bs := gF_b hg a12 hct (.inl i0)
        have a4:¬(0:Int)<(i:Int):=by omega
        have hcb:=cbx139 v g.bs (by omega) hrb (hr.ll g (List.mem_of_getElem? hg))
        rw[<-hG]at hcb
        simp(disch:=first|omega|exact PairsOK.mk rfl|(simp only[lenW]<;>omega)) only[hlt,hdr,hdl,hK,g1,g2,hK5,hdK,hdL,a3,a4,wW,wV,simprocAttr]
        refine cp hcb ?_
        by_cases h0:gF (ctC c) v l i=0
        · simp (disch := first | omega | exact PairsOK.mk rfl | (simp only [lenW] <;> omega)) only [h0, wW, wV, simprocAttr]
          exact⟨i+1,by omega,⟨by omega,fe_up hb h0⟩,⟨[(50,.blk 50 0)],rfl,au0,au26,au25⟩⟩
        · simp (disch := first | omega | exact PairsOK.mk rfl | (simp only [lenW] <;> omega)) only [h0, wW, wV, simprocAttr]
          exact⟨.inr trivial,_,rfl,by rw[Qbi hlt rfl h0 hb,ckV,Qd0 h0];rfl⟩
      · obtain ⟨y, hy⟩ := Qad (l := l) (i := i - 1) (by omega)
        have a4:(0:Int)<(i:Int):=by omega
        have q5:(i:Int)-1=((i-1:Nat):Int):=by omega
        have q6:((i-1:Nat):Int)<l.length:=by omega
        have q7:i-1<l.length:=by omega
        have hdy:=Qbc hy
        have hdm:2<=((l.flatMap gdC).drop ((i-1)*2)).length:=by rw[hdy];simp
        by_cases a5:g.ev<=y.ev
        · have a6 : (K : Int) <= y.ev := by omega
          simp(disch:=first|omega|exact PairsOK.mk rfl|(simp only[lenW]<;>omega)) only[hlt,hdr,hdl,hK,g1,g2,hK5,hdK,hdL,a3,a4,q5,q6,q7,hdy,hdm,a6,wW,wV,simprocAttr]
          exact⟨.inr trivial,_,rfl,by rw[Qbi hlt (gF_5 hg hy a12 hct (by omega) a5) (by decide) hb];rfl⟩
        have hG:gF (ctC c) v l i=bxsE v g.bs:=gF_b hg a12 hct (.inr fun z hz=>by rw[hy]at hz;cases hz;exact a5)
        have a6:¬(K:Int)<=y.ev:=by omega
        have hcb:=cbx139 v g.bs (by omega) hrb (hr.ll g (List.mem_of_getElem? hg))
        rw[<-hG]at hcb
        simp(disch:=first|omega|exact PairsOK.mk rfl|(simp only[lenW]<;>omega)) only[hlt,hdr,hdl,hK,g1,g2,hK5,hdK,hdL,a3,a4,q5,q6,q7,hdy,hdm,a6,wW,wV,simprocAttr]
        refine cp hcb ?_
        by_cases h0:gF (ctC c) v l i=0
        · simp (disch := first | omega | exact PairsOK.mk rfl | (simp only [lenW] <;> omega)) only [h0, wW, wV, simprocAttr]
          exact⟨i+1,by omega,⟨by omega,fe_up hb h0⟩,⟨[(50,.blk 50 0)],rfl,au0,au26,au25⟩⟩
        · simp (disch := first | omega | exact PairsOK.mk rfl | (simp only [lenW] <;> omega)) only [h0, wW, wV, simprocAttr]
          exact⟨.inr trivial,_,rfl,by rw[Qbi hlt rfl h0 hb,ckV,Qd0 h0];rfl⟩
    · have a3 : (c.ev K).c = false := by simpa using a3
      simp(disch:=first|omega|exact PairsOK.mk rfl|(simp only[lenW]<;>omega)) only[hlt,hdr,hdl,hK,g1,g2,hK5,hdK,hdL,a3,wW,wV,simprocAttr]
      exact⟨.inr trivial,_,rfl,by rw[Qbi hlt (gF_11 hg a12 (by rw[hKn];exact a3)) (by decide) hb];rfl⟩
  · simp (disch := first | omega | exact PairsOK.mk rfl | (simp only [lenW] <;> omega)) only [hlt, wW, wV, simprocAttr]
    exact⟨.inr trivial,_,rfl,by rw[show gdsE (ctC c) v l=0 from QbN (f:=gF (ctC c) v l) fun j hj=>hb j (by omega),ckV,ckA_0];rfl⟩
theorem check35 (c:Cel) (h:WfCel c) (l:List Gdn) (hr:GdsR l):PSpec Tryz.prog 35 [celV c,gdsV l] (.int .i64 (gdsE (ctC c) (vrsL c) l)):=by
 have hv:=checked71 c h l hr
 refine PSpec.Qag 64 UK.ok35 rfl (by rw[noRefs,SU.QaI,noRefs,QbC];rfl) rfl ?_
 have hnk:=QjE (gdsE (ctC c) (vrsL c) l) (vrsL c)
 generalize gdsE (ctC c) (vrsL c) l=e at*
 generalize ckA e (vrsL c)=A at*
 simp(disch:=first|omega|exact PairsOK.mk rfl|(simp only[lenW]<;>omega)) only[UK.s35,wW,wV,simprocAttr]
 refine cp hv ?_
 simp(disch:=first|omega|exact PairsOK.mk rfl|(simp only[lenW]<;>omega)) only[wW,wV,simprocAttr]
 exact⟨.inr trivial,_,rfl,rfl⟩
end Go.AM.SO
namespace Go.AM.SO
open Go.Proofs Go.AM.SD Go.AM.SE
theorem cpcP {P:Program} {N:NM} {r:List SOper} {dead:List Nat} {fs:List Fr} {n:Nat} {T:Tmps} {h:Heap} {Q:QC} {d:Option Nat} {f:Nat} {args a c:List AV} {v:AV} (hp:PSpec P f (a++args++c) v) (k:wR P N r dead fs (n+1) (putD T d v) h Q):wCall P N .pure (.fn f a c) args d r dead fs n T h Q:=⟨v,by simpa using hp,k⟩
theorem within87 (b:Bxn) (t:List Int) (h1:b.lo.length=t.length) (h2:b.hi.length=t.length) (ht:t.length<=9223372036854775807):PSpec Tryz.prog 87 [bxV b,sli t] (.bool (inB b t)):=by
  refine PSpec.Qag 64 UK.ok87 rfl (by simp only[noRefs,noRef,Qaa];rfl) rfl ?_
  simp(disch:=first|omega|exact PairsOK.mk rfl|(simp only[lenW]<;>omega)) only[UK.s87,wW,wV,simprocAttr]
  refine Qal 100 (fun i:Nat=>[(1,sli t),(2,.ptr 51 0 0),(5,.int .i64 i)]) (fun _=>[(51,.cells 0 [sli b.lo,sli b.hi])]) (fun i=>i<=t.length/\∀(j:Nat) x,j<i->t[j]?=some x->b.lo.getD j 0<=x/\x<=b.hi.getD j 0) (fun i=>t.length-i) 0 ⟨[(51,.blk 64 0)],rfl,au0,au23,au24⟩ ⟨Nat.zero_le _,fun j x hj=>absurd hj (Nat.not_lt_zero _)⟩ ?_
  rintro i ⟨hi,hb⟩
  by_cases hlt:i<t.length
  · obtain ⟨x, hx⟩ := Qad hlt
    obtain⟨p,hp⟩:=Qad (l:=b.lo) (i:=i) (by omega)
    obtain⟨q,hq⟩:=Qad (l:=b.hi) (i:=i) (by omega)
    have hlp:i<b.lo.length:=by omega
    have hlq:i<b.hi.length:=by omega
    have gp:b.lo.getD i 0=p:=QaA hp
    have gq:b.hi.getD i 0=q:=QaA hq
    by_cases b1:x<p
    · simp (disch := first | omega | exact PairsOK.mk rfl | (simp only [lenW] <;> omega)) only [hlt, hlp, hlq, Qae hx, Qae hp, Qae hq, b1, wW, wV, simprocAttr]
      exact⟨.inr trivial,_,rfl,by rw[QdC hx (.inl (by rw[gp];exact b1))];rfl⟩
    by_cases b2:q<x
    · simp (disch := first | omega | exact PairsOK.mk rfl | (simp only [lenW] <;> omega)) only [hlt, hlp, hlq, Qae hx, Qae hp, Qae hq, b1, b2, wW, wV, simprocAttr]
      exact⟨.inr trivial,_,rfl,by rw[QdC hx (.inr (by rw[gq];exact b2))];rfl⟩
    simp(disch:=first|omega|exact PairsOK.mk rfl|(simp only[lenW]<;>omega)) only[hlt,hlp,hlq,Qae hx,Qae hp,Qae hq,b1,b2,wW,wV,simprocAttr]
    refine⟨i+1,by omega,⟨by omega,fun j y hj hy=>?_⟩,⟨[(51,.blk 51 0)],rfl,au0,au23,au24⟩⟩
    by_cases e:j=i
    · subst e;rw[hx]at hy;cases hy;rw[gp,gq];omega
    · exact hb j y (by omega) hy
  · simp (disch := first | omega | exact PairsOK.mk rfl | (simp only [lenW] <;> omega)) only [hlt, wW, wV, simprocAttr]
    exact⟨.inr trivial,_,rfl,by rw[Qji fun j y hy=>hb j y (by have:=(List.getElem?_eq_some_iff.1 hy).1;omega) hy];rfl⟩
theorem within131 (b:Bxn) (t:List Int) (h1:b.lo.length=t.length) (h2:b.hi.length=t.length) (ht:t.length<=9223372036854775807):PSpec Tryz.prog 131 [bxV b,.fptr [sli t]] (.bool (inB b t)):=by
  refine PSpec.Qag 64 UK.ok131 rfl (by simp only[noRefs,noRef,Qaa];rfl) rfl ?_
  simp(disch:=first|omega|exact PairsOK.mk rfl|(simp only[lenW]<;>omega)) only[UK.s131,wW,wV,simprocAttr]
  refine Qal 100 (fun i:Nat=>[(6,sli t),(2,.ptr 51 0 0),(7,.int .i64 t.length),(8,.int .i64 i)]) (fun _=>[(51,.cells 0 [sli b.lo,sli b.hi])]) (fun i=>i<=t.length/\∀(j:Nat) x,j<i->t[j]?=some x->b.lo.getD j 0<=x/\x<=b.hi.getD j 0) (fun i=>t.length-i) 0 ⟨[(51,.blk 64 0)],rfl,au0,au23,au24⟩ ⟨Nat.zero_le _,fun j x hj=>absurd hj (Nat.not_lt_zero _)⟩ ?_
  rintro i ⟨hi,hb⟩
  by_cases hlt:i<t.length
  · obtain ⟨x, hx⟩ := Qad hlt
    obtain⟨p,hp⟩:=Qad (l:=b.lo) (i:=i) (by omega)
    obtain⟨q,hq⟩:=Qad (l:=b.hi) (i:=i) (by omega)
    have hlp:i<b.lo.length:=by omega
    have hlq:i<b.hi.length:=by omega
    have gp:b.lo.getD i 0=p:=QaA hp
    have gq:b.hi.getD i 0=q:=QaA hq
    by_cases b1:x<p
    · simp (disch := first | omega | exact PairsOK.mk rfl | (simp only [lenW] <;> omega)) only [hlt, hlp, hlq, Qae hx, Qae hp, Qae hq, b1, wW, wV, simprocAttr]
      exact⟨.inr trivial,_,rfl,by rw[QdC hx (.inl (by rw[gp];exact b1))];rfl⟩
    by_cases b2:q<x
    · simp (disch := first | omega | exact PairsOK.mk rfl | (simp only [lenW] <;> omega)) only [hlt, hlp, hlq, Qae hx, Qae hp, Qae hq, b1, b2, wW, wV, simprocAttr]
      exact⟨.inr trivial,_,rfl,by rw[QdC hx (.inr (by rw[gq];exact b2))];rfl⟩
    simp(disch:=first|omega|exact PairsOK.mk rfl|(simp only[lenW]<;>omega)) only[hlt,hlp,hlq,Qae hx,Qae hp,Qae hq,b1,b2,wW,wV,simprocAttr]
    refine⟨i+1,by omega,⟨by omega,fun j y hj hy=>?_⟩,⟨[(51,.blk 51 0)],rfl,au0,au23,au24⟩⟩
    by_cases e:j=i
    · subst e;rw[hx]at hy;cases hy;rw[gp,gq];omega
    · exact hb j y (by omega) hy
  · simp (disch := first | omega | exact PairsOK.mk rfl | (simp only [lenW] <;> omega)) only [hlt, wW, wV, simprocAttr]
    exact⟨.inr trivial,_,rfl,by rw[Qji fun j y hy=>hb j y (by have:=(List.getElem?_eq_some_iff.1 hy).1;omega) hy];rfl⟩
theorem within40 (l:List Bxn) (t:List Int) (hl:l.length<=9223372036854775807) (hb:∀b∈l,b.lo.length=t.length/\b.hi.length=t.length) (ht:t.length<=9223372036854775807):PSpec Tryz.prog 40 [bxsV l,sli t] (.bool (inBs l t)):=by
  refine PSpec.Qag 64 UK.ok40 rfl (by simp only[noRefs,noRef,Qaa,Qax];rfl) rfl ?_
  simp(disch:=first|omega|exact PairsOK.mk rfl|(simp only[lenW]<;>omega)) only[UK.s40,wW,wV,simprocAttr]
  refine Qal 100 (fun i:Nat=>[(0,bxsV l),(1,sli t),(5,.int .i64 i)]) (fun _=>[]) (fun i=>i<=l.length/\∀(j:Nat) x,j<i->l[j]?=some x->inB x t=false) (fun i=>l.length-i) 0 ⟨[],rfl,au0,au23,au24⟩ ⟨Nat.zero_le _,fun j x hj=>absurd hj (Nat.not_lt_zero _)⟩ ?_
  rintro i ⟨hi,hc⟩
  by_cases hlt:i<l.length
  · obtain ⟨b, hx⟩ := Qad hlt
    have hdr:=Qbx hx
    have hdl:2<=((l.flatMap bxC).drop (i*2)).length:=by rw[hdr];simp
    obtain⟨e1,e2⟩:=hb b (List.mem_of_getElem? hx)
    have hw:=within87 b t e1 e2 ht
    cases h0:inB b t with
    | true =>
      rw[h0]at hw
      simp(disch:=first|omega|exact PairsOK.mk rfl|(simp only[lenW]<;>omega)) only[hlt,hdr,hdl,wW,wV,simprocAttr]
      refine cp hw ?_
      simp(disch:=first|omega|exact PairsOK.mk rfl|(simp only[lenW]<;>omega)) only[wW,wV,simprocAttr]
      exact⟨.inr trivial,_,rfl,by rw[QhQ hx h0];rfl⟩
    | false =>
      rw[h0]at hw
      simp(disch:=first|omega|exact PairsOK.mk rfl|(simp only[lenW]<;>omega)) only[hlt,hdr,hdl,wW,wV,simprocAttr]
      refine cp hw ?_
      simp(disch:=first|omega|exact PairsOK.mk rfl|(simp only[lenW]<;>omega)) only[wW,wV,simprocAttr]
      refine⟨i+1,by omega,⟨by omega,fun j y hj hy=>?_⟩,⟨[],rfl,au0,au23,au24⟩⟩
      by_cases e:j=i
      · subst e;rw[hx]at hy;cases hy;exact h0
      · exact hc j y (by omega) hy
  · simp (disch := first | omega | exact PairsOK.mk rfl | (simp only [lenW] <;> omega)) only [hlt, wW, wV, simprocAttr]
    exact⟨.inr trivial,_,rfl,by rw[Qgz fun j y hy=>hc j y (by have:=(List.getElem?_eq_some_iff.1 hy).1;omega) hy];rfl⟩
theorem index182 (l : List Bxn) (t : List Int) (hl : l.length <= 9223372036854775807) (hb : ∀ b ∈ l, b.lo.length = t.length /\ b.hi.length = t.length) (ht : t.length <= 9223372036854775807) :
    ∃k:Int,(decide (0<=k)=inBs l t)/\PSpec Tryz.prog 182 [bxsV l,.fn 131 [] [.fptr [sli t]]] (.int .i64 k):=by
  refine⟨if inBs l t then(l.findIdx fun b=>inB b t:Int)else-1,?_,?_⟩
  · cases inBs l t with
    |true=>simp
    |false=>rfl
  refine PSpec.Qag 64 UK.ok182 rfl (by simp only[noRefs,noRef,Qaa,Qax];rfl) rfl ?_
  simp(disch:=first|omega|exact PairsOK.mk rfl|(simp only[lenW]<;>omega)) only[UK.s182,wW,wV,simprocAttr]
  refine Qal 100 (fun i:Nat=>[(0,bxsV l),(1,.fn 131 [] [.fptr [sli t]]),(7,.int .i64 l.length),(8,.int .i64 i)]) (fun _=>[]) (fun i=>i<=l.length/\∀(j:Nat) x,j<i->l[j]?=some x->inB x t=false) (fun i=>l.length-i) 0 ⟨[],rfl,au0,au23,au24⟩ ⟨Nat.zero_le _,fun j x hj=>absurd hj (Nat.not_lt_zero _)⟩ ?_
  rintro i ⟨hi,hc⟩
  by_cases hlt:i<l.length
  · obtain ⟨b, hx⟩ := Qad hlt
    have hdr:=Qbx hx
    have hdl:2<=((l.flatMap bxC).drop (i*2)).length:=by rw[hdr];simp
    obtain⟨e1,e2⟩:=hb b (List.mem_of_getElem? hx)
    have hw:=within131 b t e1 e2 ht
    cases h0:inB b t with
    | true =>
      rw[h0]at hw
      simp(disch:=first|omega|exact PairsOK.mk rfl|(simp only[lenW]<;>omega)) only[hlt,hdr,hdl,wW,wV,simprocAttr]
      refine cpcP hw ?_
      simp(disch:=first|omega|exact PairsOK.mk rfl|(simp only[lenW]<;>omega)) only[wW,wV,simprocAttr]
      refine⟨.inr trivial,_,rfl,?_⟩
      have hf:l.findIdx (fun b=>inB b t)=i:=by
        have hxi:l[i]=b:=(List.getElem?_eq_some_iff.1 hx).2
        refine(List.findIdx_eq hlt).2 ⟨by rw[hxi];exact h0,fun j hj=>?_⟩
        exact hc j _ hj (List.getElem?_eq_getElem (by omega))
      rw[if_pos (QhQ hx h0),hf];rfl
    | false =>
      rw[h0]at hw
      simp(disch:=first|omega|exact PairsOK.mk rfl|(simp only[lenW]<;>omega)) only[hlt,hdr,hdl,wW,wV,simprocAttr]
      refine cpcP hw ?_
      simp(disch:=first|omega|exact PairsOK.mk rfl|(simp only[lenW]<;>omega)) only[wW,wV,simprocAttr]
      refine⟨i+1,by omega,⟨by omega,fun j y hj hy=>?_⟩,⟨[],rfl,au0,au23,au24⟩⟩
      by_cases e:j=i
      · subst e;rw[hx]at hy;cases hy;exact h0
      · exact hc j y (by omega) hy
  · simp (disch := first | omega | exact PairsOK.mk rfl | (simp only [lenW] <;> omega)) only [hlt, wW, wV, simprocAttr]
    refine⟨.inr trivial,_,rfl,?_⟩
    rw[if_neg (by rw[Qgz fun j y hy=>hc j y (by have:=(List.getElem?_eq_some_iff.1 hy).1;omega) hy];decide)];rfl
theorem contains130 (l:List Bxn) (t:List Int) (hl:l.length<=9223372036854775807) (hb:∀b∈l,b.lo.length=t.length/\b.hi.length=t.length) (ht:t.length<=9223372036854775807):
    PSpec Tryz.prog 130 [bxsV l,.fn 131 [] [.fptr [sli t]]] (.bool (inBs l t)):=by
  obtain⟨k,hk,hi⟩:=index182 l t hl hb ht
  refine PSpec.Qag 64 UK.ok130 rfl (by simp only[noRefs,noRef,Qaa,Qax];rfl) rfl ?_
  generalize inBs l t=B at*
  subst hk
  simp(disch:=first|omega|exact PairsOK.mk rfl|(simp only[lenW]<;>omega)) only[UK.s130,wW,wV,simprocAttr]
  refine ch (HSpec.lend (FrzL.same _) hi rfl) ?_
  by_cases h0:0<=k
  · simp (disch := first | omega | exact PairsOK.mk rfl | (simp only [lenW] <;> omega)) only [h0, wW, wV, simprocAttr]
    exact⟨.inr trivial,_,rfl,rfl⟩
  · simp (disch := first | omega | exact PairsOK.mk rfl | (simp only [lenW] <;> omega)) only [h0, wW, wV, simprocAttr]
    exact⟨.inr trivial,_,rfl,rfl⟩
theorem permits65 (g:Gdn) (t:List Int) (hl:g.bs.length<=9223372036854775807) (hb:∀b∈g.bs,b.lo.length=t.length/\b.hi.length=t.length) (ht:t.length<=9223372036854775807):
  PSpec Tryz.prog 65 [gdV g,sli t] (.bool (inBs g.bs t)):=by
 have hi:=contains130 g.bs t hl hb ht
 refine PSpec.Qag 64 UK.ok65 rfl (by simp only[noRefs,noRef,Qaa,Qax];rfl) rfl ?_
 generalize inBs g.bs t=B at*
 simp(disch:=first|omega|exact PairsOK.mk rfl|(simp only[lenW]<;>omega)) only[UK.s65,wW,wV,simprocAttr]
 refine ch (HSpec.lend (FrzL.cons (FrzTo.same _) (FrzL.cons (FrzTo.fn FrzL.nil (FrzL.cons (FrzTo.ptr gg (FrzL.same _)) FrzL.nil)) FrzL.nil)) hi rfl) ?_
 simp(disch:=first|omega|exact PairsOK.mk rfl|(simp only[lenW]<;>omega)) only[wW,wV,simprocAttr]
 exact⟨.inr trivial,_,rfl,rfl⟩
end Go.AM.SO
namespace Go.AM.SO
open Go.Proofs Go.AM.SD Go.AM.SE
def fwB (b:Bxn):Bool:=decide (b.lo.length<=6)&&decide (b.hi.length<=6)
def fwG (g:Gdn):Bool:=decide (g.bs.length<=4)&&g.bs.all fwB
def fewG (l:List Gdn):Bool:=decide (l.length<=4)&&l.all fwG
theorem QoF {g:Gdn} (h:¬g.bs.length<=4):fwG g=false:=by unfold fwG;simp[h]
theorem Qk3 {g:Gdn} {b:Bxn} {j:Nat} (hb:g.bs[j]?=some b) (h:fwB b=false):fwG g=false:=by
 unfold fwG
 rw[Bool.and_eq_false_iff]
 right
 rw[List.all_eq_false]
 exact⟨b,List.mem_of_getElem? hb,by rw[h];decide⟩
theorem QnP {g:Gdn} (h:g.bs.length<=4) (hb:∀(j:Nat) b,g.bs[j]?=some b->fwB b=true):fwG g=true:=by
 unfold fwG
 rw[Bool.and_eq_true,decide_eq_true_eq,List.all_eq_true]
 refine⟨h,fun b hm=>?_⟩
 obtain⟨i,hi,rfl⟩:=List.getElem_of_mem hm
 exact hb i _ (List.getElem?_eq_getElem hi)
theorem QnQ {l:List Gdn} (h:¬l.length<=4):fewG l=false:=by unfold fewG;simp[h]
theorem Qf0 {l:List Gdn} {g:Gdn} {j:Nat} (hb:l[j]?=some g) (h:fwG g=false):fewG l=false:=by
 unfold fewG
 rw[Bool.and_eq_false_iff]
 right
 rw[List.all_eq_false]
 exact⟨g,List.mem_of_getElem? hb,by rw[h];decide⟩
theorem Qm3 {l:List Gdn} (h:l.length<=4) (hb:∀(j:Nat) g,l[j]?=some g->fwG g=true):fewG l=true:=by
 unfold fewG
 rw[Bool.and_eq_true,decide_eq_true_eq,List.all_eq_true]
 refine⟨h,fun b hm=>?_⟩
 obtain⟨i,hi,rfl⟩:=List.getElem_of_mem hm
 exact hb i _ (List.getElem?_eq_getElem hi)
theorem Qbl {α:Type} {l:List α} {j:Nat} {x:α} (h:l[j]?=some x):j<l.length:=(List.getElem?_eq_some_iff.1 h).1
theorem few33 (l : List Gdn) (h : GdsR l) : PSpec Tryz.prog 33 [gdsV l] (.bool (fewG l)) := by
  refine PSpec.Qag 64 UK.ok33 rfl (by rw[noRefs,QbC];rfl) rfl ?_
  by_cases a1:(4:Int)<(l.length:Int)
  · simp (disch := first | omega | exact PairsOK.mk rfl | (simp only [lenW] <;> omega)) only [UK.s33, a1, wW, wV, simprocAttr]
    exact⟨.inr trivial,_,rfl,by rw[QnQ (by omega)];rfl⟩
  simp(disch:=first|omega|exact PairsOK.mk rfl|(simp only[lenW]<;>omega)) only[UK.s33,a1,wW,wV,simprocAttr]
  refine Qal 100 (fun i:Nat=>[(0,gdsV l),(3,.int .i64 i)]) (fun _=>[]) (fun i=>i<=l.length/\∀(j:Nat) g,j<i->l[j]?=some g->fwG g=true) (fun i=>l.length-i) 0 ⟨[],rfl,au0,au23,au24⟩ ⟨Nat.zero_le _,fun j g hj=>absurd hj (Nat.not_lt_zero _)⟩ ?_
  rintro i ⟨hi,hb⟩
  by_cases hlt:i<l.length
  · obtain ⟨g, hg⟩ := Qad hlt
    have hdr:=Qbc hg
    have hdl:2<=((l.flatMap gdC).drop (i*2)).length:=by rw[hdr];simp
    by_cases a2:(4:Int)<(g.bs.length:Int)
    · simp (disch := first | omega | exact PairsOK.mk rfl | (simp only [lenW] <;> omega)) only [hlt, hdr, hdl, a2, wW, wV, simprocAttr]
      exact⟨.inr trivial,_,rfl,by rw[Qf0 hg (QoF (by omega))];rfl⟩
    simp(disch:=first|omega|exact PairsOK.mk rfl|(simp only[lenW]<;>omega)) only[hlt,hdr,hdl,a2,wW,wV,simprocAttr]
    refine Qal 120 (fun k:Nat=>[(0,gdsV l),(3,.int .i64 i),(4,.int .i64 k)]) (fun _=>[]) (fun k=>k<=g.bs.length/\∀(j:Nat) b,j<k->g.bs[j]?=some b->fwB b=true) (fun k=>g.bs.length-k) 0 ⟨[],rfl,au0,au23,au24⟩ ⟨Nat.zero_le _,fun j b hj=>absurd hj (Nat.not_lt_zero _)⟩ ?_
    rintro k ⟨hk,hc⟩
    by_cases hlk:k<g.bs.length
    · obtain ⟨b, hx⟩ := Qad hlk
      have hdr2:=Qbx hx
      have hdl2:2<=((g.bs.flatMap bxC).drop (k*2)).length:=by rw[hdr2];simp
      by_cases a3:(6:Int)<(b.lo.length:Int)
      · simp (disch := first | omega | exact PairsOK.mk rfl | (simp only [lenW] <;> omega)) only [hlt, hdr, hdl, hlk, hdr2, hdl2, a3, wW, wV, simprocAttr]
        exact⟨.inr trivial,_,rfl,by rw[Qf0 hg (Qk3 hx (by unfold fwB;rw[decide_eq_false (by omega)];rfl))];rfl⟩
      by_cases a4:(6:Int)<(b.hi.length:Int)
      · simp (disch := first | omega | exact PairsOK.mk rfl | (simp only [lenW] <;> omega)) only [hlt, hdr, hdl, hlk, hdr2, hdl2, a3, a4, wW, wV, simprocAttr]
        exact⟨.inr trivial,_,rfl,by rw[Qf0 hg (Qk3 hx (by unfold fwB;rw[decide_eq_false (p:=b.hi.length<=6) (by omega),Bool.and_false]))];rfl⟩
      simp(disch:=first|omega|exact PairsOK.mk rfl|(simp only[lenW]<;>omega)) only[hlt,hdr,hdl,hlk,hdr2,hdl2,a3,a4,wW,wV,simprocAttr]
      refine⟨k+1,by omega,⟨by omega,fun j b' hj hj'=>?_⟩,⟨[],rfl,au0,au23,au24⟩⟩
      by_cases e:j=k
      · subst e; rw [hx] at hj'; cases hj'
        unfold fwB;rw[decide_eq_true (by omega),decide_eq_true (by omega)];rfl
      · exact hc j b' (by omega) hj'
    · simp (disch := first | omega | exact PairsOK.mk rfl | (simp only [lenW] <;> omega)) only [hlt, hdr, hdl, hlk, wW, wV, simprocAttr]
      refine⟨i+1,by omega,⟨by omega,fun j g' hj hj'=>?_⟩,⟨[],rfl,au0,au23,au24⟩⟩
      by_cases e:j=i
      · subst e; rw [hg] at hj'; cases hj'
        exact QnP (by omega) fun j b hb=>hc j b (by have:=Qbl hb;omega) hb
      · exact hb j g' (by omega) hj'
  · simp (disch := first | omega | exact PairsOK.mk rfl | (simp only [lenW] <;> omega)) only [hlt, wW, wV, simprocAttr]
    exact⟨.inr trivial,_,rfl,by rw[Qm3 (by omega) fun j g hg=>hb j g (by have:=Qbl hg;omega) hg];rfl⟩
theorem within39 (v : List (List UInt8 × Int)) (t : List Int) (hv : v.length <= 1000) (ht : t.length <= 9223372036854775807) : PSpec Tryz.prog 39 [vrsV v, sli t] (.bool (wiV v t)) := by
  refine PSpec.Qag 64 UK.ok39 rfl (by rw[noRefs,QbD,noRefs,Qan];rfl) rfl ?_
  by_cases a1:v.length=t.length
  · have a2 : (v.length : Int) = (t.length : Int) := by omega
    simp(disch:=first|omega|exact PairsOK.mk rfl|(simp only[lenW]<;>omega)) only[UK.s39,a2,wW,wV,simprocAttr]
    refine Qal 100 (fun i:Nat=>[(1,sli t),(12,vrsV v),(13,.int .i64 t.length),(14,.int .i64 i)]) (fun _=>[]) (fun i=>i<=v.length/\∀(j:Nat) x y,j<i->v[j]?=some x->t[j]?=some y->0<=y/\y<=x.2) (fun i=>v.length-i) 0 ⟨[],rfl,au0,au23,au24⟩ ⟨Nat.zero_le _,fun j x y hj=>absurd hj (Nat.not_lt_zero _)⟩ ?_
    rintro i ⟨hi,hb⟩
    by_cases hlt:i<v.length
    · obtain ⟨x, hx⟩ := Qad hlt
      have hlt2:i<t.length:=by omega
      obtain⟨y,hy⟩:=Qad hlt2
      have hdr:=Qc8 hx
      have hdl:4<=((v.flatMap vrC).drop (i*4)).length:=by rw[hdr];simp
      by_cases b1:y<0
      · simp (disch := first | omega | exact PairsOK.mk rfl | (simp only [lenW] <;> omega)) only [hlt, hlt2, hdr, hdl, Qae hy, b1, wW, wV, simprocAttr]
        exact⟨.inr trivial,_,rfl,by rw[QhR hx hy (.inl b1)];rfl⟩
      by_cases b2:x.2<y
      · simp (disch := first | omega | exact PairsOK.mk rfl | (simp only [lenW] <;> omega)) only [hlt, hlt2, hdr, hdl, Qae hy, b1, b2, wW, wV, simprocAttr]
        exact⟨.inr trivial,_,rfl,by rw[QhR hx hy (.inr b2)];rfl⟩
      simp(disch:=first|omega|exact PairsOK.mk rfl|(simp only[lenW]<;>omega)) only[hlt,hlt2,hdr,hdl,Qae hy,b1,b2,wW,wV,simprocAttr]
      refine⟨i+1,by omega,⟨by omega,fun j x' y' hj hx' hy'=>?_⟩,⟨[],rfl,au0,au23,au24⟩⟩
      by_cases e:j=i
      · subst e;rw[hx]at hx';rw[hy]at hy';cases hx';cases hy';omega
      · exact hb j x' y' (by omega) hx' hy'
    · have hlt2 : ¬ i < t.length := by omega
      simp(disch:=first|omega|exact PairsOK.mk rfl|(simp only[lenW]<;>omega)) only[hlt,hlt2,wW,wV,simprocAttr]
      exact⟨.inr trivial,_,rfl,by rw[Qns a1 fun j x y hx hy=>hb j x y (by have:=Qbl hx;omega) hx hy];rfl⟩
  · have a2 : ¬ (v.length : Int) = (t.length : Int) := by omega
    simp(disch:=first|omega|exact PairsOK.mk rfl|(simp only[lenW]<;>omega)) only[UK.s39,a2,wW,wV,simprocAttr]
    exact⟨.inr trivial,_,rfl,by rw[Qog a1];rfl⟩
end Go.AM.SO
namespace Go.AM.UL
open Go.Proofs
set_option maxHeartbeats 4000000
noncomputable section
def cf:YA.Cf:={most:= .pure,always:=[71].map fun k=>(k,.heap)}
def s28:SFn:=by
 refine(?f:YA.Yt Tryz.prog cf 28 [[0,1,5],[2,9,10,11,12,8,13,14],[15],[3,6,7,16,17,18],[3,6,7,16,19,20,21,22,23,24]]) ?s ?h
 case h=>exact YA.rr
 exact fun s _=>s
def s38:SFn:=by
 refine(?f:YA.Yt Tryz.prog cf 38 [[0,1,6,7],[3,11,12,13,14,10,15,16],[17],[2,4,8,9,18,19],[6,7,8,9,18,20,21,22],[2,4,23],[2,4,23,24,25,26]]) ?s ?h
 case h=>exact YA.rr
 exact fun s _=>s
theorem ok28:okFn Tryz.prog 28 s28=true:=by kernel_rfl
theorem ok38:okFn Tryz.prog 38 s38=true:=by kernel_rfl
end
end Go.AM.UL
namespace Go.AM.SO
open Go.Proofs Go.AM.SD Go.AM.SE
def g1E (c:Cel) (g:Gdn):Int:=gdsE (ctC c) (vrsL c) [g]
theorem Qm4 {c:Cel} {g:Gdn} (h:g1E c g=0):∀b∈g.bs,BxOk (vrsL c) b:=by
 unfold g1E at h
 rw[Qnr]at h
 exact(QoX h).2.2
def pmE (c:Cel) (g:Gdn) (t:List Int):Int:=if g1E c g=0 then(if wiV (vrsL c) t=true then 0 else 2)else g1E c g
def pmB (c:Cel) (g:Gdn) (t:List Int):Bool:=decide (g1E c g=0)&&(wiV (vrsL c) t&&inBs g.bs t)
theorem wiV_len' {v:List (List UInt8×Int)} {t:List Int} (h:wiV v t=true):v.length=t.length:=by
 unfold wiV at h
 simp only[Bool.and_eq_true,decide_eq_true_eq]at h
 exact h.1
theorem permits38 (c:Cel) (h:WfCel c) (g:Gdn) (hr:GdsR [g]) (t:List Int) (ht:t.length<=9223372036854775807):PSpec Tryz.prog 38 [celV c,gdV g,sli t] (.tup [.bool (pmB c g t),.int .i64 (pmE c g t)]):=by
  have hv:=checked71 c h [g] hr
  have hnr:=Qa6 c
  have hw:=within39 (vrsL c) t (by have:=Qdx h;omega) ht
  refine PSpec.Qag 64 UL.ok38 rfl (by rw[noRefs,SU.QaI];simp only[noRefs,noRef,Qax,Qaa];rfl) rfl ?_
  have hp:=fun(e0:g1E c g=0) (hw:wiV (vrsL c) t=true)=>permits65 g t (hr.bl g (by simp)) (fun b hb=>by
    have:=Qm4 e0 b hb
    have:=wiV_len' hw
    exact⟨by rw[‹BxOk _ _›.1];exact this,by rw[‹BxOk _ _›.2.1];exact this⟩) ht
  change PSpec Tryz.prog 71 [celV c,.fsl [.int .i64 g.ev,bxsV g.bs] 1 2] (ckV (g1E c g) (vrsL c))at hv
  unfold pmE pmB
  generalize vrsL c=v at*
  generalize g1E c g=e at*
  by_cases e0:e=0
  · subst e0
    rw[ckV,ckA_0]at hv
    simp(disch:=first|omega|exact PairsOK.mk rfl|(simp only[lenW]<;>omega)) only[UL.s38,wW,wV,simprocAttr]
    refine ch (HSpec.give2 (g:=0) hv gg (by simp only[noRefs,noRef,Qax];rfl) rfl rfl) ?_
    simp(disch:=first|omega|exact PairsOK.mk rfl|(simp only[lenW]<;>omega)) only[wW,wV,simprocAttr]
    refine cp hw ?_
    cases h1:wiV v t with
    | false =>
      simp(disch:=first|omega|exact PairsOK.mk rfl|(simp only[lenW]<;>omega)) only[wW,wV,simprocAttr]
      exact⟨.inr trivial,_,rfl,rfl⟩
    | true =>
      have hq:=hp rfl h1
      simp(disch:=first|omega|exact PairsOK.mk rfl|(simp only[lenW]<;>omega)) only[wW,wV,simprocAttr]
      refine cp hq ?_
      simp(disch:=first|omega|exact PairsOK.mk rfl|(simp only[lenW]<;>omega)) only[wW,wV,simprocAttr]
      exact⟨.inr trivial,_,rfl,rfl⟩
  · rw [ckV, Qd0 e0] at hv
    simp(disch:=first|omega|exact PairsOK.mk rfl|(simp only[lenW]<;>omega)) only[UL.s38,wW,wV,simprocAttr]
    refine ch (HSpec.give2 (g:=0) hv gg (by simp only[noRefs,noRef,Qax];rfl) rfl rfl) ?_
    simp(disch:=first|omega|exact PairsOK.mk rfl|(simp only[lenW]<;>omega)) only[e0,wW,wV,simprocAttr]
    exact⟨.inr trivial,_,rfl,by simp only[e0,decide_false,Bool.false_and,if_false];rfl⟩
theorem expr28X (c:Cel) (h:WfCel c) (g:Gdn) (hr:GdsR [g]) (e0:g1E c g≠0):PSpec Tryz.prog 28 [celV c,gdV g] (.tup [.agg [.int .i64 0,.int .i64 0,.int .i64 0,.nilsl],.int .i64 (g1E c g)]):=by
 have hv:=checked71 c h [g] hr
 have hnr:=Qa6 c
 refine PSpec.Qag 64 UL.ok28 rfl (by rw[noRefs,SU.QaI];simp only[noRefs,noRef,Qax,Qaa];rfl) rfl ?_
 change PSpec Tryz.prog 71 [celV c,.fsl [.int .i64 g.ev,bxsV g.bs] 1 2] (ckV (g1E c g) (vrsL c))at hv
 generalize vrsL c=v at*
 generalize g1E c g=e at*
 rw[ckV,Qd0 e0]at hv
 simp(disch:=first|omega|exact PairsOK.mk rfl|(simp only[lenW]<;>omega)) only[UL.s28,wW,wV,simprocAttr]
 refine ch (HSpec.give2 (g:=0) hv gg (by simp only[noRefs,noRef,Qax];rfl) rfl rfl) ?_
 simp(disch:=first|omega|exact PairsOK.mk rfl|(simp only[lenW]<;>omega)) only[e0,wW,wV,simprocAttr]
 exact⟨.inr trivial,_,rfl,rfl⟩
theorem loop19X (c:Cel) (h:WfCel c) (l:List Gdn) (hr:GdsR l) (e0:gdsE (ctC c) (vrsL c) l≠0):PSpec Tryz.prog 19 [celV c,gdsV l] (.tup [.agg [.nilsl,.int .i64 0,.nilsl,.nilsl],.nilsl,.int .i64 (gdsE (ctC c) (vrsL c) l)]):=by
 have hv:=check35 c h l hr
 have hnr:=Qa6 c
 refine PSpec.Qag 64 UK.ok19 rfl (by rw[noRefs,SU.QaI,noRefs,QbC];rfl) rfl ?_
 generalize gdsE (ctC c) (vrsL c) l=e at*
 simp(disch:=first|omega|exact PairsOK.mk rfl|(simp only[lenW]<;>omega)) only[UK.s19,wW,wV,simprocAttr]
 refine cp hv ?_
 simp(disch:=first|omega|exact PairsOK.mk rfl|(simp only[lenW]<;>omega)) only[e0,wW,wV,simprocAttr]
 exact⟨.inr trivial,_,rfl,rfl⟩
theorem verify23X (c:Cel) (h:WfCel c) (l:List Gdn) (hr:GdsR l) (e0:gdsE (ctC c) (vrsL c) l≠0):PSpec Tryz.prog 23 [celV c,gdsV l] (.int .i64 (gdsE (ctC c) (vrsL c) l)):=by
 have hv:=check35 c h l hr
 have hnr:=Qa6 c
 refine PSpec.Qag 64 UK.ok23 rfl (by rw[noRefs,SU.QaI,noRefs,QbC];rfl) rfl ?_
 generalize gdsE (ctC c) (vrsL c) l=e at*
 simp(disch:=first|omega|exact PairsOK.mk rfl|(simp only[lenW]<;>omega)) only[UK.s23,wW,wV,simprocAttr]
 refine cp hv ?_
 simp(disch:=first|omega|exact PairsOK.mk rfl|(simp only[lenW]<;>omega)) only[e0,wW,wV,simprocAttr]
 exact⟨.inr trivial,_,rfl,rfl⟩
theorem text31X (c:Cel) (h:WfCel c) (l:List Gdn) (hr:GdsR l) (e0:gdsE (ctC c) (vrsL c) l≠0):PSpec Tryz.prog 31 [celV c,gdsV l] (.tup [.str [],.int .i64 (gdsE (ctC c) (vrsL c) l)]):=by
 have hv:=checked71 c h l hr
 have hnr:=Qa6 c
 refine PSpec.Qag 64 UK.ok31 rfl (by rw[noRefs,SU.QaI,noRefs,QbC];rfl) rfl ?_
 generalize gdsE (ctC c) (vrsL c) l=e at*
 rw[ckV,Qd0 e0]at hv
 simp(disch:=first|omega|exact PairsOK.mk rfl|(simp only[lenW]<;>omega)) only[UK.s31,wW,wV,simprocAttr]
 refine cp hv ?_
 simp(disch:=first|omega|exact PairsOK.mk rfl|(simp only[lenW]<;>omega)) only[e0,wW,wV,simprocAttr]
 exact⟨.inr trivial,_,rfl,rfl⟩
theorem lits32X (c:Cel) (h:WfCel c) (l:List Gdn) (hr:GdsR l) (e0:gdsE (ctC c) (vrsL c) l≠0):PSpec Tryz.prog 32 [celV c,gdsV l] (.tup [.int .i64 0,.int .i64 (gdsE (ctC c) (vrsL c) l)]):=by
 have hv:=checked71 c h l hr
 have hnr:=Qa6 c
 refine PSpec.Qag 64 UK.ok32 rfl (by rw[noRefs,SU.QaI,noRefs,QbC];rfl) rfl ?_
 generalize gdsE (ctC c) (vrsL c) l=e at*
 rw[ckV,Qd0 e0]at hv
 simp(disch:=first|omega|exact PairsOK.mk rfl|(simp only[lenW]<;>omega)) only[UK.s32,wW,wV,simprocAttr]
 refine cp hv ?_
 simp(disch:=first|omega|exact PairsOK.mk rfl|(simp only[lenW]<;>omega)) only[e0,wW,wV,simprocAttr]
 exact⟨.inr trivial,_,rfl,rfl⟩
end Go.AM.SO
namespace Go.AM.SO
open Go.Proofs Go.AM.SD Go.AM.SE
def bxQ (x y:Bxn):Bool:=decide (x.lo=y.lo)&&decide (x.hi=y.hi)
def bxsQ (a b:List Bxn):Bool:=eqL bxQ a b
def gdQ (x y:Gdn):Bool:=decide (x.ev=y.ev)&&bxsQ x.bs y.bs
def gdsQ (a b:List Gdn):Bool:=eqL gdQ a b
theorem QnR (x:Bxn):bxQ x x=true:=by simp[bxQ]
theorem Qm5 (l:List Bxn):bxsQ l l=true:=Qjz fun x _=>QnR x
theorem QnS (x:Gdn):gdQ x x=true:=by simp[gdQ,Qm5]
theorem Qh8 (l:List Gdn):gdsQ l l=true:=Qjz fun x _=>QnS x
def BxS (b:Bxn):Prop:=b.lo.length<=6/\b.hi.length<=6
def GdS (g:Gdn):Prop:=g.bs.length<=4/\∀b∈g.bs,BxS b
theorem few_S {l:List Gdn} (h:fewG l=true):l.length<=4/\∀g∈l,GdS g:=by
 unfold fewG at h
 simp only[Bool.and_eq_true,decide_eq_true_eq,List.all_eq_true]at h
 refine⟨h.1,fun g hg=>?_⟩
 have:=h.2 g hg
 unfold fwG at this
 simp only[Bool.and_eq_true,decide_eq_true_eq,List.all_eq_true]at this
 refine⟨this.1,fun b hb=>?_⟩
 have:=this.2 b hb
 unfold fwB at this
 simpa[BxS]using this
theorem eq82 (x y:Bxn) (hx:BxS x) (hy:BxS y):PSpec Tryz.prog 82 [bxV x,bxV y] (.bool (bxQ x y)):=by
 have h1:=eq41 x.lo y.lo (by have:=hy.1;omega)
 have h2:=eq41 x.hi y.hi (by have:=hy.2;omega)
 refine PSpec.Qag 64 UK.ok82 rfl (by simp only[noRefs,noRef,Qaa];rfl) rfl ?_
 unfold bxQ
 cases hq:decide (x.lo=y.lo)with
 |false=>
  rw[hq]at h1
  simp(disch:=first|omega|exact PairsOK.mk rfl|(simp only[lenW]<;>omega)) only[UK.s82,wW,wV,simprocAttr]
  refine cp h1 ?_
  simp(disch:=first|omega|exact PairsOK.mk rfl|(simp only[lenW]<;>omega)) only[wW,wV,simprocAttr]
  exact⟨.inr trivial,_,rfl,rfl⟩
 |true=>
  rw[hq]at h1
  simp(disch:=first|omega|exact PairsOK.mk rfl|(simp only[lenW]<;>omega)) only[UK.s82,wW,wV,simprocAttr]
  refine cp h1 ?_
  simp(disch:=first|omega|exact PairsOK.mk rfl|(simp only[lenW]<;>omega)) only[wW,wV,simprocAttr]
  refine cp h2 ?_
  simp(disch:=first|omega|exact PairsOK.mk rfl|(simp only[lenW]<;>omega)) only[wW,wV,simprocAttr]
  exact⟨.inr trivial,_,rfl,rfl⟩
theorem eq81 (a b : List Bxn) (ha : a.length <= 4) (hbl : b.length <= 4) (hS : ∀ x ∈ a, BxS x) (hT : ∀ x ∈ b, BxS x) : PSpec Tryz.prog 81 [bxsV a, bxsV b, .fn 82 [] []] (.bool (bxsQ a b)) := by
  have hk:∀x∈a,∀y∈b,PSpec Tryz.prog 82 [bxV x,bxV y] (.bool (bxQ x y)):=fun x hx y hy=>eq82 x y (hS x hx) (hT y hy)
  refine PSpec.Qag 64 UK.ok81 rfl (by simp only[noRefs,noRef,Qax];rfl) rfl ?_
  have hla:=QdW a
  have hlb:=QdW b
  by_cases hab:a.length=b.length
  · simp (disch := first | omega | exact PairsOK.mk rfl | (simp only [lenW] <;> omega)) only [UK.s81, hab, wW, wV, simprocAttr]
    refine Qal 100 (fun i:Nat=>[(1,bxsV b),(2,.fn 82 [] []),(15,bxsV a),(16,.int .i64 b.length),(17,.int .i64 i)]) (fun _=>[]) (fun i=>i<=b.length/\∀(j:Nat) x y,j<i->a[j]?=some x->b[j]?=some y->bxQ x y=true) (fun i=>b.length-i) 0 ⟨[],rfl,au0,au23,au24⟩ ⟨Nat.zero_le _,fun j x y hj=>absurd hj (Nat.not_lt_zero _)⟩ ?_
    rintro i ⟨hi,hb⟩
    by_cases hlt:i<b.length
    · obtain ⟨x, hx⟩ := Qad (l := a) (i := i) (by omega)
      obtain⟨y,hy⟩:=Qad (l:=b) (i:=i) (by omega)
      have hlt2:i<a.length:=by omega
      have hdx:=Qbx hx
      have hdy:=Qbx hy
      have h1:2<=(List.drop (i*2) (List.flatMap bxC a)).length:=by rw[List.length_drop,hla];omega
      have h2:2<=(List.drop (i*2) (List.flatMap bxC b)).length:=by rw[List.length_drop,hlb];omega
      have hq:=hk x (List.mem_of_getElem? hx) y (List.mem_of_getElem? hy)
      cases h0:bxQ x y
      · rw [h0] at hq
        simp(disch:=first|omega|exact PairsOK.mk rfl|(simp only[lenW]<;>omega)) only[hlt,hlt2,hdx,hdy,h1,h2,wW,wV,simprocAttr]
        refine cp hq ?_
        simp(disch:=first|omega|exact PairsOK.mk rfl|(simp only[lenW]<;>omega)) only[wW,wV,simprocAttr]
        refine⟨.inr trivial,_,rfl,?_⟩
        rw[bxsQ,QdE hx hy h0];rfl
      · rw [h0] at hq
        simp(disch:=first|omega|exact PairsOK.mk rfl|(simp only[lenW]<;>omega)) only[hlt,hlt2,hdx,hdy,h1,h2,wW,wV,simprocAttr]
        refine cp hq ?_
        simp(disch:=first|omega|exact PairsOK.mk rfl|(simp only[lenW]<;>omega)) only[wW,wV,simprocAttr]
        refine⟨i+1,by omega,⟨by omega,fun j x' y' hj hx' hy'=>?_⟩,⟨[],rfl,au0,au23,au24⟩⟩
        by_cases e:j=i
        · subst e;rw[hx]at hx';rw[hy]at hy';cases hx';cases hy';exact h0
        · exact hb j x' y' (by omega) hx' hy'
    · have h0 : eqL bxQ a b = true := Qdw hab fun j x y hx hy => hb j x y (by have := Qbl hy; omega) hx hy
      simp(disch:=first|omega|exact PairsOK.mk rfl|(simp only[lenW]<;>omega)) only[hlt,wW,wV,simprocAttr]
      refine⟨.inr trivial,_,rfl,?_⟩
      rw[bxsQ,h0];rfl
  · have h0 : eqL bxQ a b = false := Qe0 hab
    simp(disch:=first|omega|exact PairsOK.mk rfl|(simp only[lenW]<;>omega)) only[UK.s81,hab,wW,wV,simprocAttr]
    refine⟨.inr trivial,_,rfl,?_⟩
    rw[bxsQ,h0];rfl
theorem eq80 (x y:Gdn) (hx:GdS x) (hy:GdS y):PSpec Tryz.prog 80 [gdV x,gdV y] (.bool (gdQ x y)):=by
 have h1:=eq81 x.bs y.bs hx.1 hy.1 hx.2 hy.2
 refine PSpec.Qag 64 UK.ok80 rfl (by simp only[noRefs,noRef,Qax];rfl) rfl ?_
 unfold gdQ
 by_cases hq:x.ev=y.ev
 ·rw [decide_eq_true hq]
  simp(disch:=first|omega|exact PairsOK.mk rfl|(simp only[lenW]<;>omega)) only[UK.s80,hq,wW,wV,simprocAttr]
  refine cp h1 ?_
  simp(disch:=first|omega|exact PairsOK.mk rfl|(simp only[lenW]<;>omega)) only[wW,wV,simprocAttr]
  exact⟨.inr trivial,_,rfl,rfl⟩
 ·rw [decide_eq_false hq]
  simp(disch:=first|omega|exact PairsOK.mk rfl|(simp only[lenW]<;>omega)) only[UK.s80,hq,wW,wV,simprocAttr]
  exact⟨.inr trivial,_,rfl,rfl⟩
theorem eq79 (a b : List Gdn) (ha : a.length <= 4) (hbl : b.length <= 4) (hS : ∀ x ∈ a, GdS x) (hT : ∀ x ∈ b, GdS x) : PSpec Tryz.prog 79 [gdsV a, gdsV b, .fn 80 [] []] (.bool (gdsQ a b)) := by
  have hk:∀x∈a,∀y∈b,PSpec Tryz.prog 80 [gdV x,gdV y] (.bool (gdQ x y)):=fun x hx y hy=>eq80 x y (hS x hx) (hT y hy)
  refine PSpec.Qag 64 UK.ok79 rfl (by simp only[noRefs,noRef,Qba];rfl) rfl ?_
  have hla:=QeP a
  have hlb:=QeP b
  by_cases hab:a.length=b.length
  · simp (disch := first | omega | exact PairsOK.mk rfl | (simp only [lenW] <;> omega)) only [UK.s79, hab, wW, wV, simprocAttr]
    refine Qal 100 (fun i:Nat=>[(1,gdsV b),(2,.fn 80 [] []),(15,gdsV a),(16,.int .i64 b.length),(17,.int .i64 i)]) (fun _=>[]) (fun i=>i<=b.length/\∀(j:Nat) x y,j<i->a[j]?=some x->b[j]?=some y->gdQ x y=true) (fun i=>b.length-i) 0 ⟨[],rfl,au0,au23,au24⟩ ⟨Nat.zero_le _,fun j x y hj=>absurd hj (Nat.not_lt_zero _)⟩ ?_
    rintro i ⟨hi,hb⟩
    by_cases hlt:i<b.length
    · obtain ⟨x, hx⟩ := Qad (l := a) (i := i) (by omega)
      obtain⟨y,hy⟩:=Qad (l:=b) (i:=i) (by omega)
      have hlt2:i<a.length:=by omega
      have hdx:=Qbc hx
      have hdy:=Qbc hy
      have h1:2<=(List.drop (i*2) (List.flatMap gdC a)).length:=by rw[List.length_drop,hla];omega
      have h2:2<=(List.drop (i*2) (List.flatMap gdC b)).length:=by rw[List.length_drop,hlb];omega
      have hq:=hk x (List.mem_of_getElem? hx) y (List.mem_of_getElem? hy)
      cases h0:gdQ x y
      · rw [h0] at hq
        simp(disch:=first|omega|exact PairsOK.mk rfl|(simp only[lenW]<;>omega)) only[hlt,hlt2,hdx,hdy,h1,h2,wW,wV,simprocAttr]
        refine cp hq ?_
        simp(disch:=first|omega|exact PairsOK.mk rfl|(simp only[lenW]<;>omega)) only[wW,wV,simprocAttr]
        refine⟨.inr trivial,_,rfl,?_⟩
        rw[gdsQ,QdE hx hy h0];rfl
      · rw [h0] at hq
        simp(disch:=first|omega|exact PairsOK.mk rfl|(simp only[lenW]<;>omega)) only[hlt,hlt2,hdx,hdy,h1,h2,wW,wV,simprocAttr]
        refine cp hq ?_
        simp(disch:=first|omega|exact PairsOK.mk rfl|(simp only[lenW]<;>omega)) only[wW,wV,simprocAttr]
        refine⟨i+1,by omega,⟨by omega,fun j x' y' hj hx' hy'=>?_⟩,⟨[],rfl,au0,au23,au24⟩⟩
        by_cases e:j=i
        · subst e;rw[hx]at hx';rw[hy]at hy';cases hx';cases hy';exact h0
        · exact hb j x' y' (by omega) hx' hy'
    · have h0 : eqL gdQ a b = true := Qdw hab fun j x y hx hy => hb j x y (by have := Qbl hy; omega) hx hy
      simp(disch:=first|omega|exact PairsOK.mk rfl|(simp only[lenW]<;>omega)) only[hlt,wW,wV,simprocAttr]
      refine⟨.inr trivial,_,rfl,?_⟩
      rw[gdsQ,h0];rfl
  · have h0 : eqL gdQ a b = false := Qe0 hab
    simp(disch:=first|omega|exact PairsOK.mk rfl|(simp only[lenW]<;>omega)) only[UK.s79,hab,wW,wV,simprocAttr]
    refine⟨.inr trivial,_,rfl,?_⟩
    rw[gdsQ,h0];rfl
theorem equal36 (a b:List Gdn) (ha:a.length<=4) (hbl:b.length<=4) (hS:∀x∈a,GdS x) (hT:∀x∈b,GdS x):PSpec Tryz.prog 36 [gdsV a,gdsV b] (.bool (gdsQ a b)):=by
 have h1:=eq79 a b ha hbl hS hT
 refine PSpec.Qag 64 UK.ok36 rfl (by simp only[noRefs,noRef,Qba];rfl) rfl ?_
 simp(disch:=first|omega|exact PairsOK.mk rfl|(simp only[lenW]<;>omega)) only[UK.s36,wW,wV,simprocAttr]
 refine cp h1 ?_
 simp(disch:=first|omega|exact PairsOK.mk rfl|(simp only[lenW]<;>omega)) only[wW,wV,simprocAttr]
 exact⟨.inr trivial,_,rfl,rfl⟩
end Go.AM.SO
namespace Go.AM.SO
open Go.Proofs Go.AM.SD Go.AM.SE
theorem sameBx124 (a b : List Bxn) (ha : a.length <= 4) (hbl : b.length <= 4) (hS : ∀ x ∈ a, BxS x) (hT : ∀ x ∈ b, BxS x) : PSpec Tryz.prog 124 [bxsV a, bxsV b] (.bool (bxsQ a b)) := by
  refine PSpec.Qag 64 UK.ok124 rfl (by simp only[noRefs,noRef,Qax];rfl) rfl ?_
  have hla:=QdW a
  have hlb:=QdW b
  by_cases hab:a.length=b.length
  · simp (disch := first | omega | exact PairsOK.mk rfl | (simp only [lenW] <;> omega)) only [UK.s124, hab, wW, wV, simprocAttr]
    refine Qal 100 (fun i:Nat=>[(0,bxsV a),(1,bxsV b),(5,.int .i64 i)]) (fun _=>[]) (fun i=>i<=b.length/\∀(j:Nat) x y,j<i->a[j]?=some x->b[j]?=some y->bxQ x y=true) (fun i=>b.length-i) 0 ⟨[],rfl,au0,au23,au24⟩ ⟨Nat.zero_le _,fun j x y hj=>absurd hj (Nat.not_lt_zero _)⟩ ?_
    rintro i ⟨hi,hb⟩
    by_cases hlt:i<b.length
    · obtain ⟨x, hx⟩ := Qad (l := a) (i := i) (by omega)
      obtain⟨y,hy⟩:=Qad (l:=b) (i:=i) (by omega)
      have hlt2:i<a.length:=by omega
      have hdx:=Qbx hx
      have hdy:=Qbx hy
      have h1:2<=(List.drop (i*2) (List.flatMap bxC a)).length:=by rw[List.length_drop,hla];omega
      have h2:2<=(List.drop (i*2) (List.flatMap bxC b)).length:=by rw[List.length_drop,hlb];omega
      have hmx:=hS x (List.mem_of_getElem? hx)
      have hmy:=hT y (List.mem_of_getElem? hy)
      have no:bxQ x y=false->bxsQ a b=false:=fun h0=>QdE hx hy h0
      have yes:bxQ x y=true->∀(j:Nat) x' y',j<i+1->a[j]?=some x'->b[j]?=some y'->bxQ x' y'=true:=fun h0 j x' y' hj hx' hy'=>by
        by_cases e:j=i
        · subst e;rw[hx]at hx';rw[hy]at hy';cases hx';cases hy';exact h0
        · exact hb j x' y' (by omega) hx' hy'
      have q1:=sameInts x.lo y.lo (by have:=hmx.1;omega)
      have q2:=sameInts x.hi y.hi (by have:=hmx.2;omega)
      by_cases e1:x.lo=y.lo
      · rw [decide_eq_true e1] at q1
        by_cases e2:x.hi=y.hi
        · rw [decide_eq_true e2] at q2
          simp(disch:=first|omega|exact PairsOK.mk rfl|(simp only[lenW]<;>omega)) only[hlt,hlt2,hdx,hdy,h1,h2,hab,wW,wV,simprocAttr]
          refine cp q1 ?_
          simp(disch:=first|omega|exact PairsOK.mk rfl|(simp only[lenW]<;>omega)) only[hlt,hlt2,hdx,hdy,h1,h2,hab,wW,wV,simprocAttr]
          refine cp q2 ?_
          simp(disch:=first|omega|exact PairsOK.mk rfl|(simp only[lenW]<;>omega)) only[wW,wV,simprocAttr]
          exact⟨i+1,by omega,⟨by omega,yes (by unfold bxQ;rw[decide_eq_true e1,decide_eq_true e2];rfl)⟩,⟨[],rfl,au0,au23,au24⟩⟩
        · rw [decide_eq_false e2] at q2
          simp(disch:=first|omega|exact PairsOK.mk rfl|(simp only[lenW]<;>omega)) only[hlt,hlt2,hdx,hdy,h1,h2,hab,wW,wV,simprocAttr]
          refine cp q1 ?_
          simp(disch:=first|omega|exact PairsOK.mk rfl|(simp only[lenW]<;>omega)) only[hlt,hlt2,hdx,hdy,h1,h2,hab,wW,wV,simprocAttr]
          refine cp q2 ?_
          simp(disch:=first|omega|exact PairsOK.mk rfl|(simp only[lenW]<;>omega)) only[wW,wV,simprocAttr]
          exact⟨.inr trivial,_,rfl,by rw[no (by unfold bxQ;rw[decide_eq_false e2,Bool.and_false])];rfl⟩
      · rw [decide_eq_false e1] at q1
        simp(disch:=first|omega|exact PairsOK.mk rfl|(simp only[lenW]<;>omega)) only[hlt,hlt2,hdx,hdy,h1,h2,hab,wW,wV,simprocAttr]
        refine cp q1 ?_
        simp(disch:=first|omega|exact PairsOK.mk rfl|(simp only[lenW]<;>omega)) only[wW,wV,simprocAttr]
        exact⟨.inr trivial,_,rfl,by rw[no (by unfold bxQ;rw[decide_eq_false e1,Bool.false_and])];rfl⟩
    · have h0 : bxsQ a b = true := Qdw hab fun j x y hx hy => hb j x y (by have := Qbl hy; omega) hx hy
      simp(disch:=first|omega|exact PairsOK.mk rfl|(simp only[lenW]<;>omega)) only[hlt,hab,wW,wV,simprocAttr]
      refine⟨.inr trivial,_,rfl,?_⟩
      rw[h0];rfl
  · have h0 : bxsQ a b = false := Qe0 hab
    simp(disch:=first|omega|exact PairsOK.mk rfl|(simp only[lenW]<;>omega)) only[UK.s124,hab,wW,wV,simprocAttr]
    refine⟨.inr trivial,_,rfl,?_⟩
    rw[h0];rfl
theorem sameBx54 (a b:List Bxn) (ha:a.length<=4) (hbl:b.length<=4) (hS:∀x∈a,BxS x) (hT:∀x∈b,BxS x):PSpec Tryz.prog 54 [bxsV a,bxsV b] (.bool (bxsQ a b)):=by
 have h1:=sameBx124 a b ha hbl hS hT
 refine PSpec.Qag 64 UK.ok54 rfl (by simp only[noRefs,noRef,Qax];rfl) rfl ?_
 simp(disch:=first|omega|exact PairsOK.mk rfl|(simp only[lenW]<;>omega)) only[UK.s54,wW,wV,simprocAttr]
 refine cp h1 ?_
 simp(disch:=first|omega|exact PairsOK.mk rfl|(simp only[lenW]<;>omega)) only[wW,wV,simprocAttr]
 exact⟨.inr trivial,_,rfl,rfl⟩
theorem same16 (a b : List Gdn) (ha : a.length <= 4) (hbl : b.length <= 4) (hS : ∀ x ∈ a, GdS x) (hT : ∀ x ∈ b, GdS x) : PSpec Tryz.prog 16 [gdsV a, gdsV b] (.bool (gdsQ a b)) := by
  refine PSpec.Qag 64 UK.ok16 rfl (by simp only[noRefs,noRef,Qba];rfl) rfl ?_
  have hla:=QeP a
  have hlb:=QeP b
  by_cases hab:a.length=b.length
  · simp (disch := first | omega | exact PairsOK.mk rfl | (simp only [lenW] <;> omega)) only [UK.s16, hab, wW, wV, simprocAttr]
    refine Qal 100 (fun i:Nat=>[(0,gdsV a),(1,gdsV b),(5,.int .i64 i)]) (fun _=>[]) (fun i=>i<=b.length/\∀(j:Nat) x y,j<i->a[j]?=some x->b[j]?=some y->gdQ x y=true) (fun i=>b.length-i) 0 ⟨[],rfl,au0,au23,au24⟩ ⟨Nat.zero_le _,fun j x y hj=>absurd hj (Nat.not_lt_zero _)⟩ ?_
    rintro i ⟨hi,hb⟩
    by_cases hlt:i<b.length
    · obtain ⟨x, hx⟩ := Qad (l := a) (i := i) (by omega)
      obtain⟨y,hy⟩:=Qad (l:=b) (i:=i) (by omega)
      have hlt2:i<a.length:=by omega
      have hdx:=Qbc hx
      have hdy:=Qbc hy
      have h1:2<=(List.drop (i*2) (List.flatMap gdC a)).length:=by rw[List.length_drop,hla];omega
      have h2:2<=(List.drop (i*2) (List.flatMap gdC b)).length:=by rw[List.length_drop,hlb];omega
      have hmx:=hS x (List.mem_of_getElem? hx)
      have hmy:=hT y (List.mem_of_getElem? hy)
      have no:gdQ x y=false->gdsQ a b=false:=fun h0=>QdE hx hy h0
      have yes:gdQ x y=true->∀(j:Nat) x' y',j<i+1->a[j]?=some x'->b[j]?=some y'->gdQ x' y'=true:=fun h0 j x' y' hj hx' hy'=>by
        by_cases e:j=i
        · subst e;rw[hx]at hx';rw[hy]at hy';cases hx';cases hy';exact h0
        · exact hb j x' y' (by omega) hx' hy'
      have q1:=sameBx54 x.bs y.bs hmx.1 hmy.1 hmx.2 hmy.2
      by_cases e1:x.ev=y.ev
      · cases e2 : bxsQ x.bs y.bs with
        | true =>
          rw[e2]at q1
          simp(disch:=first|omega|exact PairsOK.mk rfl|(simp only[lenW]<;>omega)) only[hlt,hlt2,hdx,hdy,h1,h2,hab,e1,wW,wV,simprocAttr]
          refine cp q1 ?_
          simp(disch:=first|omega|exact PairsOK.mk rfl|(simp only[lenW]<;>omega)) only[wW,wV,simprocAttr]
          exact⟨i+1,by omega,⟨by omega,yes (by unfold gdQ;rw[decide_eq_true e1,e2];rfl)⟩,⟨[],rfl,au0,au23,au24⟩⟩
        | false =>
          rw[e2]at q1
          simp(disch:=first|omega|exact PairsOK.mk rfl|(simp only[lenW]<;>omega)) only[hlt,hlt2,hdx,hdy,h1,h2,hab,e1,wW,wV,simprocAttr]
          refine cp q1 ?_
          simp(disch:=first|omega|exact PairsOK.mk rfl|(simp only[lenW]<;>omega)) only[wW,wV,simprocAttr]
          exact⟨.inr trivial,_,rfl,by rw[no (by unfold gdQ;rw[e2,Bool.and_false])];rfl⟩
      · simp (disch := first | omega | exact PairsOK.mk rfl | (simp only [lenW] <;> omega)) only [hlt, hlt2, hdx, hdy, h1, h2, hab, e1, wW, wV, simprocAttr]
        exact⟨.inr trivial,_,rfl,by rw[no (by unfold gdQ;rw[decide_eq_false e1,Bool.false_and])];rfl⟩
    · have h0 : gdsQ a b = true := Qdw hab fun j x y hx hy => hb j x y (by have := Qbl hy; omega) hx hy
      simp(disch:=first|omega|exact PairsOK.mk rfl|(simp only[lenW]<;>omega)) only[hlt,hab,wW,wV,simprocAttr]
      refine⟨.inr trivial,_,rfl,?_⟩
      rw[h0];rfl
  · have h0 : gdsQ a b = false := Qe0 hab
    simp(disch:=first|omega|exact PairsOK.mk rfl|(simp only[lenW]<;>omega)) only[UK.s16,hab,wW,wV,simprocAttr]
    refine⟨.inr trivial,_,rfl,?_⟩
    rw[h0];rfl
end Go.AM.SO
namespace Go.AM.SO
open Go.Proofs Go.AM.SD Go.AM.SE
theorem cloneI86 (l:List Int) (hl:l.length<=1000000):HSpec Tryz.prog 86 [sli l] .e (.sl 83 0 0 l.length 1) (hp [(83,.cells 0 (ints l))]):=by
 cases l with
 |nil=>exact HSpec.empty QhS QhT
 |cons x l=>
  refine HSpec.QdT 100 ok86 rfl ?_
  have hq:aEq (.nil 2) false (sli (x::l)) .nilsl=some (.bool false):=rfl
  have hone:(ints (x::l)).all AV.one=true:=by simp[ints,AV.one]
  generalize x::l=q at*
  simp(disch:=first|omega|exact PairsOK.mk rfl|(simp only[lenW]<;>omega)) only[s86,hq,hone,wW,wV,simprocAttr]
  exact⟨.inr trivial,_,rfl,⟨[(83,.blk 103 1)],rfl,au0,au23,au24⟩⟩
theorem clone86 (l:List Int) (hl:l.length<=1000000):PSpec Tryz.prog 86 [sli l] (sli l):=by
 have h:=(cloneI86 l hl).freeze (b:=83) (g:=0) (ds:=ints l) gg (by
  have:∀m:List Int,flatVs (ints m)=true:=fun m=>by
   induction m with
   |nil=>rfl
   |cons x m ih=>simp only[ints,List.map_cons,flatVs,Bool.and_eq_true];exact⟨rfl,ih⟩
  exact this _) (by simp[ints]) rfl
 have e:(ints l).take (l.length*1)=ints l:=by rw[List.take_of_length_le (by simp[ints])]
 rw[e]at h
 exact⟨by rw[noRefs,Qan];rfl,Qan _,_,h⟩
theorem is85 (g:Gdn) (ev:Int):PSpec Tryz.prog 85 [gdV g,.fptr [.int .i64 ev]] (.bool (decide (g.ev=ev))):=by
 refine PSpec.Qag 64 UK.ok85 rfl (by simp only[noRefs,noRef,Qax];rfl) rfl ?_
 simp(disch:=first|omega|exact PairsOK.mk rfl|(simp only[lenW]<;>omega)) only[UK.s85,wW,wV,simprocAttr]
 exact⟨.inr trivial,_,rfl,rfl⟩
theorem index84 (l:List Gdn) (ev:Int) (hl:l.length<=9223372036854775807) {f:Nat} {g:Gdn} (hf:l[f]?=some g) (he:g.ev=ev) (hb:∀(j:Nat) y,j<f->l[j]?=some y->y.ev≠ev):PSpec Tryz.prog 84 [gdsV l,.fn 85 [] [.fptr [.int .i64 ev]]] (.int .i64 (f:Int)):=by
  refine PSpec.Qag 64 UK.ok84 rfl (by simp only[noRefs,noRef,Qba];rfl) rfl ?_
  have hfl:=Qbl hf
  simp(disch:=first|omega|exact PairsOK.mk rfl|(simp only[lenW]<;>omega)) only[UK.s84,wW,wV,simprocAttr]
  refine Qal 100 (fun i:Nat=>[(0,gdsV l),(1,.fn 85 [] [.fptr [.int .i64 ev]]),(7,.int .i64 l.length),(8,.int .i64 i)]) (fun _=>[]) (fun i=>i<=f) (fun i=>l.length-i) 0 ⟨[],rfl,au0,au23,au24⟩ (Nat.zero_le _) ?_
  rintro i hi
  have hlt:i<l.length:=by omega
  obtain⟨x,hx⟩:=Qad hlt
  have hdr:=Qbc hx
  have hdl:2<=((l.flatMap gdC).drop (i*2)).length:=by rw[hdr];simp
  have hw:=is85 x ev
  by_cases e:i=f
  · subst e
    rw[hf]at hx;cases hx
    rw[decide_eq_true he]at hw
    simp(disch:=first|omega|exact PairsOK.mk rfl|(simp only[lenW]<;>omega)) only[hlt,hdr,hdl,wW,wV,simprocAttr]
    refine cpcP hw ?_
    simp(disch:=first|omega|exact PairsOK.mk rfl|(simp only[lenW]<;>omega)) only[wW,wV,simprocAttr]
    exact⟨.inr trivial,_,rfl,rfl⟩
  · rw [decide_eq_false (hb i x (by omega) hx)] at hw
    simp(disch:=first|omega|exact PairsOK.mk rfl|(simp only[lenW]<;>omega)) only[hlt,hdr,hdl,wW,wV,simprocAttr]
    refine cpcP hw ?_
    simp(disch:=first|omega|exact PairsOK.mk rfl|(simp only[lenW]<;>omega)) only[wW,wV,simprocAttr]
    exact⟨i+1,by omega,by omega,⟨[],rfl,au0,au23,au24⟩⟩
theorem QpA {x:Bxn}:List.flatMap bxC [x]=[sli x.lo,sli x.hi]:=rfl
theorem find37 (l:List Gdn) (ev:Int) (hl:l.length<=1000) {f:Nat} {g:Gdn} (hf:l[f]?=some g) (he:g.ev=ev) (hS:GdS g) (hb:∀(j:Nat) y,j<f->l[j]?=some y->y.ev≠ev):PSpec Tryz.prog 37 [gdsV l,.int .i64 ev] (.tup [gdV g,.bool true]):=by
  subst he
  have hi:=index84 l g.ev (by omega) hf rfl hb
  refine PSpec.of_rn 64 UK.ok37 rfl (by simp only[noRefs,noRef,Qba];rfl) (by simp only[noRefs,noRef,Qax];rfl) ?_
  have hlt:=Qbl hf
  have hdr:=Qbc hf
  have hdl:2<=((l.flatMap gdC).drop (f*2)).length:=by rw[hdr];simp
  have h4:=hS.1
  have hnf:¬(f:Int)<0:=by omega
  simp(disch:=first|omega|exact PairsOK.mk rfl|(simp only[lenW]<;>omega)) only[UK.s37,wW,wV,simprocAttr]
  refine ch (HSpec.lend (FrzL.cons (FrzTo.same _) (FrzL.cons (FrzTo.fn FrzL.nil (FrzL.cons (FrzTo.ptr gg (FrzL.same _)) FrzL.nil)) FrzL.nil)) hi rfl) ?_
  simp(disch:=first|omega|exact PairsOK.mk rfl|(simp only[lenW]<;>omega)) only[hlt,hdr,hdl,hnf,wW,wV,simprocAttr]
  refine Qaw 100 (fun j:Nat=>[(4,.ptr 51 0 0),(7,.ptr 52 0 0),(22,bxsV g.bs),(23,.int .i64 g.bs.length),(24,.int .i64 j)]) (fun j=>[(51,.cells 0 [.int .i64 0,.nilsl]),(52,.cells 0 [.int .i64 g.ev,.sl 76 0 0 j 2]),(76,.cells 0 ((g.bs.take j).flatMap bxC))]) (fun j=>j<=g.bs.length) (fun j=>g.bs.length-j) 0 0 160
    (fun _:Unit=>[(4,.ptr 51 0 0),(7,.ptr 52 0 0)]) (fun _=>[(51,.cells 0 [.int .i64 0,.nilsl]),(52,.cells 0 [.int .i64 g.ev,bxsV g.bs])]) (fun _=>True) ?_ (Nat.zero_le _) ?_ ?_
  · refine ⟨[(51, .blk 65 0), (52, .blk 75 0), (76, .nil)], rfl, au0, ?_, au24⟩
    exact RB.cells rfl rfl gg (RnL.same rfl) (RB.cells rfl rfl gg (RnL.cons (Rn.same rfl) (RnL.cons (Rn.x4 rfl rfl) RnL.nil)) (RB.newnil rfl rfl RB.nil))
  · rintro j hj
    by_cases hlj:j<g.bs.length
    · obtain ⟨b, hx⟩ := Qad hlj
      obtain⟨s1,s2⟩:=hS.2 b (List.mem_of_getElem? hx)
      have c1:=clone86 b.lo (by omega)
      have c2:=clone86 b.hi (by omega)
      have hdx:=Qbx hx
      have hdm:2<=((g.bs.flatMap bxC).drop (j*2)).length:=by rw[hdx];simp
      have htm:((g.bs.take j).flatMap bxC).length=j*2:=by rw[QdW,List.length_take];omega
      simp(disch:=first|omega|exact PairsOK.mk rfl|(simp only[lenW]<;>omega)) only[hlj,hdx,hdm,wW,wV,simprocAttr]
      refine cp c1 ?_
      simp(disch:=first|omega|exact PairsOK.mk rfl|(simp only[lenW]<;>omega)) only[wW,wV,simprocAttr]
      refine cp c2 ?_
      simp(disch:=first|omega|exact PairsOK.mk rfl|(simp only[lenW]<;>omega)) only[htm,wW,wV,simprocAttr]
      refine⟨j+1,by omega,by omega,?_⟩
      rw[take_succ' hx,List.flatMap_append,QpA]
      refine⟨[(51,.blk 51 0),(52,.blk 52 0),(76,.blk 76 1)],rfl,au0,?_,au24⟩
      exact RB.cells rfl rfl gg (RnL.same rfl) (RB.cells rfl rfl gg (RnL.cons (Rn.same rfl) (RnL.cons (Rn.x1 rfl rfl) RnL.nil)) (RB.cells rfl rfl gg (RnL.same (SU.QaV (Qax _) (Qax [b]))) RB.nil))
    · have e : j = g.bs.length := by omega
      subst e
      simp(disch:=first|omega|exact PairsOK.mk rfl|(simp only[lenW]<;>omega)) only[hlj,List.take_length,wW,wV,simprocAttr]
      refine⟨(),?_⟩
      refine⟨[(51,.blk 51 0),(52,.blk 52 0)],rfl,au0,?_,au24⟩
      exact RB.cells rfl rfl gg (RnL.same rfl) (RB.cells rfl rfl gg (RnL.cons (Rn.same rfl) (RnL.cons (Rn.fzm (b:=76) (g:=0) gg rfl rfl rfl (QdW _) (RnL.same (Qax _))) RnL.nil)) RB.nil)
  rintro _ _
  simp(disch:=first|omega|exact PairsOK.mk rfl|(simp only[lenW]<;>omega)) only[wW,wV,simprocAttr]
  exact⟨.inr trivial,_,rfl,Rn.same (by simp only[noRef,noRefs,Qax];rfl)⟩
end Go.AM.SO
