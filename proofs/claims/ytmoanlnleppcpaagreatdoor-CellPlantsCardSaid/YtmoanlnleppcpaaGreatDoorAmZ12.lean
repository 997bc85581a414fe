/- A part of the proof of CellPlantsCardSaid: lemmas on the way (AmCn, AmCv, AmCw, AmCyc, AmCyd, AmCyb, AmCye, AmCyf, AmCyh, AmCyg, AmCyi, AmCyj, AmGb, AmGc, AmGd, AmGk, AmGl, AmCq, AmGe, AmGf, AmCzd, AmCr, AmCze, AmCzc, AmCzf, AmGg). Conditions: none of ours. -/
import Derived.Test.YtmoanlnleppcpaaGreatDoorProg
import Derived.KernelRfl
import Derived.Test.YtmoanlnleppcpaaGreatDoorAmZ11
set_option linter.unusedSectionVars false
set_option maxHeartbeats 32000000
set_option maxRecDepth 100000
set_option linter.unusedVariables false
set_option linter.unusedSimpArgs false
namespace Go.AM.ST
open Go.Proofs Go.AM.SD Go.AM.SE
noncomputable section
def allV (a:Nat):AV:=if a=0 then .nilsl else sliN (bitsL a)
def unionN (b:Nat):Bool:=callR ansB noOrc SK.ft.get (exR ansB noOrc SK.ft.get 1000) (.c .pure) 90 [.nilsl,sliN (bitsL b)] .e 64 (fun u _ _=>isV (allV b) u)
theorem QmQ {b:Nat} (h:unionN b=true):PSpec Tryz.prog 90 [.nilsl,sliN (bitsL b)] (allV b):=
 Qbl (t:=SK.ft) SK.ft_ok QcE (d:=1000) (isV _) QmO h
def rowN (n:Nat):Bool:=@Nat.rec (fun _=>Bool) true (fun b ih=>ifB (unionN b) ih false) n
theorem QnD:rowN 32=true:=by kernel_rfl
theorem QkN:∀{n b:Nat},rowN n=true->b<n->unionN b=true
 |0,_,_,h=>absurd h (Nat.not_lt_zero _)
 | n + 1, b, hr, hb => by
  have e:rowN (n+1)=ifB (unionN n) (rowN n) false:=rfl
  rw[e,Qaq]at hr
  split at hr
  ·rename_i h
   rcases Nat.lt_succ_iff_lt_or_eq.1 hb with h1|rfl
   ·exact QkN hr h1
   ·exact h
  ·cases hr
theorem QmR (b:Nat):SD.part 5 b=bitsL (b % 32):=by
 unfold bitsL SD.part
 apply List.filter_congr
 intro x hx
 have:=List.mem_range.1 hx
 rw[show 32=2^5 from rfl,Nat.testBit_mod_two_pow]
 simp[this]
theorem union90 {a b:Nat} (ha:a<32):PSpec Tryz.prog 90 [allV a,sliN (SD.part 5 b)] (allV (a|||b % 32)):=by
 rw[QmR]
 have hb:b % 32<32:=Nat.mod_lt _ (by decide)
 by_cases h0:a=0
 ·subst h0
  rw[Nat.zero_or]
  exact QmQ (QkN QnD hb)
 ·have h1 : ¬ (a ||| b % 32) = 0 := fun e => h0 (Nat.or_eq_zero_iff.1 e).1
  unfold allV
  rw[if_neg h0,if_neg h1]
  exact Qlt (by omega) ha hb
end
end Go.AM.ST
namespace Go.AM.SU
open Go.Proofs Go.AM.SD Go.AM.SE Go.AM.SO
theorem Qcf (l:List Nat):(u8s l).length=l.length:=by simp[u8s]
theorem graph91 (al:List Nat) (st mk:Nat) (T:List Nat) (hs:al.Pairwise (· < ·)) (h5:∀x∈al,x<5) (hst:st<256) (hmk:mk<256) (hT:T.length=25) (hT8:∀x∈T,x<256):
  PSpec Tryz.prog 91 [sliN al,grV st mk T,.int .i64 3] (aV (mkA al (st % 3) mk T)):=by
 refine PSpec.of_rn 40 ok91 rfl (by(try simp only[noRefs,Qaa,Qaw,noRef,noRefs,Qab,QaO,Bool.and_self,Bool.and_true])<;>rfl) (QcB _) ?_
 have hM:=Make32 al (st % 3) mk T hs h5 (by omega) hmk hT hT8
 have hlu:(u8s T).length=25:=by rw[Qcf,hT]
 have htk:(u8s T).take 25=u8s T:=by rw[<-hlu,List.take_length]
 have htm:(st:Int).tmod 3=((st % 3:Nat):Int):=by rw[Int.tmod_eq_emod_of_nonneg (Int.natCast_nonneg _)];norm_cast
 have hone:(u8s T).all AV.one=true:=by
  have:∀l:List Nat,(u8s l).all AV.one=true:=fun l=>by
   induction l with
   |nil=>rfl
   |cons x l ih=>show(AV.one _&&(u8s l).all AV.one)=true;rw[ih];rfl
  exact this T
 simp(disch:=first|omega|(simp only[lenW]<;>omega)) only[s91,hlu,htk,htm,hone,Bool.not_eq_true,wW,wV,simprocAttr]
 refine cp hM ?_
 generalize mkA al (st % 3) mk T=A at*
 simp(disch:=first|omega|(simp only[lenW]<;>omega)) only[hone,hlu,Bool.not_eq_true,wW,wV,simprocAttr]
 refine⟨.inr trivial,_,rfl,?_⟩
 exact Rn.same (QcB _)
theorem Qel {i:Nat} (hi:i<10):aConvS (.int .i32 (48+(i:Int)))=some (.str [UInt8.ofNat (48+i)]):=by
 have:i=0\/i=1\/i=2\/i=3\/i=4\/i=5\/i=6\/i=7\/i=8\/i=9:=by omega
 rcases this with rfl|rfl|rfl|rfl|rfl|rfl|rfl|rfl|rfl|rfl<;>rfl
theorem _root_.Go.AM.au14 {p:Prop} (h:p:=by repeat' (first|exact RB.nil|(refine RnL.same ?_;first|rfl|(simp only[noRef,noRefs,Qai,Bool.and_self,Bool.and_true,Bool.true_and,Qaa,Qaw,Qay,Qab,QaO];done))|exact RnM.keyM rfl|exact RnL.nil|exact(True.intro:RnM _ _ _ [] [])|refine RnL.cons ?_ ?_|(refine Rn.same ?_;first|rfl|(simp only[noRef,noRefs,Qai,Bool.and_self,Bool.and_true,Bool.true_and,Qaa,Qaw,Qay,Qab,QaO];done))|exact Rn.x1 rfl rfl|exact Rn.x2 rfl rfl|exact Rn.x3 rfl rfl|exact Rn.x4 rfl rfl|exact Rn.x5 rfl|exact Rn.x6 rfl|exact Rn.x7 rfl|refine RB.newnil rfl rfl ?_|refine RB.cells rfl rfl rfl ?_ ?_|refine RB.map rfl rfl rfl ?_ ?_|refine RB.cellsB rfl rfl ?_ ?_|refine RB.mapB rfl rfl ?_ ?_)):p:=h
theorem _root_.Go.AM.au15 {p:Prop} (h:p:=by repeat (first|exact RT.nil|(refine RT.cons ?_ ?_; · (first|exact Rn.any|exact Rn.x1 rfl rfl|exact Rn.x2 rfl rfl|exact Rn.x3 rfl rfl|exact Rn.x4 rfl rfl|exact Rn.x5 rfl|exact Rn.x6 rfl|exact Rn.x7 rfl|(refine Rn.slot ?_ ?_;(first|rfl|(rw[Int.natCast_add];rfl));(first|rfl|(simp only[noRef,noRefs,Qai,Bool.and_self,Bool.and_true,Bool.true_and,Qaa,Qaw,Qay,Qab,QaO];done)))|(refine Rn.fn ?_ ?_<;>(repeat' (first|exact RnL.nil|refine RnL.cons ?_ ?_|exact Rn.same rfl|exact Rn.x6 rfl|exact Rn.x2 rfl rfl|exact Rn.x5 rfl|exact Rn.x1 rfl rfl))))))):p:=h
theorem events89 (s:Nat) (hs:s<256):HSpec Tryz.prog 89 [.int .u8 s] .e (.sl 98 0 0 (SD.part 5 s).length 1) (hp [(98,.cells 0 (ints (nz (SD.part 5 s))))]):=by
  refine HSpec.Qgs 64 ok89 rfl ?_
  simp(disch:=first|omega|(simp only[lenW]<;>omega)) only[s89,Bool.not_eq_true,wW,wV,simprocAttr]
  refine QaJ 100 (fun i:Nat=>[(0,.int .u8 s),(3,.sl 50 0 0 (SD.part i s).length 1),(4,.int .i64 i)]) (fun i=>[(50,.cells 0 (ints (nz (SD.part i s))))]) (fun i=>i<=5) (fun i=>5-i) 0 ⟨[(50,.nil)],rfl,au0,au14,au15⟩ (Nat.zero_le _) ?_
  rintro i hi
  have hpl:=@QcC i s
  by_cases hlt:i<5
  · have hlt2 : (i : Int) < 5 := by omega
    by_cases h0:s.testBit i=true
    · have hb := Qc5.2 h0
      have hp:=QcQ (n:=5) (b:=s) (i:=i)
      rw[if_pos h0]at hp
      simp(disch:=first|omega|(simp only[lenW]<;>omega)) only[hlt2,Qcb (k:= .u8) (show i<=8 by omega),Qcc,hb,Bool.not_eq_true,wW,wV,simprocAttr]
      refine⟨i+1,by omega,by omega,?_⟩
      rw[hp,QaL,QaD,List.length_append]
      exact⟨[(50,.blk 50 1)],rfl,au0,au14,au15⟩
    · have hb : ¬ ((s / 2 ^ i % 2 : Nat) : Int) = 1 := fun e => h0 (Qc5.1 e)
      have hp:=QcQ (n:=5) (b:=s) (i:=i)
      rw[if_neg h0,List.append_nil]at hp
      simp(disch:=first|omega|(simp only[lenW]<;>omega)) only[hlt2,Qcb (k:= .u8) (show i<=8 by omega),Qcc,hb,Bool.not_eq_true,wW,wV,simprocAttr]
      refine⟨i+1,by omega,by omega,?_⟩
      rw[hp]
      exact⟨[(50,.blk 50 0)],rfl,au0,au14,au15⟩
  · have hlt2 : ¬ (i : Int) < 5 := by omega
    have e:i=5:=by omega
    subst e
    simp(disch:=first|omega|(simp only[lenW]<;>omega)) only[hlt2,Bool.not_eq_true,wW,wV,simprocAttr]
    refine⟨.inr trivial,_,rfl,?_⟩
    exact⟨[(98,.blk 50 0)],rfl,au0,au14,au15⟩
theorem del40F {A l:List Nat} {h:Heap} (hA:A.length<=1000000) (hl:l.length<=1000000) (h75:h.get 75=some (.cells 0 [sliN A])) (h98:h.get 98=some (.cells 0 (ints (nz l)))):
  HSpec Tryz.prog 40 [.sl 98 0 0 l.length 1,.fn 92 [] [.ptr 75 0 0]] h (sliN (fltN A l)) ((h.set 98 (.cells 0 (ints (nz (delL A l))))).set 98 (.dead 0)):=by
 have h1:=HSpec.frameB (del40 A l hA hl) (OnlyD.cons (OnlyD.sl (.inr rfl)) (OnlyD.cons (OnlyD.fn OnlyD.nil (OnlyD.cons (OnlyD.ptr (.inl rfl)) OnlyD.nil)) OnlyD.nil)) (OnlyD.sl (.inr rfl))
  (by simp only[noRefs,noRef,Qaa];rfl) (Qaa _) (Qaa _) h75 h98 (by decide) rfl rfl
 have hle:(fltN A l).length*1<=(ints (nz (delL A l))).length:=by simp[ints,delL]
 have h2:=HSpec.freeze (ds:=ints (nz (delL A l))) h1 (by rw[QaT (by decide)]) (Qmo _) hle rfl
 have e:(ints (nz (delL A l))).take ((fltN A l).length*1)=ints (nz (fltN A l)):=by
  rw[Nat.mul_one]
  unfold delL
  rw[QaL,QaD,List.take_append_of_le_length (by simp[ints]),List.take_of_length_le (by simp[ints])]
 rw[e]at h2
 exact h2
theorem Qon (l:List (Nat×Int)):flatVs (l.flatMap teC)=true:=by
 induction l with
 |nil=>rfl
 |cons x l ih=>rw[List.flatMap_cons];exact ih
theorem del93F {l:List (Nat×Int)} {h:Heap} (hl:l.length<=1000000) (h97:h.get 97=some (.cells 0 (l.flatMap teC))):
  HSpec Tryz.prog 93 [.sl 97 0 0 l.length 2,.fn 94 [] []] h (tes (flt0 l)) ((h.set 97 (.cells 0 ((delT l).flatMap teC))).set 97 (.dead 0)):=by
 have h1:=HSpec.frameA (del93 l hl) (OnlyD.cons (OnlyD.sl rfl) (OnlyD.cons (OnlyD.same rfl) OnlyD.nil)) (OnlyD.sl rfl) (QaO _) (QaO _) h97 rfl
 have hle:(flt0 l).length*2<=((delT l).flatMap teC).length:=by rw[QcR];simp[delT];omega
 have h2:=HSpec.freeze (ds:=(delT l).flatMap teC) h1 (by rw[QaT (by decide)]) (Qon _) hle rfl
 have e:((delT l).flatMap teC).take ((flt0 l).length*2)=(flt0 l).flatMap teC:=by
  rw[QgZ]
  unfold delT
  rw[List.take_left]
 rw[e]at h2
 exact h2
end Go.AM.SU
namespace Go.AM.SU
open Go.Proofs Go.AM.SD Go.AM.SE Go.AM.SO
theorem QkO:∀l:List Nat,(u8s l).all AV.one=true
 |[]=>rfl
 |x::l=>by show(AV.one _&&(u8s l).all AV.one)=true;rw[QkO l];rfl
section
variable {p:Pln}
theorem QmS {l:List Nat} {k:Nat} (h:k<l.length):(u8s l)[k]?=some (.int .u8 ((l.getD k 0:Nat):Int)):=by
 refine Qgu ?_
 rw[List.getElem?_eq_getElem h,List.getD_eq_getElem?_getD,List.getElem?_eq_getElem h];rfl
theorem Qg0 (h:POk p):(plnC p).length=152:=by
 show(u8s p.L++_).length=152
 rw[List.length_append,Qcf,h.L];rfl
theorem Qpl (h:POk p) {k:Nat} (hk:k<147):(plnC p)[k]?=some (.int .u8 ((p.L.getD k 0:Nat):Int)):=by
 show(u8s p.L++_)[k]?=_
 rw[List.getElem?_append_left (by rw[Qcf,h.L];exact hk),QmS (by rw[h.L];exact hk)]
theorem QdV (h:POk p) {k:Nat}:(plnC p)[147+k]?=([.fsl (u8s p.X) p.xn 4,.int .i8 p.f0,.int .i8 p.f1,.int .i8 p.f2,.int .i8 p.bd]:List AV)[k]?:=by
 show(u8s p.L++_)[147+k]?=_
 rw[List.getElem?_append_right (by rw[Qcf,h.L];omega),Qcf,h.L]
 congr 1;omega
theorem Qjv (h:POk p) {k m:Nat} (hk:k+m<=147):((plnC p).drop k).take m=u8s ((p.L.drop k).take m):=by
 show((u8s p.L++_).drop k).take m=_
 rw[List.drop_append_of_le_length (by rw[Qcf,h.L];omega),List.take_append_of_le_length (by rw[List.length_drop,Qcf,h.L];omega)]
 simp[u8s,List.map_drop,List.map_take]
theorem Qpm (h:POk p) {k:Nat} (hk:k+27<=147):((plnC p).drop k).take 27= .int .u8 ((p.L.getD k 0:Nat):Int):: .int .u8 ((p.L.getD (k+1) 0:Nat):Int)::u8s ((p.L.drop (k+2)).take 25):=by
 have hl:=h.L
 rw[Qjv h hk]
 have e:(p.L.drop k).take 27=p.L.getD k 0::p.L.getD (k+1) 0::(p.L.drop (k+2)).take 25:=by
  rw[List.getD_eq_getElem?_getD,List.getD_eq_getElem?_getD,List.getElem?_eq_getElem (show k<p.L.length by omega),List.getElem?_eq_getElem (show k+1<p.L.length by omega)]
  rw[List.drop_eq_getElem_cons (show k<p.L.length by omega),List.take_succ_cons,List.drop_eq_getElem_cons (show k+1<p.L.length by omega),List.take_succ_cons];rfl
 rw[e];rfl
theorem L_lt (h:POk p) (k:Nat):p.L.getD k 0<256:=by
 rw[List.getD_eq_getElem?_getD]
 cases e:p.L[k]? with
 |none=>decide
 |some x=>exact h.L8 x (List.mem_of_getElem? e)
theorem X_lt (h:POk p) (k:Nat):p.X.getD k 0<256:=by
 rw[List.getD_eq_getElem?_getD]
 cases e:p.X[k]? with
 |none=>decide
 |some x=>exact h.X8 x (List.mem_of_getElem? e)
theorem pF_lt (h:POk p) (i:Nat): -128<=pF p i/\pF p i<128:=by
 unfold pF
 split
 ·exact h.f0
 ·split
  ·exact h.f1
  ·exact h.f2
theorem Qg1 (h:POk p):(plnC p).all AV.one=true:=by
 show(u8s p.L++_).all AV.one=true
 rw[List.all_append,QkO];rfl
theorem QcX:noRefs (plnC p)=true:=by
 show noRefs (u8s p.L++_)=true
 rw[Qai,Qaw]
 simp only[noRefs,noRef,Qaw];rfl
theorem Qoo (F:List Nat):AV.fsl (evP F 5) 5 5=evsV (fun i=>evOf (F.getD i 0)):=by
 congr 1
theorem QmT (e:Nat->Evt):noRef (evsV e)=true:=rfl
theorem QbR {ch:UInt8} (l:List (Nat×Aut)):noRefs (l.flatMap (itC ch))=true:=QaW (fun x=>by simp only[itC,noRefs,noRef,Qaa,Qag];rfl) l
theorem Qap {ch:UInt8} (l:List (Nat×Aut)):noRef (its ch l)=true:=by simp only[noRef];exact QbR l
theorem Qop {p:Pln} {i:Nat}:fltN (ST.bitsL (pAll p (pN p))) (SD.part 5 (p.L.getD (91+i) 0))=pW p i:=by
 unfold fltN pW
 apply List.filter_congr
 intro x hx
 have:=partLt x hx
 show decide (x∈(List.range 5).filter _)=_
 simp[this]
theorem Qbx (l:List (Nat×Nat)):noRefs (l.flatMap loC)=true:=QaW (fun _=>rfl) l
theorem QdA (l:List (Nat×Nat)):noRef (los l)=true:=by simp only[noRef];exact Qbx l
theorem QgB (l:List (Nat×Nat)):(l.flatMap loC).length=l.length*2:=Qbr (k:=2) (fun _=>rfl) l
theorem Qa8 (l:List (Nat×List (Nat×Nat))):noRefs (l.flatMap exC)=true:=QaW (fun x=>by simp only[exC,noRefs,noRef,Qbx];rfl) l
theorem Qa1 (l:List (Nat×List (Nat×Nat))):noRef (exs l)=true:=by simp only[noRef];exact Qa8 l
theorem QdW (l:List (Nat×List (Nat×Nat))):(l.flatMap exC).length=l.length*2:=Qbr (k:=2) (fun _=>rfl) l
theorem QcS (l:List (Nat×Int)):noRef (tes l)=true:=by simp only[noRef];exact QaO l
theorem QdB (l:List (List (Nat×Int)×Int)):noRefs (l.flatMap coC)=true:=QaW (fun x=>by simp only[coC,noRefs,noRef,QaO];rfl) l
theorem QcT (l:List (List (Nat×Int)×Int)):noRef (cos l)=true:=by simp only[noRef];exact QdB l
theorem QcF {ch:UInt8} {l:List (Nat×Aut)} {i:Nat} {x:Nat×Aut} (h:l[i]?=some x):(l.flatMap (itC ch)).drop (i*5)= .str [ch,UInt8.ofNat (48+x.1)]::sliN x.2.al:: .int .i64 (x.2.n:Int)::sliN x.2.ms::egsN x.2.es::(l.drop (i+1)).flatMap (itC ch):=Qbm (f:=itC ch) (k:=5) (fun _=>rfl) h
theorem Qoq {X:List Nat} {i:Nat} (h:i*4+4<=X.length):((u8s X).drop (i*4)).take 4=[.int .u8 ((X.getD (i*4) 0:Nat):Int),.int .u8 ((X.getD (i*4+1) 0:Nat):Int),.int .u8 ((X.getD (i*4+2) 0:Nat):Int),.int .u8 ((X.getD (i*4+3) 0:Nat):Int)]:=by
  have g:∀k,k<4->X.getD (i*4+k) 0=X[i*4+k]!:=fun k hk=>by
    rw[List.getD_eq_getElem?_getD,List.getElem!_eq_getElem?_getD];rfl
  apply List.ext_getElem?
  intro j
  by_cases hj:j<4
  · rw [List.getElem?_take_of_lt hj, List.getElem?_drop, QmS (by omega)]
    have:j=0\/j=1\/j=2\/j=3:=by omega
    rcases this with rfl|rfl|rfl|rfl<;>rfl
  · rw[List.getElem?_eq_none (by rw[List.length_take];omega),List.getElem?_eq_none (by simp;omega)]
theorem Qby (c:Cel):noRef (celV c)=true:=by
 rw[celV,noRef,noRefs,noRefs,noRefs,noRefs,noRefs,QmT,Qap,Qap,Qa1,QcT];rfl
theorem QcY {s:List UInt8} {a:Aut}:noRefs [.str s,sliN a.al,.int .i64 (a.n:Int),sliN a.ms,egsN a.es]=true:=by simp only[noRefs,noRef,Qaa,Qag];rfl
theorem QaH {x y:List AV} (hx:noRefs x=true) (hy:noRefs y=true):noRefs (x++y)=true:=by rw[Qai,hx,hy];rfl
theorem QmU {ch:UInt8} {i:Nat} {a:Aut}:List.flatMap (itC ch) [(i,a)]=[.str [ch,UInt8.ofNat (48+i)],sliN a.al,.int .i64 (a.n:Int),sliN a.ms,egsN a.es]:=rfl
theorem Qcr {ch:UInt8} (l:List (Nat×Aut)):(l.flatMap (itC ch)).length=l.length*5:=Qbr (k:=5) (fun _=>rfl) l
theorem QnE {i:Nat}:pCs p (i+1)=pCs p i++[(i,pA p i)]:=by
 unfold pCs;rw[List.range_succ,List.map_append];rfl
theorem QnF {i:Nat}:pRs p (i+1)=pRs p i++[(i,pR p i)]:=by
 unfold pRs;rw[List.range_succ,List.map_append];rfl
theorem Qg2 {i:Nat}:(pCs p i).length=i:=by simp[pCs]
theorem QkP {i:Nat}:(pRs p i).length=i:=by simp[pRs]
theorem QkQ:∀{i:Nat},pAll p i<32
 |0=>by show 0<32;decide
 |i+1=>Nat.or_lt_two_pow (n:=5) QkQ (Nat.mod_lt _ (by decide))
end
theorem Qlu (a:Nat):(ST.allV a).cells=[ST.allV a]:=by unfold ST.allV;split<;>rfl
theorem QnG (a:Nat):(ST.allV a).one=true:=by unfold ST.allV;split<;>rfl
theorem Qj0 (a:Nat):noRefs [ST.allV a]=true:=by
 unfold ST.allV
 split
 ·rfl
 ·simp only[noRefs,noRef,Qaa];rfl
theorem Make26 (p : Pln) (h : POk p) : PSpec Tryz.prog 26 [plnV p] (celV (mkC p)) := by
  refine PSpec.of_rn 40 ok26 rfl (by simp only[noRefs,noRef,QcX];rfl) (Qby _) ?_
  have hlen:=Qg0 h
  have hone:=Qg1 h
  have hnr:=@QcX p
  have h5:(plnC p).take 5=u8s (p.L.take 5):=by simpa using Qjv h (k:=0) (m:=5) (by omega)
  have hev:=events88 (p.L.take 5) (by rw[List.length_take,h.L];rfl) (fun i=>by
    rw[List.getD_eq_getElem?_getD]
    cases e:(p.L.take 5)[i]? with
    |none=>decide
    |some x=>exact h.L8 x (List.mem_of_mem_take (List.mem_of_getElem? e)))
  rw[Qoo]at hev
  have hat:∀{k},k<147->(plnC p)[k]?=some (.int .u8 ((p.L.getD k 0:Nat):Int)):=fun hk=>Qpl h hk
  have a5:=hat (k:=5) (by omega)
  have a90:=hat (k:=90) (by omega)
  have a147:(plnC p)[147]?=some (.fsl (u8s p.X) p.xn 4):=QdV h (k:=0)
  have aF:∀i,i<3->(plnC p)[148+i]?=some (.int .i8 (pF p i)):=by
    intro i hi
    have:i=0\/i=1\/i=2:=by omega
    rcases this with rfl|rfl|rfl
    · exact QdV h (k:=1)
    · exact QdV h (k:=2)
    · exact QdV h (k:=3)
  have a151:(plnC p)[151]?=some (.int .i8 p.bd):=QdV h (k:=4)
  have hgr:∀{k},k+27<=147->((plnC p).drop k).take 27=_:=fun hk=>Qpm h hk
  show wS _ _ _ _ _ (argT 0 [.agg (plnC p)]) _ _
  generalize plnC p=C at*
  have htm:((p.L.getD 5 0:Nat):Int).tmod 3=((p.L.getD 5 0 % 3:Nat):Int):=by rw[Int.tmod_eq_emod_of_nonneg (Int.natCast_nonneg _)];norm_cast
  have hn:(1:Int)+((p.L.getD 5 0 % 3:Nat):Int)=(pN p:Int):=by unfold pN;omega
  have hn3:=@pN_le p
  simp(disch:=first|omega|(simp only[lenW]<;>omega)) only[s26,hlen,hone,h5,Bool.not_eq_true,wW,wV,simprocAttr]
  refine cp hev ?_
  simp(disch:=first|omega|(simp only[lenW]<;>omega)) only[a5,htm,hn,Bool.not_eq_true,wW,wV,simprocAttr]
  refine Qar 100 (fun i:Nat=>[(1,.ptr 50 0 0),(2,.ptr 51 0 0),(3,.ptr 52 0 0),(4,.ptr 75 0 0),(5,.int .i64 (pN p:Int)),(26,.int .i64 (pN p:Int)),(27,.int .i64 i)])
    (fun i=>[(50,.cells 0 C),(51,.cells 0 [.nilsl,.nilsl,.nilsl,.nilsl,.nilsl]),(52,.cells 0 [evsV (fun i=>evOf ((p.L.take 5).getD i 0)),.sl 76 0 0 (pCs p i).length 5,.nilsl,.nilsl,.nilsl]),(75,.cells 0 [ST.allV (pAll p i)]),(76,.cells 0 ((pCs p i).flatMap (itC 99)))])
    (fun i=>i<=pN p) (fun i=>pN p-i) 0 0 200
    (fun _:Unit=>[(1,.ptr 50 0 0),(2,.ptr 51 0 0),(3,.ptr 52 0 0),(4,.ptr 75 0 0),(5,.int .i64 (pN p:Int))])
    (fun _=>[(50,.cells 0 C),(51,.cells 0 [.nilsl,.nilsl,.nilsl,.nilsl,.nilsl]),(52,.cells 0 [evsV (fun i=>evOf ((p.L.take 5).getD i 0)),its 99 (pCs p (pN p)),.nilsl,.nilsl,.nilsl]),(75,.cells 0 [sliN (ST.bitsL (pAll p (pN p)))])]) (fun _=>True) ?_ (Nat.zero_le _) ?_ ?_
  · refine ⟨[(50, .blk 40 0), (51, .blk 41 0), (52, .blk 46 0), (75, .blk 48 0), (76, .nil)], rfl, au0, ?_, au15⟩
    exact RB.cells rfl rfl gg (RnL.same hnr) (RB.cells rfl rfl gg (RnL.same rfl) (RB.cells rfl rfl gg (RnL.cons (Rn.same rfl) (RnL.cons (Rn.x4 rfl rfl) (RnL.same rfl))) (RB.cells rfl rfl gg (RnL.same rfl) (RB.newnil rfl rfl RB.nil))))
  · rintro i hi
    by_cases hlt:i<pN p
    · have hi3 : (i : Int) < 3 := by omega
      have a6:=hat (k:=6+i) (by omega)
      have hE:=events16 (p.L.getD (6+i) 0) (L_lt h _)
      have hU:=ST.union90 (a:=pAll p i) (b:=p.L.getD (6+i) 0) QkQ
      have hg:=hgr (k:=9+i*27) (by omega)
      have hG:=graph91 (SD.part 5 (p.L.getD (6+i) 0)) (p.L.getD (9+i*27) 0) (p.L.getD (9+i*27+1) 0) ((p.L.drop (9+i*27+2)).take 25) (QcK _ _) partLt (L_lt h _) (L_lt h _) (by rw[List.length_take,List.length_drop,h.L];omega) (fun x hx=>h.L8 x (List.mem_of_mem_drop (List.mem_of_mem_take hx)))
      have hA:mkA (SD.part 5 (p.L.getD (6+i) 0)) (p.L.getD (9+i*27) 0 % 3) (p.L.getD (9+i*27+1) 0) ((p.L.drop (9+i*27+2)).take 25)=pA p i:=rfl
      rw[hA]at hG
      have hB:pAll p i|||p.L.getD (6+i) 0 % 32=pAll p (i+1):=rfl
      rw[hB]at hU
      have hsuc:=@QnE p i
      have hil:=@Qcr 99 (pCs p i)
      have hpl:=@Qg2 p i
      simp(disch:=first|omega|(simp only[lenW]<;>omega)) only[hlt,hi3,a6,hlen,Bool.not_eq_true,wW,wV,simprocAttr]
      refine cp hE ?_
      simp(disch:=first|omega|(simp only[lenW]<;>omega)) only[Bool.not_eq_true,wW,wV,simprocAttr]
      refine cp hU ?_
      have hs:=Qel (i:=i) (by omega)
      have hg27:9+i*27+27<=152:=by omega
      simp(disch:=first|omega|(simp only[lenW]<;>omega)) only[hlt,hi3,hlen,hs,Qdh,Qlu,QnG,hg27,hg,Bool.not_eq_true,wW,wV,simprocAttr]
      refine cp hG ?_
      simp(disch:=first|omega|(simp only[lenW]<;>omega)) only[hil,hpl,Bool.not_eq_true,wW,wV,simprocAttr]
      refine⟨i+1,by omega,by omega,?_⟩
      rw[hsuc,List.flatMap_append,List.length_append,hpl,QmU]
      refine⟨[(50,.blk 50 0),(51,.blk 51 0),(52,.blk 52 0),(75,.blk 75 0),(76,.blk 76 1)],rfl,au0,?_,au15⟩
      exact RB.cells rfl rfl gg (RnL.same hnr) (RB.cells rfl rfl gg (RnL.same rfl) (RB.cells rfl rfl gg (RnL.cons (Rn.same rfl) (RnL.cons (Rn.x1 rfl rfl) (RnL.same rfl))) (RB.cells rfl rfl gg (RnL.same (Qj0 _)) (RB.cells rfl rfl gg (RnL.same (QaH (QbR _) QcY)) RB.nil))))
    · have e : i = pN p := by omega
      subst e
      have hil:=@Qcr 99 (pCs p (pN p))
      have hpl:=@Qg2 p (pN p)
      simp(disch:=first|omega|(simp only[lenW]<;>omega)) only[hlt,Bool.not_eq_true,wW,wV,simprocAttr]
      refine⟨(),?_⟩
      refine⟨[(50,.blk 50 0),(51,.blk 51 0),(52,.blk 52 0),(75,.blk 75 0)],rfl,au0,?_,au15⟩
      refine RB.cells rfl rfl gg (RnL.same hnr) (RB.cells rfl rfl gg (RnL.same rfl) (RB.cells rfl rfl gg (RnL.cons (Rn.same rfl) (RnL.cons (Rn.fzm rfl rfl rfl rfl (Qcr _) (RnL.same (QbR _))) (RnL.same rfl))) (RB.cells rfl rfl gg (RnL.cons ?_ RnL.nil) RB.nil)))
      unfold ST.allV
      split
      · rename_i h0;rw[h0];exact Rn.nilK
      · exact Rn.same (Qab _)
  rintro _ _
  have htm90:((p.L.getD 90 0:Nat):Int).tmod 3=(pM p:Int):=by rw[Int.tmod_eq_emod_of_nonneg (Int.natCast_nonneg _)];unfold pM;norm_cast
  have hm2:=@pM_le p
  simp(disch:=first|omega|(simp only[lenW]<;>omega)) only[a90,htm90,Bool.not_eq_true,wW,wV,simprocAttr]
  refine Qar 100 (fun i:Nat=>[(1,.ptr 50 0 0),(2,.ptr 51 0 0),(3,.ptr 52 0 0),(4,.ptr 75 0 0),(5,.int .i64 (pN p:Int)),(59,.int .i64 (pM p:Int)),(60,.int .i64 i)])
    (fun i=>[(50,.cells 0 C),(51,.cells 0 [.nilsl,.nilsl,.nilsl,.nilsl,.nilsl]),(52,.cells 0 [evsV (fun i=>evOf ((p.L.take 5).getD i 0)),its 99 (pCs p (pN p)),.sl 77 0 0 (pRs p i).length 5,.nilsl,.nilsl]),(75,.cells 0 [sliN (ST.bitsL (pAll p (pN p)))]),(77,.cells 0 ((pRs p i).flatMap (itC 114)))])
    (fun i=>i<=pM p) (fun i=>pM p-i) 0 2 200
    (fun _:Unit=>[(1,.ptr 50 0 0),(2,.ptr 51 0 0),(3,.ptr 52 0 0),(5,.int .i64 (pN p:Int))])
    (fun _=>[(50,.cells 0 C),(51,.cells 0 [.nilsl,.nilsl,.nilsl,.nilsl,.nilsl]),(52,.cells 0 [evsV (fun i=>evOf ((p.L.take 5).getD i 0)),its 99 (pCs p (pN p)),its 114 (pRs p (pM p)),.nilsl,.nilsl])]) (fun _=>True) ?_ (Nat.zero_le _) ?_ ?_
  · refine ⟨[(50, .blk 50 0), (51, .blk 51 0), (52, .blk 52 0), (75, .blk 75 0), (77, .nil)], rfl, au0, ?_, au15⟩
    exact RB.cells rfl rfl gg (RnL.same hnr) (RB.cells rfl rfl gg (RnL.same rfl) (RB.cells rfl rfl gg (RnL.cons (Rn.same rfl) (RnL.cons (Rn.same (Qap _)) (RnL.cons (Rn.x4 rfl rfl) (RnL.same rfl)))) (RB.cells rfl rfl gg (RnL.cons (Rn.same (Qab _)) RnL.nil) (RB.newnil rfl rfl RB.nil))))
  · rintro i hi
    by_cases hlt:i<pM p
    · have hi3 : (i : Int) < 2 := by omega
      have a6:=hat (k:=91+i) (by omega)
      have hE:=events89 (p.L.getD (91+i) 0) (L_lt h _)
      have hg:=hgr (k:=93+i*27) (by omega)
      have hG:=graph91 (pW p i) (p.L.getD (93+i*27) 0) (p.L.getD (93+i*27+1) 0) ((p.L.drop (93+i*27+2)).take 25) (QhY _) (pW_lt _) (L_lt h _) (L_lt h _) (by rw[List.length_take,List.length_drop,h.L];omega) (fun x hx=>h.L8 x (List.mem_of_mem_drop (List.mem_of_mem_take hx)))
      have hA:mkA (pW p i) (p.L.getD (93+i*27) 0 % 3) (p.L.getD (93+i*27+1) 0) ((p.L.drop (93+i*27+2)).take 25)=pR p i:=rfl
      rw[hA]at hG
      have hsuc:=@QnF p i
      have hil:=@Qcr 114 (pRs p i)
      have hpl:=@QkP p i
      have hs:=Qel (i:=i) (by omega)
      have hg27:93+i*27+27<=152:=by omega
      have hW:fltN (ST.bitsL (pAll p (pN p))) (SD.part 5 (p.L.getD (91+i) 0))=pW p i:=Qop
      have hbl:(ST.bitsL (pAll p (pN p))).length<=1000000:=Nat.le_trans (QcC (i:=5)) (by decide)
      have hpl5:(SD.part 5 (p.L.getD (91+i) 0)).length<=1000000:=Nat.le_trans (QcC (i:=5)) (by decide)
      generalize ST.bitsL (pAll p (pN p))=A at*
      simp(disch:=first|omega|(simp only[lenW]<;>omega)) only[hlt,hi3,a6,hlen,Bool.not_eq_true,wW,wV,simprocAttr]
      refine ch (HSpec.of_O (b:=98) (by(try simp only[noRefs,Qaa,Qaw,noRef,noRefs,Qab,QaO,Bool.and_self,Bool.and_true])<;>rfl) hE (by repeat (first|exact Fresh.e|exact Fresh.le (by assumption) (by omega)|refine Fresh.set ?_ (by omega) (by omega))) rfl) ?_
      simp(disch:=first|omega|(simp only[lenW]<;>omega)) only[Bool.not_eq_true,wW,wV,simprocAttr]
      refine chc (del40F hbl hpl5 gg gg) ?_
      rw[hW]
      simp(disch:=first|omega|(simp only[lenW]<;>omega)) only[hlt,hi3,hlen,hs,hg27,hg,Bool.not_eq_true,wW,wV,simprocAttr]
      refine cp hG ?_
      simp(disch:=first|omega|(simp only[lenW]<;>omega)) only[hil,hpl,Bool.not_eq_true,wW,wV,simprocAttr]
      refine⟨i+1,by omega,by omega,?_⟩
      rw[hsuc,List.flatMap_append,List.length_append,hpl,QmU]
      refine⟨[(50,.blk 50 0),(51,.blk 51 0),(52,.blk 52 0),(75,.blk 75 0),(77,.blk 77 1)],rfl,au0,?_,au15⟩
      exact RB.cells rfl rfl gg (RnL.same hnr) (RB.cells rfl rfl gg (RnL.same rfl) (RB.cells rfl rfl gg (RnL.cons (Rn.same rfl) (RnL.cons (Rn.same (Qap _)) (RnL.cons (Rn.x1 rfl rfl) (RnL.same rfl)))) (RB.cells rfl rfl gg (RnL.cons (Rn.same (Qab _)) RnL.nil) (RB.cells rfl rfl gg (RnL.same (QaH (QbR _) QcY)) RB.nil))))
    · have e : i = pM p := by omega
      subst e
      have hil:=@Qcr 114 (pRs p (pM p))
      have hpl:=@QkP p (pM p)
      simp(disch:=first|omega|(simp only[lenW]<;>omega)) only[hlt,Bool.not_eq_true,wW,wV,simprocAttr]
      refine⟨(),?_⟩
      refine⟨[(50,.blk 50 0),(51,.blk 51 0),(52,.blk 52 0)],rfl,au0,?_,au15⟩
      exact RB.cells rfl rfl gg (RnL.same hnr) (RB.cells rfl rfl gg (RnL.same rfl) (RB.cells rfl rfl gg (RnL.cons (Rn.same rfl) (RnL.cons (Rn.same (Qap _)) (RnL.cons (Rn.fzm rfl rfl rfl rfl (Qcr _) (RnL.same (QbR _))) (RnL.same rfl)))) RB.nil))
  rintro _ _
  simp(disch:=first|omega|(simp only[lenW]<;>omega)) only[a147,Bool.not_eq_true,wW,wV,simprocAttr]
  refine Qar 100 (fun i:Nat=>[(1,.ptr 50 0 0),(2,.ptr 51 0 0),(3,.ptr 52 0 0),(5,.int .i64 (pN p:Int)),(89,.fsl (u8s p.X) p.xn 4),(90,.int .i64 (p.xn:Int)),(91,.int .i64 i)])
    (fun i=>[(50,.cells 0 C),(51,.cells 0 [.nilsl,.nilsl,.nilsl,.nilsl,.nilsl]),(52,.cells 0 [evsV (fun i=>evOf ((p.L.take 5).getD i 0)),its 99 (pCs p (pN p)),its 114 (pRs p (pM p)),.sl 78 0 0 (pXs p i).length 2,.nilsl]),(78,.cells 0 ((pXs p i).flatMap exC))])
    (fun i=>i<=p.xn/\i<=2) (fun i=>p.xn-i) 0 4 200
    (fun _:Unit=>[(1,.ptr 50 0 0),(2,.ptr 51 0 0),(3,.ptr 52 0 0),(5,.int .i64 (pN p:Int))])
    (fun _=>[(50,.cells 0 C),(51,.cells 0 [.nilsl,.nilsl,.nilsl,.nilsl,.nilsl]),(52,.cells 0 [evsV (fun i=>evOf ((p.L.take 5).getD i 0)),its 99 (pCs p (pN p)),its 114 (pRs p (pM p)),exs (pXs p (min p.xn 2)),.nilsl])]) (fun _=>True) ?_ ⟨Nat.zero_le _,Nat.zero_le _⟩ ?_ ?_
  · refine ⟨[(50, .blk 50 0), (51, .blk 51 0), (52, .blk 52 0), (78, .nil)], rfl, au0, ?_, au15⟩
    exact RB.cells rfl rfl gg (RnL.same hnr) (RB.cells rfl rfl gg (RnL.same rfl) (RB.cells rfl rfl gg (RnL.cons (Rn.same rfl) (RnL.cons (Rn.same (Qap _)) (RnL.cons (Rn.same (Qap _)) (RnL.cons (Rn.x4 rfl rfl) (RnL.same rfl))))) (RB.newnil rfl rfl RB.nil)))
  · rintro i ⟨hi, hi2⟩
    have hxl:=@QdW (pXs p i)
    have hxx:=@QgW p i
    by_cases hlt:i<p.xn
    · have hX := h.X
      have h4:=Qoq (X:=p.X) (i:=i) (by omega)
      have hul:i*4+4<=(u8s p.X).length:=by rw[Qcf,hX];omega
      have hdl:4<=((u8s p.X).drop (i*4)).length:=by rw[List.length_drop];omega
      by_cases h2:i=2
      · subst h2
        have hi2':(2:Int)<(p.xn:Int):=by omega
        simp(disch:=first|omega|(simp only[lenW]<;>omega)) only[hlt,h4,hdl,hi2',Bool.not_eq_true,wW,wV,simprocAttr]
        refine⟨(),?_⟩
        rw[show min p.xn 2=2 by omega]
        refine⟨[(50,.blk 50 0),(51,.blk 51 0),(52,.blk 52 0)],rfl,au0,?_,au15⟩
        exact RB.cells rfl rfl gg (RnL.same hnr) (RB.cells rfl rfl gg (RnL.same rfl) (RB.cells rfl rfl gg (RnL.cons (Rn.same rfl) (RnL.cons (Rn.same (Qap _)) (RnL.cons (Rn.same (Qap _)) (RnL.cons (Rn.fzm rfl rfl rfl rfl (QdW _) (RnL.same (Qa8 _))) (RnL.same rfl))))) RB.nil))
      have h2':¬(i:Int)=2:=by omega
      have hs:=Qel (i:=i) (by omega)
      simp(disch:=first|omega|(simp only[lenW]<;>omega)) only[hlt,h4,hdl,h2',hs,Bool.not_eq_true,wW,wV,simprocAttr]
      obtain⟨Y,hYe⟩:∃Y,Y=[AV.int .u8 ((p.X.getD (i*4) 0:Nat):Int),.int .u8 ((p.X.getD (i*4+1) 0:Nat):Int),.int .u8 ((p.X.getD (i*4+2) 0:Nat):Int),.int .u8 ((p.X.getD (i*4+3) 0:Nat):Int)]:=⟨_,rfl⟩
      have hYn:noRefs Y=true:=by rw[hYe];rfl
      have hYk:∀k,k<3->Y[k]?=some (.int .u8 ((p.X.getD (i*4+k) 0:Nat):Int)):=by
        intro k hk
        have:k=0\/k=1\/k=2:=by omega
        rcases this with rfl|rfl|rfl<;>rw[hYe]<;>rfl
      have hpl:=@Qg2 p (pN p)
      have hilC:=@Qcr 99 (pCs p (pN p))
      rw[<-hYe,hpl]
      refine Qar 220 (fun k:Nat=>[(1,.ptr 50 0 0),(2,.ptr 51 0 0),(3,.ptr 52 0 0),(5,.int .i64 (pN p:Int)),(11,.ptr 60 0 0),(12,.ptr 61 0 0),(89,.fsl (u8s p.X) p.xn 4),(90,.int .i64 (p.xn:Int)),(91,.int .i64 i),(106,.int .i64 (pN p:Int)),(107,.int .i64 k)])
        (fun k=>[(50,.cells 0 C),(51,.cells 0 [.nilsl,.nilsl,.nilsl,.nilsl,.nilsl]),(52,.cells 0 [evsV (fun i=>evOf ((p.L.take 5).getD i 0)),its 99 (pCs p (pN p)),its 114 (pRs p (pM p)),.sl 78 0 0 (pXs p i).length 2,.nilsl]),(60,.cells 0 Y),(61,.cells 0 [.str [101,UInt8.ofNat (48+i)],.sl 79 0 0 (pLo p i k).length 2]),(78,.cells 0 ((pXs p i).flatMap exC)),(79,.cells 0 ((pLo p i k).flatMap loC))])
        (fun k=>k<=pN p) (fun k=>pN p-k) 0 6 300
        (fun _:Unit=>[(1,.ptr 50 0 0),(2,.ptr 51 0 0),(3,.ptr 52 0 0),(5,.int .i64 (pN p:Int)),(12,.ptr 61 0 0),(89,.fsl (u8s p.X) p.xn 4),(90,.int .i64 (p.xn:Int)),(91,.int .i64 i)])
        (fun _=>[(50,.cells 0 C),(51,.cells 0 [.nilsl,.nilsl,.nilsl,.nilsl,.nilsl]),(52,.cells 0 [evsV (fun i=>evOf ((p.L.take 5).getD i 0)),its 99 (pCs p (pN p)),its 114 (pRs p (pM p)),.sl 78 0 0 (pXs p i).length 2,.nilsl]),(61,.cells 0 [.str [101,UInt8.ofNat (48+i)],los (pLo p i (pN p))]),(78,.cells 0 ((pXs p i).flatMap exC))]) (fun _=>True) ?_ (Nat.zero_le _) ?_ ?_
      · refine ⟨[(50, .blk 50 0), (51, .blk 51 0), (52, .blk 52 0), (60, .blk 104 0), (61, .blk 115 0), (78, .blk 78 0), (79, .nil)], rfl, au0, ?_, au15⟩
        exact RB.cells rfl rfl gg (RnL.same hnr) (RB.cells rfl rfl gg (RnL.same rfl) (RB.cells rfl rfl gg (RnL.cons (Rn.same rfl) (RnL.cons (Rn.same (Qap _)) (RnL.cons (Rn.same (Qap _)) (RnL.cons (Rn.x1 rfl rfl) (RnL.same rfl))))) (RB.cells rfl rfl gg (RnL.same hYn) (RB.cells rfl rfl gg (RnL.cons (Rn.same rfl) (RnL.cons (Rn.x4 rfl rfl) RnL.nil)) (RB.cells rfl rfl gg (RnL.same (Qa8 _)) (RB.newnil rfl rfl RB.nil))))))
      · rintro k hk
        have hll:=@QgB (pLo p i k)
        have hlx:=@QgX p i k
        by_cases hkl:k<pN p
        · have hk3 : (k : Int) < 4 := by omega
          have hck:=QmJ (p:=p) hkl
          have hdr:=QcF (ch:=99) hck
          have hdl2:5<=(((pCs p (pN p)).flatMap (itC 99)).drop (k*5)).length:=by rw[hdr];simp
          have hy:=hYk k (by omega)
          have hx8:=X_lt h (i*4+k)
          have hn5:(pA p k).n<=3:=(pA_wf k).n3
          have hrm:((p.X.getD (i*4+k) 0:Nat):Int).tmod (((pA p k).n:Int)+2)=((p.X.getD (i*4+k) 0 % ((pA p k).n+2):Nat):Int):=by
            rw[Int.tmod_eq_emod_of_nonneg (Int.natCast_nonneg _)];norm_cast
          have hn0:¬((pA p k).n:Int)+2=0:=by omega
          have hxm:p.X.getD (i*4+k) 0 % ((pA p k).n+2)<=10:=by have:=Nat.mod_lt (p.X.getD (i*4+k) 0) (show 0<(pA p k).n+2 by omega);omega
          have hsuc:pLo p i (k+1)=if p.X.getD (i*4+k) 0 % ((pA p k).n+2)<(pA p k).n then pLo p i k++[(k,p.X.getD (i*4+k) 0 % ((pA p k).n+2))]else pLo p i k:=rfl
          by_cases ht:p.X.getD (i*4+k) 0 % ((pA p k).n+2)<(pA p k).n
          · rw [if_pos ht] at hsuc
            have hlo1:List.flatMap loC [(k,p.X.getD (i*4+k) 0 % ((pA p k).n+2))]=[.int .i64 (k:Int),.int .i64 ((p.X.getD (i*4+k) 0 % ((pA p k).n+2):Nat):Int)]:=rfl
            simp(disch:=first|omega|(simp only[lenW]<;>omega)) only[hkl,hk3,hdr,hdl2,hy,hrm,hn0,ht,hll,Bool.not_eq_true,wW,wV,simprocAttr]
            refine⟨k+1,by omega,by omega,?_⟩
            rw[hsuc,List.flatMap_append,List.length_append,hlo1]
            refine⟨[(50,.blk 50 0),(51,.blk 51 0),(52,.blk 52 0),(60,.blk 60 0),(61,.blk 61 0),(78,.blk 78 0),(79,.blk 79 1)],rfl,au0,?_,au15⟩
            exact RB.cells rfl rfl gg (RnL.same hnr) (RB.cells rfl rfl gg (RnL.same rfl) (RB.cells rfl rfl gg (RnL.cons (Rn.same rfl) (RnL.cons (Rn.same (Qap _)) (RnL.cons (Rn.same (Qap _)) (RnL.cons (Rn.x1 rfl rfl) (RnL.same rfl))))) (RB.cells rfl rfl gg (RnL.same hYn) (RB.cells rfl rfl gg (RnL.cons (Rn.same rfl) (RnL.cons (Rn.x1 rfl rfl) RnL.nil)) (RB.cells rfl rfl gg (RnL.same (Qa8 _)) (RB.cells rfl rfl gg (RnL.same (QaH (Qbx _) rfl)) RB.nil))))))
          · rw [if_neg ht] at hsuc
            simp(disch:=first|omega|(simp only[lenW]<;>omega)) only[hkl,hk3,hdr,hdl2,hy,hrm,hn0,ht,hll,Bool.not_eq_true,wW,wV,simprocAttr]
            refine⟨k+1,by omega,by omega,?_⟩
            rw[hsuc]
            refine⟨[(50,.blk 50 0),(51,.blk 51 0),(52,.blk 52 0),(60,.blk 60 0),(61,.blk 61 0),(78,.blk 78 0),(79,.blk 79 0)],rfl,au0,?_,au15⟩
            exact RB.cells rfl rfl gg (RnL.same hnr) (RB.cells rfl rfl gg (RnL.same rfl) (RB.cells rfl rfl gg (RnL.cons (Rn.same rfl) (RnL.cons (Rn.same (Qap _)) (RnL.cons (Rn.same (Qap _)) (RnL.cons (Rn.x1 rfl rfl) (RnL.same rfl))))) (RB.cells rfl rfl gg (RnL.same hYn) (RB.cells rfl rfl gg (RnL.cons (Rn.same rfl) (RnL.cons (Rn.x1 rfl rfl) RnL.nil)) (RB.cells rfl rfl gg (RnL.same (Qa8 _)) (RB.cells rfl rfl gg (RnL.same (Qbx _)) RB.nil))))))
        · have e : k = pN p := by omega
          subst e
          simp(disch:=first|omega|(simp only[lenW]<;>omega)) only[hkl,Bool.not_eq_true,wW,wV,simprocAttr]
          refine⟨(),?_⟩
          refine⟨[(50,.blk 50 0),(51,.blk 51 0),(52,.blk 52 0),(61,.blk 61 0),(78,.blk 78 0)],rfl,au0,?_,au15⟩
          exact RB.cells rfl rfl gg (RnL.same hnr) (RB.cells rfl rfl gg (RnL.same rfl) (RB.cells rfl rfl gg (RnL.cons (Rn.same rfl) (RnL.cons (Rn.same (Qap _)) (RnL.cons (Rn.same (Qap _)) (RnL.cons (Rn.x1 rfl rfl) (RnL.same rfl))))) (RB.cells rfl rfl gg (RnL.cons (Rn.same rfl) (RnL.cons (Rn.fzm rfl rfl rfl rfl (QgB _) (RnL.same (Qbx _))) RnL.nil)) (RB.cells rfl rfl gg (RnL.same (Qa8 _)) RB.nil))))
      rintro _ _
      have hsuc:pXs p (i+1)=if 0<(pLo p i (pN p)).length then pXs p i++[(i,pLo p i (pN p))]else pXs p i:=rfl
      have hlx:=@QgX p i (pN p)
      by_cases h0:0<(pLo p i (pN p)).length
      · rw [if_pos h0] at hsuc
        have hex1:List.flatMap exC [(i,pLo p i (pN p))]=[.str [101,UInt8.ofNat (48+i)],los (pLo p i (pN p))]:=rfl
        simp(disch:=first|omega|(simp only[lenW]<;>omega)) only[h0,hxl,Bool.not_eq_true,wW,wV,simprocAttr]
        refine⟨i+1,by omega,⟨by omega,by omega⟩,?_⟩
        rw[hsuc,List.flatMap_append,List.length_append,hex1]
        refine⟨[(50,.blk 50 0),(51,.blk 51 0),(52,.blk 52 0),(78,.blk 78 1)],rfl,au0,?_,au15⟩
        exact RB.cells rfl rfl gg (RnL.same hnr) (RB.cells rfl rfl gg (RnL.same rfl) (RB.cells rfl rfl gg (RnL.cons (Rn.same rfl) (RnL.cons (Rn.same (Qap _)) (RnL.cons (Rn.same (Qap _)) (RnL.cons (Rn.x1 rfl rfl) (RnL.same rfl))))) (RB.cells rfl rfl gg (RnL.same (QaH (Qa8 _) (by simp only[noRefs,noRef,Qbx];rfl))) RB.nil)))
      · rw [if_neg h0] at hsuc
        simp(disch:=first|omega|(simp only[lenW]<;>omega)) only[h0,hxl,Bool.not_eq_true,wW,wV,simprocAttr]
        refine⟨i+1,by omega,⟨by omega,by omega⟩,?_⟩
        rw[hsuc]
        refine⟨[(50,.blk 50 0),(51,.blk 51 0),(52,.blk 52 0),(78,.blk 78 0)],rfl,au0,?_,au15⟩
        exact RB.cells rfl rfl gg (RnL.same hnr) (RB.cells rfl rfl gg (RnL.same rfl) (RB.cells rfl rfl gg (RnL.cons (Rn.same rfl) (RnL.cons (Rn.same (Qap _)) (RnL.cons (Rn.same (Qap _)) (RnL.cons (Rn.x1 rfl rfl) (RnL.same rfl))))) (RB.cells rfl rfl gg (RnL.same (Qa8 _)) RB.nil)))
    · have e : i = p.xn := by omega
      subst e
      simp(disch:=first|omega|(simp only[lenW]<;>omega)) only[hlt,Bool.not_eq_true,wW,wV,simprocAttr]
      refine⟨(),?_⟩
      rw[show min p.xn 2=p.xn by omega]
      refine⟨[(50,.blk 50 0),(51,.blk 51 0),(52,.blk 52 0)],rfl,au0,?_,au15⟩
      exact RB.cells rfl rfl gg (RnL.same hnr) (RB.cells rfl rfl gg (RnL.same rfl) (RB.cells rfl rfl gg (RnL.cons (Rn.same rfl) (RnL.cons (Rn.same (Qap _)) (RnL.cons (Rn.same (Qap _)) (RnL.cons (Rn.fzm rfl rfl rfl rfl (QdW _) (RnL.same (Qa8 _))) (RnL.same rfl))))) RB.nil))
  rintro _ _
  have hb1:=Int.lt_tmod_of_pos p.bd (show(0:Int)<8 by decide)
  have hb2:=Int.tmod_lt_of_pos p.bd (show(0:Int)<8 by decide)
  have hbd:=h.bd
  have hf0:=h.f0
  have hf1:=h.f1
  have hf2:=h.f2
  simp(disch:=first|omega|(simp only[lenW]<;>omega)) only[a151,Bool.not_eq_true,wW,wV,simprocAttr]
  refine Qar 240 (fun i:Nat=>[(1,.ptr 50 0 0),(2,.ptr 51 0 0),(3,.ptr 52 0 0),(15,.ptr 62 0 0),(157,.int .i64 (pN p:Int)),(158,.int .i64 i)])
    (fun i=>[(50,.cells 0 C),(51,.cells 0 [.nilsl,.nilsl,.nilsl,.nilsl,.nilsl]),(52,.cells 0 [evsV (fun i=>evOf ((p.L.take 5).getD i 0)),its 99 (pCs p (pN p)),its 114 (pRs p (pM p)),exs (pXs p (min p.xn 2)),.nilsl]),(62,.cells 0 [.str [107],.sl 97 0 0 (pT p i).length 2,.int .i64 (p.bd.tmod 8)]),(97,.cells 0 ((pT p i).flatMap teC))])
    (fun i=>i<=pN p) (fun i=>pN p-i) 0 8 300
    (fun _:Unit=>[(2,.ptr 51 0 0),(3,.ptr 52 0 0),(15,.ptr 62 0 0)])
    (fun _=>[(51,.cells 0 [.nilsl,.nilsl,.nilsl,.nilsl,.nilsl]),(52,.cells 0 [evsV (fun i=>evOf ((p.L.take 5).getD i 0)),its 99 (pCs p (pN p)),its 114 (pRs p (pM p)),exs (pXs p (min p.xn 2)),.nilsl]),(62,.cells 0 [.str [107],.sl 97 0 0 (pT p (pN p)).length 2,.int .i64 (p.bd.tmod 8)]),(97,.cells 0 ((pT p (pN p)).flatMap teC))]) (fun _=>True) ?_ (Nat.zero_le _) ?_ ?_
  · refine ⟨[(50, .blk 50 0), (51, .blk 51 0), (52, .blk 52 0), (62, .blk 205 0), (97, .nil)], rfl, au0, ?_, au15⟩
    exact RB.cells rfl rfl gg (RnL.same hnr) (RB.cells rfl rfl gg (RnL.same rfl) (RB.cells rfl rfl gg (RnL.cons (Rn.same rfl) (RnL.cons (Rn.same (Qap _)) (RnL.cons (Rn.same (Qap _)) (RnL.cons (Rn.same (Qa1 _)) (RnL.same rfl))))) (RB.cells rfl rfl gg (RnL.cons (Rn.same rfl) (RnL.cons (Rn.x4 rfl rfl) (RnL.same rfl))) (RB.newnil rfl rfl RB.nil))))
  · rintro i hi
    have htl:=@QcR (pT p i)
    have htx:=@Qjo p i
    by_cases hlt:i<pN p
    · have hi3 : (i : Int) < 3 := by omega
      have ha:=aF i (by omega)
      have hFb: -128<=pF p i/\pF p i<128:=pF_lt h i
      have hsuc:pT p (i+1)=if pF p i=0 then pT p i else pT p i++[(i,(pF p i).tmod 4)]:=rfl
      by_cases h0:pF p i=0
      · rw [if_pos h0] at hsuc
        simp(disch:=first|omega|(simp only[lenW]<;>omega)) only[hlt,hi3,hlen,ha,h0,Bool.not_eq_true,wW,wV,simprocAttr]
        refine⟨i+1,by omega,by omega,?_⟩
        rw[hsuc]
        refine⟨[(50,.blk 50 0),(51,.blk 51 0),(52,.blk 52 0),(62,.blk 62 0),(97,.blk 97 0)],rfl,au0,?_,au15⟩
        exact RB.cells rfl rfl gg (RnL.same hnr) (RB.cells rfl rfl gg (RnL.same rfl) (RB.cells rfl rfl gg (RnL.cons (Rn.same rfl) (RnL.cons (Rn.same (Qap _)) (RnL.cons (Rn.same (Qap _)) (RnL.cons (Rn.same (Qa1 _)) (RnL.same rfl))))) (RB.cells rfl rfl gg (RnL.cons (Rn.same rfl) (RnL.cons (Rn.x1 rfl rfl) (RnL.same rfl))) (RB.cells rfl rfl gg (RnL.same (QaO _)) RB.nil))))
      · rw [if_neg h0] at hsuc
        have hte1:List.flatMap teC [(i,(pF p i).tmod 4)]=[.int .i64 (i:Int),.int .i64 ((pF p i).tmod 4)]:=rfl
        simp(disch:=first|omega|(simp only[lenW]<;>omega)) only[hlt,hi3,hlen,ha,h0,htl,Bool.not_eq_true,wW,wV,simprocAttr]
        refine⟨i+1,by omega,by omega,?_⟩
        rw[hsuc,List.flatMap_append,List.length_append,hte1]
        refine⟨[(50,.blk 50 0),(51,.blk 51 0),(52,.blk 52 0),(62,.blk 62 0),(97,.blk 97 1)],rfl,au0,?_,au15⟩
        exact RB.cells rfl rfl gg (RnL.same hnr) (RB.cells rfl rfl gg (RnL.same rfl) (RB.cells rfl rfl gg (RnL.cons (Rn.same rfl) (RnL.cons (Rn.same (Qap _)) (RnL.cons (Rn.same (Qap _)) (RnL.cons (Rn.same (Qa1 _)) (RnL.same rfl))))) (RB.cells rfl rfl gg (RnL.cons (Rn.same rfl) (RnL.cons (Rn.x1 rfl rfl) (RnL.same rfl))) (RB.cells rfl rfl gg (RnL.same (QaH (QaO _) rfl)) RB.nil))))
    · have e : i = pN p := by omega
      subst e
      simp(disch:=first|omega|(simp only[lenW]<;>omega)) only[hlt,Bool.not_eq_true,wW,wV,simprocAttr]
      refine⟨(),?_⟩
      refine⟨[(51,.blk 51 0),(52,.blk 52 0),(62,.blk 62 0),(97,.blk 97 0)],rfl,au0,?_,au15⟩
      exact RB.cells rfl rfl gg (RnL.same rfl) (RB.cells rfl rfl gg (RnL.cons (Rn.same rfl) (RnL.cons (Rn.same (Qap _)) (RnL.cons (Rn.same (Qap _)) (RnL.cons (Rn.same (Qa1 _)) (RnL.same rfl))))) (RB.cells rfl rfl gg (RnL.cons (Rn.same rfl) (RnL.cons (Rn.x1 rfl rfl) (RnL.same rfl))) (RB.cells rfl rfl gg (RnL.same (QaO _)) RB.nil)))
  rintro _ _
  have hT0:flt0 (pT p (pN p))=pT0 p:=rfl
  have hpt:=@Qjo p (pN p)
  simp(disch:=first|omega|(simp only[lenW]<;>omega)) only[Bool.not_eq_true,wW,wV,simprocAttr]
  refine chc (del93F (l:=pT p (pN p)) (by omega) gg) ?_
  rw[hT0]
  have htl0:(pT0 p).length<=3:=Nat.le_trans (List.length_filter_le _ _) (by omega)
  by_cases h0:0<(pT0 p).length
  · have hks : pKs p = [(pT0 p, p.bd.tmod 8)] := if_pos h0
    simp(disch:=first|omega|(simp only[lenW]<;>omega)) only[h0,Bool.not_eq_true,wW,wV,simprocAttr]
    refine⟨.inr trivial,_,rfl,?_⟩
    refine Rn.agg (RnL.cons (Rn.same rfl) (RnL.cons (Rn.same (Qap _)) (RnL.cons (Rn.same (Qap _)) (RnL.cons (Rn.same (Qa1 _)) (RnL.cons ?_ RnL.nil)))))
    show Rn 0 π0 _ (cos (pKs p)) _
    rw[hks]
    exact Rn.fz0 (b:=310) rfl rfl (RnL.cons (Rn.same rfl) (RnL.cons (Rn.same (QcS _)) (RnL.cons (Rn.same rfl) RnL.nil)))
  · have hks : pKs p = [] := if_neg h0
    simp(disch:=first|omega|(simp only[lenW]<;>omega)) only[h0,Bool.not_eq_true,wW,wV,simprocAttr]
    refine⟨.inr trivial,_,rfl,?_⟩
    refine Rn.agg (RnL.cons (Rn.same rfl) (RnL.cons (Rn.same (Qap _)) (RnL.cons (Rn.same (Qap _)) (RnL.cons (Rn.same (Qa1 _)) (RnL.cons ?_ RnL.nil)))))
    show Rn 0 π0 _ (cos (pKs p)) _
    rw[hks]
    exact Rn.nilK
end Go.AM.SU
namespace Go.AM.SN
open Go.Proofs Go.AM.SD Go.AM.SE Go.AM.SO
noncomputable section
def is0:AV->Bool| .int .i64 n=>decide (n=0)|_=>false
theorem Qpn:∀u,is0 u=true->u= .int .i64 0:=by
 intro u h
 unfold is0 at h
 split at h
 ·rename_i n;simp at h;rw[h]
 ·cases h
def nameR (s:List UInt8) (f:Nat) (X K:AV) (i:Int):Bool:=callR ansB noOrc SK.ft.get (exR ansB noOrc SK.ft.get 1000) (.c .pure) 102 [.str s,.fn f [] [.fptr [.any,X,K],.fptr [.int .i64 i]]] .e 64 (fun u _ _=>is0 u)
theorem QnH {s:List UInt8} {f:Nat} {X K:AV} {i:Int} (h:nameR s f X K i=true):PSpec Tryz.prog 102 [.str s,.fn f [] [.fptr [.any,X,K],.fptr [.int .i64 i]]] (.int .i64 0):=
 Qbl (t:=SK.ft) SK.ft_ok QcE (d:=1000) is0 Qpn h
theorem e0_1:nameR [101,48] 101 (.fsl [.str [101,48],.any] 1 2) .any 0=true:=by kernel_rfl
theorem e1_1:nameR [101,49] 101 (.fsl [.str [101,49],.any] 1 2) .any 0=true:=by kernel_rfl
theorem e0_2:nameR [101,48] 101 (.fsl [.str [101,48],.any,.str [101,49],.any] 2 2) .any 0=true:=by kernel_rfl
theorem e1_2a:nameR [101,49] 101 (.fsl [.str [101,48],.fsl [.any,.any] 1 2,.str [101,49],.any] 2 2) .any 1=true:=by kernel_rfl
theorem e1_2b:nameR [101,49] 101 (.fsl [.str [101,48],.fsl [.any,.any,.any,.any] 2 2,.str [101,49],.any] 2 2) .any 1=true:=by kernel_rfl
theorem e1_2c:nameR [101,49] 101 (.fsl [.str [101,48],.fsl [.any,.any,.any,.any,.any,.any] 3 2,.str [101,49],.any] 2 2) .any 1=true:=by kernel_rfl
theorem k_1:nameR [107] 104 .any (.fsl [.str [107],.any,.any] 1 3) 0=true:=by kernel_rfl
def Wk (x y:AV):Prop:=∀(ok:Okc) (c:Ctx ok) (w:World) (v:Value),VRel c w x v->VRel c w y v
def WkL:List AV->List AV->Prop
 |[],[]=>True
 |x::xs,y::ys=>Wk x y/\WkL xs ys
 |_,_=>False
theorem Wk.refl (x:AV):Wk x x:=fun _ _ _ _ h=>h
theorem Wk.any {x:AV}:Wk x .any:=fun _ _ _ _ _=>by simp[VRel]
theorem WkL.rels {ok:Okc} {c:Ctx ok} {w:World}:∀{xs ys:List AV} {vs:List Value},WkL xs ys->VRels c w xs vs->VRels c w ys vs
 |[],[],_,_,hv=>hv
 |[],_::_,_,h,_=>h.elim
 |_::_,[],_,h,_=>h.elim
 |x::xs,y::ys,vs,h,hv=>by
  simp only[VRels]at hv⊢
  obtain⟨v,vs',rfl,h1,h2⟩:=hv
  exact⟨v,vs',rfl,h.1 _ c w v h1,WkL.rels h.2 h2⟩
theorem WkL.pre {ok:Okc} {c:Ctx ok} {w:World}:∀{xs ys:List AV} {vs:List Value},WkL xs ys->VPre c w xs vs->VPre c w ys vs
 |[],[],_,_,hv=>hv
 |[],_::_,_,h,_=>h.elim
 |_::_,[],_,h,_=>h.elim
 |x::xs,y::ys,vs,h,hv=>by
  simp only[VPre]at hv⊢
  obtain⟨v,vs',rfl,h1,h2⟩:=hv
  exact⟨v,vs',rfl,h.1 _ c w v h1,WkL.pre h.2 h2⟩
theorem WkL.length:∀{xs ys:List AV},WkL xs ys->xs.length=ys.length
 |[],[],_=>rfl
 |[],_::_,h=>h.elim
 |_::_,[],h=>h.elim
 |x::xs,y::ys,h=>by simp[WkL.length h.2]
theorem Wk.fsl {cs ds:List AV} {len sz:Nat} (h:WkL cs ds):Wk (.fsl cs len sz) (.fsl ds len sz):=fun _ c w v hv=>by
 simp only[VRel]at hv⊢
 have hl:=h.length
 rcases hv with⟨h1,rfl,h2⟩|⟨cb,off,cap,C,e,fr,h1,h2,h3,h4,h5,h6⟩
 ·refine .inl ⟨h1, ?_, h2⟩
  exact List.eq_nil_of_length_eq_zero (by rw[<-hl];rfl)
 ·exact .inr ⟨cb,off,cap,C,e,fr,h1,h2,by omega,h4,h5,h.pre h6⟩
theorem Wk.fptr {cs ds:List AV} (h:WkL cs ds):Wk (.fptr cs) (.fptr ds):=fun _ c w v hv=>by
 simp only[VRel]at hv⊢
 obtain⟨cb,off,C,e,fr,h1,h2,h3,h4⟩:=hv
 exact⟨cb,off,C,e,fr,h1,h2,h3,h.pre h4⟩
theorem Wk.fn {f:Nat} {xs ys us vs:List AV} (h1:WkL xs ys) (h2:WkL us vs):Wk (.fn f xs us) (.fn f ys vs):=fun _ c w v hv=>by
 simp only[VRel]at hv⊢
 obtain⟨x',y',rfl,g1,g2⟩:=hv
 exact⟨x',y',rfl,h1.rels g1,h2.rels g2⟩
theorem PSpec.wk {f:Nat} {args bs:List AV} {v:AV} (hL:WkL args bs) (hn:noRefs args=true) (hp:PSpec Tryz.prog f bs v):PSpec Tryz.prog f args v:=SE.PSpec.weak (fun _ c w vs _ h=>hL.rels h) hn hp
theorem nameW {s:List UInt8} {f:Nat} {S X K X' K':AV} {i:Int} (h:nameR s f X' K' i=true) (hX:Wk X X') (hK:Wk K K') (hn:noRefs [S,X,K]=true):PSpec Tryz.prog 102 [.str s,.fn f [] [.fptr [S,X,K],.fptr [.int .i64 i]]] (.int .i64 0):=by
 refine PSpec.wk (bs:=[.str s,.fn f [] [.fptr [.any,X',K'],.fptr [.int .i64 i]]]) ⟨Wk.refl _,Wk.fn trivial ⟨Wk.fptr ⟨Wk.any,hX,hK,trivial⟩,Wk.refl _,trivial⟩,trivial⟩ ?_ (QnH h)
 simp only[noRefs,noRef,Bool.and_true,Bool.true_and]at hn⊢
 exact hn
theorem nameX {S K:AV} {xs:List (Nat×List (Nat×Nat))} {i:Nat} {x:Nat×List (Nat×Nat)} (hx:xs[i]?=some x) (h2:xs.length<=2) (hs:(xs.map (·.1)).Pairwise (· < ·)) (hl:∀x∈xs,x.1<2) (hne:∀x∈xs,x.2≠[]/\x.2.length<=3) (hn:noRefs [S,exs xs,K]=true):
  PSpec Tryz.prog 102 [.str [101,UInt8.ofNat (48+x.1)],.fn 101 [] [.fptr [S,exs xs,K],.fptr [.int .i64 (i:Int)]]] (.int .i64 0):=by
 match xs,h2 with
 |[],_=>simp at hx
 | [(a, la)], _ =>
  have hi:i=0:=by
   rcases Nat.eq_zero_or_pos i with h|h
   ·exact h
   ·rw[List.getElem?_eq_none (by simp;omega)]at hx;cases hx
  subst hi
  simp at hx;subst hx
  have ha:=hl (a,la) (by simp)
  have:a=0\/a=1:=by dsimp only at ha;omega
  rcases this with rfl|rfl
  ·exact nameW e0_1 (Wk.fsl ⟨Wk.refl _,Wk.any,trivial⟩) Wk.any hn
  ·exact nameW e1_1 (Wk.fsl ⟨Wk.refl _,Wk.any,trivial⟩) Wk.any hn
 | [(a, la), (b, lb)], _ =>
  have ha:=hl (a,la) (by simp)
  have hb:=hl (b,lb) (by simp)
  have hab:a<b:=by simpa using hs
  dsimp only at ha hb
  obtain rfl:a=0:=by omega
  obtain rfl:b=1:=by omega
  have hi:i=0\/i=1:=by
   rcases Nat.lt_or_ge i 2 with h|h
   ·omega
   ·rw[List.getElem?_eq_none (by simp;omega)]at hx;cases hx
  rcases hi with rfl|rfl
  ·simp at hx; subst hx
   exact nameW e0_2 (Wk.fsl ⟨Wk.refl _,Wk.any,Wk.refl _,Wk.any,trivial⟩) Wk.any hn
  ·simp at hx; subst hx
   obtain⟨h3,h4⟩:=hne (0,la) (by simp)
   match la,h3,h4 with
   |[],h,_=>exact absurd rfl h
   |[p],_,_=>exact nameW e1_2a (Wk.fsl ⟨Wk.refl _,Wk.fsl ⟨Wk.any,Wk.any,trivial⟩,Wk.refl _,Wk.any,trivial⟩) Wk.any hn
   |[p,q],_,_=>exact nameW e1_2b (Wk.fsl ⟨Wk.refl _,Wk.fsl ⟨Wk.any,Wk.any,Wk.any,Wk.any,trivial⟩,Wk.refl _,Wk.any,trivial⟩) Wk.any hn
   |[p,q,r],_,_=>exact nameW e1_2c (Wk.fsl ⟨Wk.refl _,Wk.fsl ⟨Wk.any,Wk.any,Wk.any,Wk.any,Wk.any,Wk.any,trivial⟩,Wk.refl _,Wk.any,trivial⟩) Wk.any hn
theorem nameK {S X:AV} {ks:List (List (Nat×Int)×Int)} {x:List (Nat×Int)×Int} (hx:ks=[x]) (hn:noRefs [S,X,cos ks]=true):
  PSpec Tryz.prog 102 [.str [107],.fn 104 [] [.fptr [S,X,cos ks],.fptr [.int .i64 0]]] (.int .i64 0):=by
 subst hx
 exact nameW k_1 Wk.any (Wk.fsl ⟨Wk.refl _,Wk.any,Wk.any,trivial⟩) hn
end
end Go.AM.SN
namespace Go.AM.SO
open Go.Proofs Go.AM.SD Go.AM.SE
theorem great190 (n:Int) (h1: -65536<=n) (h2:n<=65536):PSpec Tryz.prog 190 [.int .i64 n] (.bool false):=by
 refine PSpec.Qau 64 ok190 rfl rfl rfl ?_
 have g1:¬n< -65536:=by omega
 have g2:¬65536<n:=by omega
 simp(disch:=first|omega|(simp only[lenW]<;>omega)) only[s190,g1,g2,wV,simprocAttr]
 exact⟨.inr trivial,_,rfl,rfl⟩
abbrev cdC (S:List Nat) (xs:List (Nat×List (Nat×Nat))) (ks:List (List (Nat×Int)×Int)):List AV:=[sliN S,exs xs,cos ks]
abbrev cdV (S:List Nat) (xs:List (Nat×List (Nat×Nat))) (ks:List (List (Nat×Int)×Int)):AV:= .agg (cdC S xs ks)
theorem Qbz {S:List Nat} {xs:List (Nat×List (Nat×Nat))} {ks:List (List (Nat×Int)×Int)}:noRefs (cdC S xs ks)=true:=by
 rw[cdC,noRefs,noRefs,noRefs,Qab,SU.Qa1,SU.QcT];rfl
theorem QkR {l:List (Nat×Nat)} {i:Nat} {x:Nat×Nat} (h:l[i]?=some x):(l.flatMap loC).drop (i*2)= .int .i64 (x.1:Int):: .int .i64 (x.2:Int)::(l.drop (i+1)).flatMap loC:=Qbm (f:=loC) (k:=2) (fun _=>rfl) h
theorem pw_at {l:List Nat} (h:l.Pairwise (· < ·)) {i:Nat} {x y:Nat} (hx:l[i]?=some x) (hy:l[i+1]?=some y):x<y:=by
 have hi:i+1<l.length:=by
  rcases Nat.lt_or_ge (i+1) l.length with h|h
  ·exact h
  ·rw[List.getElem?_eq_none h]at hy;cases hy
 rw[List.getElem?_eq_getElem (by omega)]at hx
 rw[List.getElem?_eq_getElem hi]at hy
 cases hx;cases hy
 exact List.pairwise_iff_getElem.1 h i (i+1) (by omega) hi (Nat.lt_succ_self _)
theorem _root_.Go.AM.au16 {p:Prop} (h:p:=by repeat (first|exact RT.nil|(refine RT.cons ?_ ?_; · (first|exact Rn.any|exact Rn.x1 rfl rfl|exact Rn.x2 rfl rfl|exact Rn.x3 rfl rfl|exact Rn.x4 rfl rfl|exact Rn.x5 rfl|exact Rn.x6 rfl|exact Rn.x7 rfl|(refine Rn.slot ?_ ?_;(first|rfl|(rw[Int.natCast_add];rfl));(first|rfl|(simp only[noRef,noRefs,Qai,Bool.and_self,Bool.and_true,Bool.true_and,Qaa,Qay,Qab,SU.Qbx,SU.QaO,SU.QbR,SU.Qa8,SU.QdB];done)))|(refine Rn.fn ?_ ?_<;>(repeat' (first|exact RnL.nil|refine RnL.cons ?_ ?_|exact Rn.same rfl|exact Rn.x6 rfl|exact Rn.x2 rfl rfl|exact Rn.x5 rfl|exact Rn.x1 rfl rfl))))))):p:=h
theorem excl103 (S:List Nat) (xs:List (Nat×List (Nat×Nat))) (ks:List (List (Nat×Int)×Int)) (x:Nat×List (Nat×Nat)) (hS:S.length<=8) (hS3:∀s∈S,s<=4096) (hl:x.2.length<=1000) (hne:x.2≠[]) (hp:(x.2.map (·.1)).Pairwise (· < ·)) (hs:∀l∈x.2,∃n,S[l.1]?=some n/\l.2<n):
    PSpec Tryz.prog 103 [cdV S xs ks,.agg (exC x)] (.int .i64 0):=by
  obtain⟨nm,l⟩:=x
  dsimp only at hl hne hp hs
  have hex:exC (nm,l)=[.str [101,UInt8.ofNat (48+nm)],los l]:=rfl
  rw[hex]
  have hnr1:=@Qbz S xs ks
  have hnr2:noRefs [.str [101,UInt8.ofNat (48+nm)],los l]=true:=by rw[noRefs,noRefs,SU.QdA];rfl
  refine PSpec.Qau 64 ok103 rfl (by rw[noRefs,noRefs,noRef,noRef,hnr1,hnr2];rfl) rfl ?_
  have hl0:¬(l.length:Int)=0:=by
    have:=List.length_pos_iff.2 hne
    omega
  have hll:=SU.QgB l
  simp(disch:=first|omega|(simp only[lenW]<;>omega)) only[s103,hl0,wV,simprocAttr]
  refine QaJ 100 (fun i:Nat=>[(2,.ptr 50 0 0),(3,.ptr 51 0 0),(12,los l),(13,.int .i64 l.length),(14,.int .i64 i)]) (fun _=>[(50,.cells 0 (cdC S xs ks)),(51,.cells 0 [.str [101,UInt8.ofNat (48+nm)],los l])]) (fun i=>i<=l.length) (fun i=>l.length-i) 0 ⟨[(50,.blk 64 0),(51,.blk 65 0)],rfl,au0,?_,au16⟩ (Nat.zero_le _) ?_
  · exact RB.cells rfl rfl gg (RnL.same hnr1) (RB.cells rfl rfl gg (RnL.same hnr2) RB.nil)
  rintro i hi
  by_cases hlt:i<l.length
  · obtain ⟨⟨c, s⟩, hcs⟩ := Qak hlt
    obtain⟨n,hn,hsn⟩:=hs _ (List.mem_of_getElem? hcs)
    dsimp only at hn hsn
    have hcl:c<S.length:=by
      rcases Nat.lt_or_ge c S.length with h|h
      · exact h
      · rw[List.getElem?_eq_none h]at hn;cases hn
    have hn4:=hS3 n (List.mem_of_getElem? hn)
    have hdr:=QkR hcs
    have hdl:2<=((l.flatMap loC).drop (i*2)).length:=by rw[hdr];simp
    have h1:¬(c:Int)<0:=by omega
    have h2:¬(S.length:Int)<=(c:Int):=by omega
    have h3:¬(s:Int)<0:=by omega
    have h4:¬(n:Int)<=(s:Int):=by omega
    cases i with
    | zero =>
      have h0:¬(0:Int)<((0:Nat):Int):=by omega
      simp(disch:=first|omega|(simp only[lenW]<;>omega)) only[hlt,hdr,hdl,h0,h1,h2,h3,h4,QaI hn,hcl,wV,simprocAttr]
      refine⟨1,by omega,by omega,?_⟩
      refine⟨[(50,.blk 50 0),(51,.blk 51 0)],rfl,au0,?_,au16⟩
      exact RB.cells rfl rfl gg (RnL.same hnr1) (RB.cells rfl rfl gg (RnL.same hnr2) RB.nil)
    | succ j =>
      obtain⟨⟨c',s'⟩,hcs'⟩:=Qak (l:=l) (i:=j) (by omega)
      have hdr':=QkR hcs'
      have hcc:c'<c:=pw_at hp (i:=j) (by rw[List.getElem?_map,hcs'];rfl) (by rw[List.getElem?_map,hcs];rfl)
      have h0:(0:Int)<((j+1:Nat):Int):=by omega
      have h5:¬(c:Int)<=(c':Int):=by omega
      have h6:((j+1:Nat):Int)-1=(j:Int):=by omega
      have h7:j<l.length:=by omega
      have hle:((j+1:Nat):Int)<(l.length:Int):=by omega
      have hJt:((j+1:Nat):Int).toNat=j+1:=by omega
      have hJ2:0<=((j+1:Nat):Int):=by omega
      generalize hJJ:((j+1:Nat):Int)=J at*
      simp(disch:=first|omega|(simp only[lenW]<;>omega)) only[hlt,hle,hJt,hJ2,hdr,hdr',hdl,h0,h1,h2,h3,h4,h5,h6,h7,QaI hn,hcl,wV,simprocAttr]
      refine⟨j+2,by omega,by omega,?_⟩
      have hJ3:J+1=((j+2:Nat):Int):=by omega
      rw[hJ3]
      refine⟨[(50,.blk 50 0),(51,.blk 51 0)],rfl,au0,?_,au16⟩
      exact RB.cells rfl rfl gg (RnL.same hnr1) (RB.cells rfl rfl gg (RnL.same hnr2) RB.nil)
  · simp (disch := first | omega | (simp only [lenW] <;> omega)) only [hlt, wV, simprocAttr]
    exact⟨.inr trivial,_,rfl,rfl⟩
theorem cons105 (S:List Nat) (xs:List (Nat×List (Nat×Nat))) (ks:List (List (Nat×Int)×Int)) (x:List (Nat×Int)×Int) (hS:S.length<=8) (hl:x.1.length<=1000) (hne:x.1≠[]) (hp:(x.1.map (·.1)).Pairwise (· < ·)) (hs:∀l∈x.1,l.1<S.length/\l.2≠0/\ -65536<=l.2/\l.2<=65536) (hb: -65536<=x.2/\x.2<=65536):
    PSpec Tryz.prog 105 [cdV S xs ks,.agg (coC x)] (.int .i64 0):=by
  obtain⟨l,bd⟩:=x
  dsimp only at hl hne hp hs hb
  have hex:coC (l,bd)=[.str [107],tes l,.int .i64 bd]:=rfl
  rw[hex]
  have hnr1:=@Qbz S xs ks
  have hnr2:noRefs [.str [107],tes l,.int .i64 bd]=true:=by rw[noRefs,noRefs,SU.QcS];rfl
  refine PSpec.Qau 64 ok105 rfl (by rw[noRefs,noRefs,noRef,noRef,hnr1,hnr2];rfl) rfl ?_
  have hl0:¬(l.length:Int)=0:=by
    have:=List.length_pos_iff.2 hne
    omega
  have hll:=SU.QcR l
  have hgb:=great190 bd hb.1 hb.2
  simp(disch:=first|omega|(simp only[lenW]<;>omega)) only[s105,hl0,wV,simprocAttr]
  refine QaJ 100 (fun i:Nat=>[(2,.ptr 50 0 0),(3,.ptr 51 0 0),(12,tes l),(13,.int .i64 l.length),(14,.int .i64 i)]) (fun _=>[(50,.cells 0 (cdC S xs ks)),(51,.cells 0 [.str [107],tes l,.int .i64 bd])]) (fun i=>i<=l.length) (fun i=>l.length-i) 0 ⟨[(50,.blk 64 0),(51,.blk 65 0)],rfl,au0,?_,au16⟩ (Nat.zero_le _) ?_
  · exact RB.cells rfl rfl gg (RnL.same hnr1) (RB.cells rfl rfl gg (RnL.same hnr2) RB.nil)
  rintro i hi
  by_cases hlt:i<l.length
  · obtain ⟨⟨c, s⟩, hcs⟩ := Qak hlt
    obtain⟨hcl,hs0,hsa,hsb⟩:=hs _ (List.mem_of_getElem? hcs)
    dsimp only at hcl hs0 hsa hsb
    have hdr:=SU.Qc6 hcs
    have hdl:2<=((l.flatMap teC).drop (i*2)).length:=by rw[hdr];simp
    have h1:¬(c:Int)<0:=by omega
    have h2:¬(S.length:Int)<=(c:Int):=by omega
    have hgs:=great190 s hsa hsb
    cases i with
    | zero =>
      have h0:¬(0:Int)<((0:Nat):Int):=by omega
      simp(disch:=first|omega|(simp only[lenW]<;>omega)) only[hlt,hdr,hdl,h0,h1,h2,hs0,wV,simprocAttr]
      refine cp hgs ?_
      simp(disch:=first|omega|(simp only[lenW]<;>omega)) only[wV,simprocAttr]
      refine⟨1,by omega,by omega,?_⟩
      refine⟨[(50,.blk 50 0),(51,.blk 51 0)],rfl,au0,?_,au16⟩
      exact RB.cells rfl rfl gg (RnL.same hnr1) (RB.cells rfl rfl gg (RnL.same hnr2) RB.nil)
    | succ j =>
      obtain⟨⟨c',s'⟩,hcs'⟩:=Qak (l:=l) (i:=j) (by omega)
      have hdr':=SU.Qc6 hcs'
      have hcc:c'<c:=pw_at hp (i:=j) (by rw[List.getElem?_map,hcs'];rfl) (by rw[List.getElem?_map,hcs];rfl)
      have h0:(0:Int)<((j+1:Nat):Int):=by omega
      have h5:¬(c:Int)<=(c':Int):=by omega
      have h6:((j+1:Nat):Int)-1=(j:Int):=by omega
      have h7:j<l.length:=by omega
      have hle:((j+1:Nat):Int)<(l.length:Int):=by omega
      have hJt:((j+1:Nat):Int).toNat=j+1:=by omega
      have hJ2:0<=((j+1:Nat):Int):=by omega
      generalize hJJ:((j+1:Nat):Int)=J at*
      simp(disch:=first|omega|(simp only[lenW]<;>omega)) only[hlt,hle,hJt,hJ2,hdr,hdr',hdl,h0,h1,h2,hs0,h5,h6,h7,wV,simprocAttr]
      refine cp hgs ?_
      simp(disch:=first|omega|(simp only[lenW]<;>omega)) only[wV,simprocAttr]
      refine⟨j+2,by omega,by omega,?_⟩
      have hJ3:J+1=((j+2:Nat):Int):=by omega
      rw[hJ3]
      refine⟨[(50,.blk 50 0),(51,.blk 51 0)],rfl,au0,?_,au16⟩
      exact RB.cells rfl rfl gg (RnL.same hnr1) (RB.cells rfl rfl gg (RnL.same hnr2) RB.nil)
  · simp (disch := first | omega | (simp only [lenW] <;> omega)) only [hlt, wV, simprocAttr]
    refine cp hgb ?_
    simp(disch:=first|omega|(simp only[lenW]<;>omega)) only[wV,simprocAttr]
    exact⟨.inr trivial,_,rfl,rfl⟩
end Go.AM.SO
namespace Go.AM.SQ
open Go.Proofs
def s32:SFn:=⟨89,[.tmp 2],
 (.seq (.region [Zz 1 (.box .dyn (.t 0)) [],
 Zz 2 (.mov (.c (.int .i64 0))) []] [] [0,2])
 (.seq (.seq (.region [Zf 15 0 1 [],
 Zl 16 15 [0],
 Zv 17 16 [1],
 Zz 18 (.bin .gtr (.t 17) (.c (.int .i64 8))) [2]] [] [15,16,17])
 (.cond (.t 18)
 (.seq (.region [Zz 2 (.mov (.c (.int .i64 3))) []] [] [1,18])
 .ret)
 .skip))
 (.seq (.seq (.region [Zf 19 0 1 [],
 Zl 20 19 [0],
 Zv 21 20 [1],
 Zz 22 (.mov (.c (.int .i64 0))) []] [] [2,18,19])
 (.block 0 (.loop (.seq (.region [Zb 23 .lss 22 21 []] [] [])
 (.seq (.cond (.t 23)
 .skip
 (.exit 0))
 (.seq (.block 1 (.seq (.region [Zi 24 1 20 22 [],
 Zl 25 24 [0],
 Zm 4 25 [1,0,1]] [] [23,24,25])
 (.seq (.region [Zm 26 4 [],
 Zz 27 (.bin .lss (.t 26) (.c (.int .i64 1))) [0],
 Zm 28 27 [1],
 Zx 29 (.mov (.t 4)) [2] 28 false,
 Zx 30 (.bin .gtr (.t 29) (.c (.int .i64 4096))) [3,2] 28 false,
 Zz 31 (.pick (.t 28) (.c (.bool true)) (.t 30)) [2,4]] [] [4,26,27,28])
 (.cond (.t 31)
 (.seq (.region [Zz 2 (.mov (.c (.int .i64 2))) []] [] [1,20,21,22,30,29,41,40,39,38,31])
 .ret)
 .skip))))
 (.region [Zz 32 (.bin .add (.t 22) (.c (.int .i64 1))) [],
 Zm 22 32 [0]] [] [2,31,32])))))))
 (.seq (.seq (.region [Zf 33 1 1 [],
 Zl 34 33 [0],
 Zv 35 34 [1],
 Zz 36 (.bin .gtr (.t 35) (.c (.int .i64 32))) [2],
 Zm 37 36 [3],
 Zx 38 (.faddr 2 (.t 1)) [4] 37 false,
 Zx 39 (.load none (.t 38)) [5,4] 37 false,
 Zx 40 (.len 1 (.t 39)) [6,4] 37 false,
 Zx 41 (.bin .gtr (.t 40) (.c (.int .i64 32))) [7,4] 37 false,
 Zz 42 (.pick (.t 37) (.c (.bool true)) (.t 41)) [4,8]] [] [20,21,22,30,29,41,40,39,38,33,34,35,36,37])
 (.cond (.t 42)
 (.seq (.region [Zz 2 (.mov (.c (.int .i64 3))) []] [] [1,42])
 .ret)
 .skip))
 (.seq (.seq (.region [Zf 43 1 1 [],
 Zl 44 43 [0],
 Zv 45 44 [1],
 Zz 46 (.mov (.c (.int .i64 0))) []] [] [2,42,43])
 (.block 2 (.loop (.seq (.region [Zb 47 .lss 46 45 []] [] [])
 (.seq (.cond (.t 47)
 .skip
 (.exit 2))
 (.seq (.block 3 (.seq (.region [Zm 48 46 [],
 Zi 49 2 44 46 [],
 Zw 50 2 49 [1],
 Zz 5 (.alloc .dyn (.int .i64 0)) [],
 Zz 6 (.alloc .dyn (.agg [(.str []),.nilsl])) [],
 Zs 1 5 48 (Za [3,0] 5),
 Zs 2 6 50 (Za [4,2,5] 6)] [] [47,48,49,50])
 (.seq (.region [Zz 51 (.mkfn 101 [] [(.t 1),(.t 5)]) [],
 Zm 7 51 [0,0]] [] [5,51])
 (.seq (.seq (.region [Zf 52 0 6 [],
 Zl 53 52 [0],
 Zm 54 7 [],
 Zz 55 (.call .heap (.f 102) [(.t 53),(.t 54)]) [1,2],
 Zm 8 55 [3,3,0,1,2,3]] [] [7,52,53,54,55])
 (.seq (.region [Zm 56 8 [],
 Zz 57 (.bin .neq (.t 56) (.c (.int .i64 0))) [0]] [] [56])
 (.cond (.t 57)
 (.seq (.region [Zm 58 8 [],
 Zm 2 58 [0,0]] [] [1,44,45,46,6,8,57,58])
 .ret)
 .skip)))
 (.seq (.region [Zw 59 3 1 [],
 Zw 60 2 6 [],
 Zz 61 (.call .pure (.f 103) [(.t 59),(.t 60)]) [0,1],
 Zm 9 61 [2,2,0,1,2]] [] [2,6,8,57,59,60,61])
 (.seq (.region [Zm 62 9 [],
 Zz 63 (.bin .neq (.t 62) (.c (.int .i64 0))) [0]] [] [62])
 (.cond (.t 63)
 (.seq (.region [Zm 64 9 [],
 Zm 2 64 [0,0]] [] [1,44,45,46,9,63,64])
 .ret)
 .skip)))))))
 (.region [Zz 65 (.bin .add (.t 46) (.c (.int .i64 1))) [],
 Zm 46 65 [0]] [] [2,9,63,65])))))))
 (.seq (.seq (.region [Zf 66 2 1 [],
 Zl 67 66 [0],
 Zv 68 67 [1],
 Zz 69 (.mov (.c (.int .i64 0))) []] [] [44,45,46,66])
 (.block 4 (.loop (.seq (.region [Zb 70 .lss 69 68 []] [] [])
 (.seq (.cond (.t 70)
 .skip
 (.exit 4))
 (.seq (.block 5 (.seq (.region [Zm 71 69 [],
 Zi 72 3 67 69 [],
 Zw 73 3 72 [1],
 Zz 10 (.alloc .dyn (.int .i64 0)) [],
 Zz 11 (.alloc .dyn (.agg [(.str []),.nilsl,(.int .i64 0)])) [],
 Zs 1 10 71 (Za [3,0] 5),
 Zs 3 11 73 (Za [4,2,5] 6)] [] [70,71,72,73])
 (.seq (.region [Zz 74 (.mkfn 104 [] [(.t 1),(.t 10)]) [],
 Zm 12 74 [0,0]] [] [10,74])
 (.seq (.seq (.region [Zf 75 0 11 [],
 Zl 76 75 [0],
 Zm 77 12 [],
 Zz 78 (.call .heap (.f 102) [(.t 76),(.t 77)]) [1,2],
 Zm 13 78 [3,3,0,1,2,3]] [] [12,75,76,77,78])
 (.seq (.region [Zm 79 13 [],
 Zz 80 (.bin .neq (.t 79) (.c (.int .i64 0))) [0]] [] [79])
 (.cond (.t 80)
 (.seq (.region [Zm 81 13 [],
 Zm 2 81 [0,0]] [] [1,67,68,69,11,13,80,81])
 .ret)
 .skip)))
 (.seq (.region [Zw 82 3 1 [],
 Zw 83 3 11 [],
 Zz 84 (.call .pure (.f 105) [(.t 82),(.t 83)]) [0,1],
 Zm 14 84 [2,2,0,1,2]] [] [2,11,13,80,82,83,84])
 (.seq (.region [Zm 85 14 [],
 Zz 86 (.bin .neq (.t 85) (.c (.int .i64 0))) [0]] [] [85])
 (.cond (.t 86)
 (.seq (.region [Zm 87 14 [],
 Zm 2 87 [0,0]] [] [1,67,68,69,14,86,87])
 .ret)
 .skip)))))))
 (.region [Zz 88 (.bin .add (.t 69) (.c (.int .i64 1))) [],
 Zm 69 88 [0]] [] [2,14,86,88])))))))
 (.seq (.region [Zz 2 (.mov (.c (.int .i64 0))) []] [] [1,67,68,69])
 .ret)))))))⟩
theorem ok32:okFn Tryz.prog 32 s32=true:=by kernel_rfl
end Go.AM.SQ
namespace Go.AM.SO
open Go.Proofs Go.AM.SD Go.AM.SE
def szs (c:Cel):List Nat:=c.cs.map (·.2.n)
theorem WfCel.comp {c:Cel} (h:WfCel c) {x:Nat×List (Nat×Nat)} (hx:x∈c.xs):∀l∈x.2,∃n,(szs c)[l.1]?=some n/\l.2<n:=fun l hl=>by
 obtain⟨y,h1,h2⟩:=(h.xl x hx).2.2 l hl
 exact⟨y.2.n,by unfold szs;rw[List.getElem?_map,h1];rfl,h2⟩
theorem WfCel.xlen {c:Cel} (h:WfCel c) {x:Nat×List (Nat×Nat)} (hx:x∈c.xs):x.2.length<=3:=by
  have h1:=QaQ c.cs.length (x.2.map (·.1)) (by rw[List.nodup_iff_pairwise_ne];exact(h.xl x hx).2.1.imp fun h=>by omega) (fun y hy=>by
    obtain⟨l,hl,rfl⟩:=List.mem_map.1 hy
    obtain⟨z,h1,_⟩:=(h.xl x hx).2.2 l hl
    rcases Nat.lt_or_ge l.1 c.cs.length with h|h
    · exact h
    · rw[List.getElem?_eq_none h]at h1;cases h1)
  rw[List.length_map]at h1
  exact Nat.le_trans h1 h.c3
theorem WfCel.klen {c:Cel} (h:WfCel c) {x:List (Nat×Int)×Int} (hx:x∈c.ks):x.1.length<=3:=by
  have h1:=QaQ c.cs.length (x.1.map (·.1)) (by rw[List.nodup_iff_pairwise_ne];exact(h.kl x hx).2.1.imp fun h=>by omega) (fun y hy=>by
    obtain⟨l,hl,rfl⟩:=List.mem_map.1 hy
    exact((h.kl x hx).2.2.1 l hl).1)
  rw[List.length_map]at h1
  exact Nat.le_trans h1 h.c3
theorem WfCel.slen {c:Cel} (h:WfCel c):(szs c).length=c.cs.length:=by simp[szs]
theorem WfCel.sz {c:Cel} (h:WfCel c):∀s∈szs c,1<=s/\s<=3:=fun s hs=>by
 obtain⟨x,hx,rfl⟩:=List.mem_map.1 hs
 exact⟨(h.ca x hx).pos,(h.ca x hx).n3⟩
theorem QkS {l:List (Nat×List (Nat×Nat))} {i:Nat} {x:Nat×List (Nat×Nat)} (h:l[i]?=some x):(l.flatMap exC).drop (i*2)= .str [101,UInt8.ofNat (48+x.1)]::los x.2::(l.drop (i+1)).flatMap exC:=Qbm (f:=exC) (k:=2) (fun _=>rfl) h
theorem QkT {l:List (List (Nat×Int)×Int)} {i:Nat} {x:List (Nat×Int)×Int} (h:l[i]?=some x):(l.flatMap coC).drop (i*3)= .str [107]::tes x.1:: .int .i64 x.2::(l.drop (i+1)).flatMap coC:=Qbm (f:=coC) (k:=3) (fun _=>rfl) h
theorem QgC (l:List (List (Nat×Int)×Int)):(l.flatMap coC).length=l.length*3:=Qbr (k:=3) (fun _=>rfl) l
theorem conds32 (c:Cel) (h:WfCel c):PSpec Tryz.prog 32 [cdV (szs c) c.xs c.ks] (.int .i64 0):=by
  have hnr:=@Qbz (szs c) c.xs c.ks
  refine PSpec.Qau 64 SQ.ok32 rfl (by rw[noRefs,noRef,hnr];rfl) rfl ?_
  have hsl:=h.slen
  have hc3:=h.c3
  have hx2:=h.x2
  have hk1:=h.k1
  have g1:¬(8:Int)<((szs c).length:Int):=by omega
  have g2:¬(32:Int)<(c.xs.length:Int):=by omega
  have g3:¬(32:Int)<(c.ks.length:Int):=by omega
  have hxn:∀x∈c.xs,x.2≠[]/\x.2.length<=3:=fun x hx=>⟨(h.xl x hx).1,h.xlen hx⟩
  simp(disch:=first|omega|(simp only[lenW]<;>omega)) only[SQ.s32,g1,wW,wV,simprocAttr]
  refine Qar 100 (fun i:Nat=>[(1,.ptr 50 0 0),(20,sliN (szs c)),(21,.int .i64 (szs c).length),(22,.int .i64 i)]) (fun _=>[(50,.cells 0 (cdC (szs c) c.xs c.ks))]) (fun i=>i<=(szs c).length) (fun i=>(szs c).length-i) 0 0 140
    (fun _:Unit=>[(1,.ptr 50 0 0)]) (fun _=>[(50,.cells 0 (cdC (szs c) c.xs c.ks))]) (fun _=>True) ⟨[(50,.blk 64 0)],rfl,au0,?_,au16⟩ (Nat.zero_le _) ?_ ?_
  · exact RB.cells rfl rfl gg (RnL.same hnr) RB.nil
  · rintro i hi
    by_cases hlt:i<(szs c).length
    · obtain ⟨s, hs⟩ := Qak hlt
      obtain⟨hs1,hs3⟩:=h.sz s (List.mem_of_getElem? hs)
      have q1:¬(s:Int)<1:=by omega
      have q2:¬(4096:Int)<(s:Int):=by omega
      simp(disch:=first|omega|(simp only[lenW]<;>omega)) only[hlt,QaI hs,q1,q2,wW,wV,simprocAttr]
      refine⟨i+1,by omega,by omega,?_⟩
      refine⟨[(50,.blk 50 0)],rfl,au0,?_,au16⟩
      exact RB.cells rfl rfl gg (RnL.same hnr) RB.nil
    · simp (disch := first | omega | (simp only [lenW] <;> omega)) only [hlt, wW, wV, simprocAttr]
      refine⟨(),?_⟩
      refine⟨[(50,.blk 50 0)],rfl,au0,?_,au16⟩
      exact RB.cells rfl rfl gg (RnL.same hnr) RB.nil
  rintro _ _
  simp(disch:=first|omega|(simp only[lenW]<;>omega)) only[g2,g3,wW,wV,simprocAttr]
  refine Qar 200 (fun i:Nat=>[(1,.ptr 50 0 0),(44,exs c.xs),(45,.int .i64 c.xs.length),(46,.int .i64 i)]) (fun _=>[(50,.cells 0 (cdC (szs c) c.xs c.ks))]) (fun i=>i<=c.xs.length) (fun i=>c.xs.length-i) 0 2 240
    (fun _:Unit=>[(1,.ptr 50 0 0)]) (fun _=>[(50,.cells 0 (cdC (szs c) c.xs c.ks))]) (fun _=>True) ⟨[(50,.blk 50 0)],rfl,au0,?_,au16⟩ (Nat.zero_le _) ?_ ?_
  · exact RB.cells rfl rfl gg (RnL.same hnr) RB.nil
  · rintro i hi
    by_cases hlt:i<c.xs.length
    · obtain ⟨x, hx⟩ := Qak hlt
      have hxm:=List.mem_of_getElem? hx
      have hdr:=QkS hx
      have hdl:2<=((c.xs.flatMap exC).drop (i*2)).length:=by rw[hdr];simp
      have hN:=SN.nameX hx hx2 h.xn.1 h.xn.2 hxn hnr
      have hE:=excl103 (szs c) c.xs c.ks x (by omega) (fun s hs=>by have:=h.sz s hs;omega) (by have:=h.xlen hxm;omega) (h.xl x hxm).1 (h.xl x hxm).2.1 (h.comp hxm)
      have hex:exC x=[.str [101,UInt8.ofNat (48+x.1)],los x.2]:=rfl
      rw[hex]at hE
      simp(disch:=first|omega|(simp only[lenW]<;>omega)) only[hlt,hdr,hdl,wW,wV,simprocAttr]
      refine SU.chc (HSpec.lend (FrzL.cons (FrzTo.same _) (FrzL.cons (FrzTo.fn FrzL.nil (FrzL.cons (FrzTo.ptr (g:=0) (cs:=cdC (szs c) c.xs c.ks) gg (FrzL.same _)) (FrzL.cons (FrzTo.ptr (g:=0) (cs:=[.int .i64 (i:Int)]) gg (FrzL.same _)) FrzL.nil))) FrzL.nil)) hN rfl) ?_
      simp(disch:=first|omega|(simp only[lenW]<;>omega)) only[wW,wV,simprocAttr]
      refine cp hE ?_
      simp(disch:=first|omega|(simp only[lenW]<;>omega)) only[wW,wV,simprocAttr]
      refine⟨i+1,by omega,by omega,?_⟩
      refine⟨[(50,.blk 50 0)],rfl,au0,?_,au16⟩
      exact RB.cells rfl rfl gg (RnL.same hnr) RB.nil
    · simp (disch := first | omega | (simp only [lenW] <;> omega)) only [hlt, wW, wV, simprocAttr]
      refine⟨(),?_⟩
      refine⟨[(50,.blk 50 0)],rfl,au0,?_,au16⟩
      exact RB.cells rfl rfl gg (RnL.same hnr) RB.nil
  rintro _ _
  simp(disch:=first|omega|(simp only[lenW]<;>omega)) only[wW,wV,simprocAttr]
  refine QaJ 300 (fun i:Nat=>[(1,.ptr 50 0 0),(67,cos c.ks),(68,.int .i64 c.ks.length),(69,.int .i64 i)]) (fun _=>[(50,.cells 0 (cdC (szs c) c.xs c.ks))]) (fun i=>i<=c.ks.length) (fun i=>c.ks.length-i) 0 ⟨[(50,.blk 50 0)],rfl,au0,?_,au16⟩ (Nat.zero_le _) ?_
  · exact RB.cells rfl rfl gg (RnL.same hnr) RB.nil
  rintro i hi
  by_cases hlt:i<c.ks.length
  · obtain ⟨x, hx⟩ := Qak hlt
    have hi0:i=0:=by omega
    subst hi0
    have hxm:=List.mem_of_getElem? hx
    have hdr:=QkT hx
    rw[Nat.zero_mul]at hdr
    have hdl:3<=(c.ks.flatMap coC).length:=by rw[QgC];omega
    have hks:c.ks=[x]:=by
      match hk:c.ks,hx,hk1 with
      |[y],hx,_=>simp at hx;rw[hx]
    have hN:=SN.nameK (S:=sliN (szs c)) (X:=exs c.xs) hks hnr
    obtain⟨k1,k2,k3,k4,k5⟩:=h.kl x hxm
    have hE:=cons105 (szs c) c.xs c.ks x (by omega) (by have:=h.klen hxm;omega) k1 k2 (fun l hl=>by obtain⟨q1,q2,q3,q4⟩:=k3 l hl;exact⟨by omega,q2,by omega,by omega⟩) ⟨by omega,by omega⟩
    have hex:coC x=[.str [107],tes x.1,.int .i64 x.2]:=rfl
    rw[hex]at hE
    have hlt0:(0:Int)<(c.ks.length:Int):=by omega
    rw[List.drop_zero]at hdr
    have htk:List.take 3 (c.ks.flatMap coC)=[.str [107],tes x.1,.int .i64 x.2]:=by rw[hdr];rfl
    simp(disch:=first|omega|(simp only[lenW]<;>omega)) only[hlt,hlt0,htk,hdl,wW,wV,simprocAttr]
    refine SU.chc (HSpec.lend (FrzL.cons (FrzTo.same _) (FrzL.cons (FrzTo.fn FrzL.nil (FrzL.cons (FrzTo.ptr (g:=0) (cs:=cdC (szs c) c.xs c.ks) gg (FrzL.same _)) (FrzL.cons (FrzTo.ptr (g:=0) (cs:=[.int .i64 0]) gg (FrzL.same _)) FrzL.nil))) FrzL.nil)) hN rfl) ?_
    simp(disch:=first|omega|(simp only[lenW]<;>omega)) only[wW,wV,simprocAttr]
    refine cp hE ?_
    simp(disch:=first|omega|(simp only[lenW]<;>omega)) only[wW,wV,simprocAttr]
    refine⟨1,by omega,by omega,?_⟩
    refine⟨[(50,.blk 50 0)],rfl,au0,?_,au16⟩
    exact RB.cells rfl rfl gg (RnL.same hnr) RB.nil
  · simp (disch := first | omega | (simp only [lenW] <;> omega)) only [hlt, wW, wV, simprocAttr]
    exact⟨.inr trivial,_,rfl,rfl⟩
end Go.AM.SO
namespace Go.AM.SO
open Go.Proofs Go.AM.SD Go.AM.SE
theorem QfX {α:Type} {f:α->List AV} (hf:∀x,(f x).all AV.one=true):∀l:List α,(l.flatMap f).all AV.one=true
 |[]=>rfl
 |x::l=>by rw[List.flatMap_cons,List.all_append,hf,QfX hf l];rfl
theorem clone148 (l:List (Nat×Nat)) (hl:l.length<=1000) (hne:l≠[]):PSpec Tryz.prog 148 [los l] (los l):=by
 refine PSpec.of_rn 100 ok148 rfl (by rw[noRefs,SU.QdA];rfl) (SU.QdA _) ?_
 have hq:aEqN false (los l)= .ret (.bool false):=by
  match l,hne with
  |x::l,_=>rfl
 have hone:(l.flatMap loC).all AV.one=true:=QfX (fun _=>rfl) l
 have hln:=SU.QgB l
 simp(disch:=first|omega|(simp only[lenW]<;>omega)) only[s148,hq,hone,hln,wW,wV,simprocAttr]
 exact⟨.inr trivial,_,rfl,Rn.fz0 rfl hln (RnL.same (SU.Qbx _))⟩
theorem clone149 (l:List (Nat×Int)) (hl:l.length<=1000) (hne:l≠[]):PSpec Tryz.prog 149 [tes l] (tes l):=by
 refine PSpec.of_rn 100 ok149 rfl (by rw[noRefs,SU.QcS];rfl) (SU.QcS _) ?_
 have hq:aEqN false (tes l)= .ret (.bool false):=by
  match l,hne with
  |x::l,_=>rfl
 have hone:(l.flatMap teC).all AV.one=true:=QfX (fun _=>rfl) l
 have hln:=SU.QcR l
 simp(disch:=first|omega|(simp only[lenW]<;>omega)) only[s149,hq,hone,hln,wW,wV,simprocAttr]
 exact⟨.inr trivial,_,rfl,Rn.fz0 rfl hln (RnL.same (SU.QaO _))⟩
theorem take_succ' {α:Type} {l:List α} {i:Nat} {x:α} (h:l[i]?=some x):l.take (i+1)=l.take i++[x]:=by
 rw[List.take_add_one,h];rfl
theorem Qpo {x:Nat×List (Nat×Nat)}:List.flatMap exC [x]=[.str [101,UInt8.ofNat (48+x.1)],los x.2]:=rfl
theorem Qpp {x:List (Nat×Int)×Int}:List.flatMap coC [x]=[.str [107],tes x.1,.int .i64 x.2]:=rfl
theorem conds85 (c:Cel) (h:WfCel c):PSpec Tryz.prog 85 [celV c] (cdV (szs c) c.xs c.ks):=by
  have hnr:noRefs [evsV c.ev,its 99 c.cs,its 114 c.rs,exs c.xs,cos c.ks]=true:=by
    have:=SU.Qby c
    rwa [celV,noRef]at this
  refine PSpec.of_rn 64 ok85 rfl (by rw[noRefs,SU.Qby];rfl) (by rw[noRef];exact Qbz) ?_
  have hc3:=h.c3
  have hx2:=h.x2
  have hk1:=h.k1
  have hci:=@SU.Qcr 99 c.cs
  have hxi:=SU.QdW c.xs
  have hki:=QgC c.ks
  simp(disch:=first|omega|(simp only[lenW]<;>omega)) only[s85,wW,wV,simprocAttr]
  refine Qar 100 (fun i:Nat=>[(1,.ptr 50 0 0),(2,.ptr 51 0 0),(3,.ptr 52 0 0),(12,its 99 c.cs),(13,.int .i64 c.cs.length),(14,.int .i64 i)]) (fun i=>[(50,.cells 0 [evsV c.ev,its 99 c.cs,its 114 c.rs,exs c.xs,cos c.ks]),(51,.cells 0 [.nilsl,.nilsl,.nilsl]),(52,.cells 0 [.sl 76 0 0 (szs c|>.take i).length 1,.nilsl,.nilsl]),(76,.cells 0 (ints (nz ((szs c).take i))))]) (fun i=>i<=c.cs.length) (fun i=>c.cs.length-i) 0 0 160
    (fun _:Unit=>[(1,.ptr 50 0 0),(2,.ptr 51 0 0),(3,.ptr 52 0 0)]) (fun _=>[(50,.cells 0 [evsV c.ev,its 99 c.cs,its 114 c.rs,exs c.xs,cos c.ks]),(51,.cells 0 [.nilsl,.nilsl,.nilsl]),(52,.cells 0 [sliN (szs c),.nilsl,.nilsl])]) (fun _=>True) ⟨[(50,.blk 64 0),(51,.blk 65 0),(52,.blk 67 0),(76,.nil)],rfl,au0,?_,au16⟩ (Nat.zero_le _) ?_ ?_
  · exact RB.cells rfl rfl gg (RnL.same hnr) (RB.cells rfl rfl gg (RnL.same rfl) (RB.cells rfl rfl gg (RnL.cons (Rn.x4 rfl rfl) (RnL.same rfl)) (RB.newnil rfl rfl RB.nil)))
  · rintro i hi
    by_cases hlt:i<c.cs.length
    · obtain ⟨x, hx⟩ := Qak hlt
      have hdr:=SU.QcF (ch:=99) hx
      have hdl:5<=((c.cs.flatMap (itC 99)).drop (i*5)).length:=by rw[hdr];simp
      have hsx:(szs c)[i]?=some x.2.n:=by unfold szs;rw[List.getElem?_map,hx];rfl
      have hsuc:=take_succ' hsx
      have htl:((szs c).take i).length=i:=by rw[List.length_take,h.slen];omega
      have hone:=@SU.QcY [99,UInt8.ofNat (48+x.1)] x.2
      simp(disch:=first|omega|(simp only[lenW]<;>omega)) only[hlt,hdr,hdl,htl,wW,wV,simprocAttr]
      refine⟨i+1,by omega,by omega,?_⟩
      rw[hsuc,List.length_append,QaL,QaD,htl]
      refine⟨[(50,.blk 50 0),(51,.blk 51 0),(52,.blk 52 0),(76,.blk 76 1)],rfl,au0,?_,au16⟩
      exact RB.cells rfl rfl gg (RnL.same hnr) (RB.cells rfl rfl gg (RnL.same rfl) (RB.cells rfl rfl gg (RnL.cons (Rn.x1 rfl rfl) (RnL.same rfl)) (RB.cells rfl rfl gg (RnL.same (SU.QaH (Qaa _) rfl)) RB.nil)))
    · have e : i = c.cs.length := by omega
      subst e
      have hta:(szs c).take c.cs.length=szs c:=by rw[<-h.slen,List.take_length]
      simp(disch:=first|omega|(simp only[lenW]<;>omega)) only[hlt,hta,wW,wV,simprocAttr]
      refine⟨(),?_⟩
      refine⟨[(50,.blk 50 0),(51,.blk 51 0),(52,.blk 52 0)],rfl,au0,?_,au16⟩
      exact RB.cells rfl rfl gg (RnL.same hnr) (RB.cells rfl rfl gg (RnL.same rfl) (RB.cells rfl rfl gg (RnL.cons (Rn.fzm rfl rfl rfl rfl (by simp[ints]) (RnL.same (Qaa _))) (RnL.same rfl)) RB.nil))
  rintro _ _
  simp(disch:=first|omega|(simp only[lenW]<;>omega)) only[wW,wV,simprocAttr]
  refine Qar 200 (fun i:Nat=>[(1,.ptr 50 0 0),(2,.ptr 51 0 0),(3,.ptr 52 0 0),(28,exs c.xs),(29,.int .i64 c.xs.length),(30,.int .i64 i)]) (fun i=>[(50,.cells 0 [evsV c.ev,its 99 c.cs,its 114 c.rs,exs c.xs,cos c.ks]),(51,.cells 0 [.nilsl,.nilsl,.nilsl]),(52,.cells 0 [sliN (szs c),.sl 77 0 0 (c.xs.take i).length 2,.nilsl]),(77,.cells 0 ((c.xs.take i).flatMap exC))]) (fun i=>i<=c.xs.length) (fun i=>c.xs.length-i) 0 2 260
    (fun _:Unit=>[(1,.ptr 50 0 0),(2,.ptr 51 0 0),(3,.ptr 52 0 0)]) (fun _=>[(50,.cells 0 [evsV c.ev,its 99 c.cs,its 114 c.rs,exs c.xs,cos c.ks]),(51,.cells 0 [.nilsl,.nilsl,.nilsl]),(52,.cells 0 [sliN (szs c),exs c.xs,.nilsl])]) (fun _=>True) ⟨[(50,.blk 50 0),(51,.blk 51 0),(52,.blk 52 0),(77,.nil)],rfl,au0,?_,au16⟩ (Nat.zero_le _) ?_ ?_
  · exact RB.cells rfl rfl gg (RnL.same hnr) (RB.cells rfl rfl gg (RnL.same rfl) (RB.cells rfl rfl gg (RnL.cons (Rn.same (Qab _)) (RnL.cons (Rn.x4 rfl rfl) (RnL.same rfl))) (RB.newnil rfl rfl RB.nil)))
  · rintro i hi
    by_cases hlt:i<c.xs.length
    · obtain ⟨x, hx⟩ := Qak hlt
      have hxm:=List.mem_of_getElem? hx
      have hdr:=QkS hx
      have hdl:2<=((c.xs.flatMap exC).drop (i*2)).length:=by rw[hdr];simp
      have hsuc:=take_succ' hx
      have htl:(c.xs.take i).length=i:=by rw[List.length_take];omega
      have hcl:=clone148 x.2 (by have:=h.xlen hxm;omega) (h.xl x hxm).1
      have hxl:=SU.QdW (c.xs.take i)
      rw[htl]at hxl
      simp(disch:=first|omega|(simp only[lenW]<;>omega)) only[hlt,hdr,hdl,htl,wW,wV,simprocAttr]
      refine cp hcl ?_
      simp(disch:=first|omega|(simp only[lenW]<;>omega)) only[hxl,wW,wV,simprocAttr]
      refine⟨i+1,by omega,by omega,?_⟩
      rw[hsuc,List.length_append,List.flatMap_append,htl,Qpo]
      refine⟨[(50,.blk 50 0),(51,.blk 51 0),(52,.blk 52 0),(77,.blk 77 1)],rfl,au0,?_,au16⟩
      exact RB.cells rfl rfl gg (RnL.same hnr) (RB.cells rfl rfl gg (RnL.same rfl) (RB.cells rfl rfl gg (RnL.cons (Rn.same (Qab _)) (RnL.cons (Rn.x1 rfl rfl) (RnL.same rfl))) (RB.cells rfl rfl gg (RnL.same (SU.QaH (SU.Qa8 _) (by rw[noRefs,noRefs,SU.QdA];rfl))) RB.nil)))
    · have e : i = c.xs.length := by omega
      subst e
      simp(disch:=first|omega|(simp only[lenW]<;>omega)) only[hlt,List.take_length,wW,wV,simprocAttr]
      refine⟨(),?_⟩
      refine⟨[(50,.blk 50 0),(51,.blk 51 0),(52,.blk 52 0)],rfl,au0,?_,au16⟩
      exact RB.cells rfl rfl gg (RnL.same hnr) (RB.cells rfl rfl gg (RnL.same rfl) (RB.cells rfl rfl gg (RnL.cons (Rn.same (Qab _)) (RnL.cons (Rn.fzm rfl rfl rfl rfl (SU.QdW _) (RnL.same (SU.Qa8 _))) (RnL.same rfl))) RB.nil))
  rintro _ _
  simp(disch:=first|omega|(simp only[lenW]<;>omega)) only[wW,wV,simprocAttr]
  refine Qar 300 (fun i:Nat=>[(2,.ptr 51 0 0),(3,.ptr 52 0 0),(47,cos c.ks),(48,.int .i64 c.ks.length),(49,.int .i64 i)]) (fun i=>[(51,.cells 0 [.nilsl,.nilsl,.nilsl]),(52,.cells 0 [sliN (szs c),exs c.xs,.sl 78 0 0 (c.ks.take i).length 3]),(78,.cells 0 ((c.ks.take i).flatMap coC))]) (fun i=>i<=c.ks.length) (fun i=>c.ks.length-i) 0 4 360
    (fun _:Unit=>[(2,.ptr 51 0 0),(3,.ptr 52 0 0)]) (fun _=>[(51,.cells 0 [.nilsl,.nilsl,.nilsl]),(52,.cells 0 [sliN (szs c),exs c.xs,cos c.ks])]) (fun _=>True) ⟨[(51,.blk 51 0),(52,.blk 52 0),(78,.nil)],rfl,au0,?_,au16⟩ (Nat.zero_le _) ?_ ?_
  · exact RB.cells rfl rfl gg (RnL.same rfl) (RB.cells rfl rfl gg (RnL.cons (Rn.same (Qab _)) (RnL.cons (Rn.same (SU.Qa1 _)) (RnL.cons (Rn.x4 rfl rfl) RnL.nil))) (RB.newnil rfl rfl RB.nil))
  · rintro i hi
    by_cases hlt:i<c.ks.length
    · obtain ⟨x, hx⟩ := Qak hlt
      have hxm:=List.mem_of_getElem? hx
      have hdr:=QkT hx
      have hdl:3<=((c.ks.flatMap coC).drop (i*3)).length:=by rw[hdr];simp
      have hsuc:=take_succ' hx
      have htl:(c.ks.take i).length=i:=by rw[List.length_take];omega
      have hcl:=clone149 x.1 (by have:=h.klen hxm;omega) (h.kl x hxm).1
      have hxl:=QgC (c.ks.take i)
      rw[htl]at hxl
      simp(disch:=first|omega|(simp only[lenW]<;>omega)) only[hlt,hdr,hdl,htl,wW,wV,simprocAttr]
      refine cp hcl ?_
      simp(disch:=first|omega|(simp only[lenW]<;>omega)) only[hxl,wW,wV,simprocAttr]
      refine⟨i+1,by omega,by omega,?_⟩
      rw[hsuc,List.length_append,List.flatMap_append,htl,Qpp]
      refine⟨[(51,.blk 51 0),(52,.blk 52 0),(78,.blk 78 1)],rfl,au0,?_,au16⟩
      exact RB.cells rfl rfl gg (RnL.same rfl) (RB.cells rfl rfl gg (RnL.cons (Rn.same (Qab _)) (RnL.cons (Rn.same (SU.Qa1 _)) (RnL.cons (Rn.x1 rfl rfl) RnL.nil))) (RB.cells rfl rfl gg (RnL.same (SU.QaH (SU.QdB _) (by rw[noRefs,noRefs,SU.QcS];rfl))) RB.nil))
    · have e : i = c.ks.length := by omega
      subst e
      simp(disch:=first|omega|(simp only[lenW]<;>omega)) only[hlt,List.take_length,wW,wV,simprocAttr]
      refine⟨(),?_⟩
      refine⟨[(51,.blk 51 0),(52,.blk 52 0)],rfl,au0,?_,au16⟩
      exact RB.cells rfl rfl gg (RnL.same rfl) (RB.cells rfl rfl gg (RnL.cons (Rn.same (Qab _)) (RnL.cons (Rn.same (SU.Qa1 _)) (RnL.cons (Rn.fzm rfl rfl rfl rfl (QgC _) (RnL.same (SU.QdB _))) RnL.nil))) RB.nil)
  rintro _ _
  simp(disch:=first|omega|(simp only[lenW]<;>omega)) only[wW,wV,simprocAttr]
  refine⟨.inr trivial,_,rfl,?_⟩
  exact Rn.same (by rw[noRef];exact Qbz)
end Go.AM.SO
namespace Go.AM.SO
open Go.Proofs Go.AM.SD Go.AM.SE
def idxQ {α:Type} (q:α->Bool) (l:List α):Int:=if l.any q then(l.findIdx q:Int)else-1
theorem QmV {α:Type} {q:α->Bool} {l:List α} (h:∀x∈l,q x=false):idxQ q l= -1:=by
 unfold idxQ
 rw[if_neg]
 rw[List.any_eq_true]
 rintro⟨x,hx,hq⟩
 rw[h x hx]at hq;cases hq
theorem Qor {α:Type} {q:α->Bool} {l:List α} {i:Nat} {x:α} (hx:l[i]?=some x) (hq:q x=true) (hb:∀(j:Nat) y,j<i->l[j]?=some y->q y=false):idxQ q l=i:=by
 have hlt:i<l.length:=by
  rcases Nat.lt_or_ge i l.length with h|h
  ·exact h
  ·rw[List.getElem?_eq_none h]at hx;cases hx
 have h1:l.any q=true:=List.any_eq_true.2 ⟨x,List.mem_of_getElem? hx,hq⟩
 have h2:l.findIdx q=i:=by
  rw[List.findIdx_eq hlt]
  refine⟨by rw[List.getElem?_eq_getElem hlt]at hx;cases hx;exact hq,fun j hj=>hb j l[j] hj (List.getElem?_eq_getElem (by omega))⟩
 unfold idxQ
 rw[if_pos h1,h2]
theorem Qos {α:Type} {q:α->Bool} {l:List α}:decide (0<=idxQ q l)=l.any q:=by
 unfold idxQ
 cases h:l.any q
 ·simp
 ·simp
theorem QeW {K:Nat} {cap:List AV} (h:noRefs cap=true):noRef (.fn K [] cap)=true:=by
 simp only[noRef,noRefs,h];rfl
theorem index110 {K : Nat} {cap : List AV} (q : Nat -> Bool) (l : List Nat) (hl : l.length <= 1000000) (hc : noRefs cap = true) (hk : ∀ x ∈ l, PSpec Tryz.prog K (.int .i64 (x : Int) :: cap) (.bool (q x))) : PSpec Tryz.prog 110 [sliN l, .fn K [] cap] (.int .i64 (idxQ q l)) := by
  refine PSpec.Qau 64 ok110 rfl (by rw[noRefs,noRefs,QeW hc,(Qab _)];rfl) rfl ?_
  have hfn:=QeW (K:=K) hc
  have hln:=(show(ints (nz l)).length=l.length*1 by simp[ints])
  simp(disch:=first|omega|(simp only[lenW]<;>omega)) only[s110,List.append_nil,wW,wV,simprocAttr]
  refine QaJ 100 (fun i:Nat=>[(0,sliN l),(1,.fn K [] cap),(7,.int .i64 l.length),(8,.int .i64 i)]) (fun _=>[]) (fun i=>i<=l.length/\∀(j:Nat) y,j<i->l[j]?=some y->q y=false) (fun i=>l.length-i) 0 ?_ ⟨Nat.zero_le _,fun j y hj=>absurd hj (Nat.not_lt_zero _)⟩ ?_
  · exact⟨[],rfl,RO.zero,RB.nil,RT.cons (Rn.same (Qab _)) (RT.cons (Rn.same hfn) (RT.cons (Rn.same rfl) (RT.cons (Rn.same rfl) RT.nil)))⟩
  rintro i ⟨hi,hb⟩
  by_cases hlt:i<l.length
  · obtain ⟨x, hx⟩ := Qak hlt
    have hn:=hk x (List.mem_of_getElem? hx)
    have hdr:=QaI hx
    have hdl:1<=(List.drop (i*1) (ints (nz l))).length:=by rw[List.length_drop,hln];omega
    cases hq:q x
    · rw [hq] at hn
      simp(disch:=first|omega|(simp only[lenW]<;>omega)) only[hlt,hdr,hdl,List.head?_cons,List.append_nil,wW,wV,simprocAttr]
      refine⟨_,by simpa using hn,?_⟩
      simp(disch:=first|omega|(simp only[lenW]<;>omega)) only[List.append_nil,wW,wV,simprocAttr]
      refine⟨i+1,by omega,⟨by omega,fun j y hj hy=>?_⟩,?_⟩
      · by_cases e : j = i
        · subst e;rw[hx]at hy;cases hy;exact hq
        · exact hb j y (by omega) hy
      · exact⟨[],rfl,RO.zero,RB.nil,RT.cons (Rn.same (Qab _)) (RT.cons (Rn.same hfn) (RT.cons (Rn.same rfl) (RT.cons (Rn.same rfl) RT.nil)))⟩
    · rw [hq] at hn
      simp(disch:=first|omega|(simp only[lenW]<;>omega)) only[hlt,hdr,hdl,List.head?_cons,List.append_nil,wW,wV,simprocAttr]
      refine⟨_,by simpa using hn,?_⟩
      simp(disch:=first|omega|(simp only[lenW]<;>omega)) only[List.append_nil,wW,wV,simprocAttr]
      refine⟨.inr trivial,_,rfl,?_⟩
      rw[Qor hx hq hb];rfl
  · simp (disch := first | omega | (simp only [lenW] <;> omega)) only [hlt, List.append_nil, wW, wV, simprocAttr]
    refine⟨.inr trivial,_,rfl,?_⟩
    rw[QmV fun x hx=>by
      obtain⟨j,hj,hjl⟩:=List.getElem_of_mem hx
      exact hb j x (by omega) (by rw[List.getElem?_eq_getElem hj,hjl])];rfl
theorem contains36 {K:Nat} {cap:List AV} (q:Nat->Bool) (l:List Nat) (hl:l.length<=1000000) (hc:noRefs cap=true) (hk:∀x∈l,PSpec Tryz.prog K (.int .i64 (x:Int)::cap) (.bool (q x))):PSpec Tryz.prog 36 [sliN l,.fn K [] cap] (.bool (l.any q)):=by
 refine PSpec.Qau 64 ok36 rfl (by rw[noRefs,noRefs,QeW hc,Qab];rfl) rfl ?_
 simp(disch:=first|omega|(simp only[lenW]<;>omega)) only[s36,List.append_nil,wW,wV,simprocAttr]
 refine cp (index110 q l hl hc hk) ?_
 have e:=@Qos Nat q l
 cases h:l.any q
 ·rw [h, decide_eq_false_iff_not] at e
  simp(disch:=first|omega|(simp only[lenW]<;>omega)) only[e,List.append_nil,wW,wV,simprocAttr]
  exact⟨.inr trivial,_,rfl,rfl⟩
 ·rw [h, decide_eq_true_eq] at e
  simp(disch:=first|omega|(simp only[lenW]<;>omega)) only[e,List.append_nil,wW,wV,simprocAttr]
  exact⟨.inr trivial,_,rfl,rfl⟩
theorem ge166 (x:Nat):PSpec Tryz.prog 166 [.int .i64 (x:Int),.fptr [.int .i64 5]] (.bool (decide (5<=x))):=by
 refine PSpec.Qau 64 ok166 rfl rfl rfl ?_
 have e:decide ((5:Int)<=(x:Int))=decide (5<=x):=decide_eq_decide.2 (by omega)
 simp(disch:=first|omega|(simp only[lenW]<;>omega)) only[s166,e,List.append_nil,wW,wV,simprocAttr]
 exact⟨.inr trivial,_,rfl,rfl⟩
end Go.AM.SO
namespace Go.AM.SR
open Go.Proofs
def s83:SFn:=⟨52,[.tmp 8],
 (.seq (.region [Zz 4 (.box .dyn (.t 0)) [],
 Zz 5 (.box .dyn (.t 1)) [],
 Zz 8 (.mov (.c (.int .i64 0))) []] [] [0,1,8])
 (.seq (.block 0 (.seq (.region [Zf 11 0 4 [],
 Zl 12 11 [0],
 Zz 13 (.call .pure (.f 135) [(.t 12)]) [1],
 Zz 14 (.un .not (.t 13)) [2],
 Zm 10 14 [3,2]] [] [11,12,13,14])
 (.cond (.t 10)
 (.seq (.region [Zz 8 (.mov (.c (.int .i64 7))) []] [] [2,3,4,5,10])
 .ret)
 (.seq (.region [Zm 16 3 [],
 Zf 17 0 4 [],
 Zl 18 17 [1],
 Zz 19 (.lookup false [.s] (.bool false) false (.t 16) (.t 18)) [0,2],
 Zm 15 19 [3]] [] [10,16,17,18,19])
 (.cond (.t 15)
 (.seq (.region [Zz 8 (.mov (.c (.int .i64 8))) []] [] [2,3,4,5,15])
 .ret)
 .skip)))))
 (.seq (.region [Zm 20 3 [],
 Zf 21 0 4 [],
 Zl 22 21 [1],
 Zy (.mupd false [.s] (.t 20) (.t 22) (.c (.bool true))) [0,2,0,1,2]] [] [8,3,15,20,21,22])
 (.seq (.seq (.region [Zf 23 1 4 [],
 Zw 24 4 23 [0],
 Zz 25 (.call .pure (.f 112) [(.t 24)]) [1],
 Zm 9 25 [2,2,0,1,2]] [] [23,24,25])
 (.seq (.region [Zm 26 9 [],
 Zz 27 (.bin .neq (.t 26) (.c (.int .i64 0))) [0]] [] [26])
 (.cond (.t 27)
 (.seq (.region [Zm 28 9 [],
 Zm 8 28 [0,0]] [] [2,4,5,9,27,28])
 .ret)
 .skip)))
 (.seq (.block 1 (.seq (.region [Zf 30 1 4 [],
 Zw 31 4 30 [0],
 Zz 32 (.call .pure (.f 60) [(.t 31)]) [1],
 Zz 33 (.un .not (.t 32)) [2],
 Zm 29 33 [3,2]] [] [8,9,27,30,31,32,33])
 (.cond (.t 29)
 (.seq (.region [Zz 8 (.mov (.c (.int .i64 6))) []] [] [2,4,5,29])
 .ret)
 (.seq (.region [Zf 35 1 4 [],
 Zf 36 1 35 [0],
 Zl 37 36 [1],
 Zz 38 (.bin .eql (.t 37) (.c (.int .i64 0))) [2],
 Zm 34 38 [3]] [] [29,35,36,37,38])
 (.cond (.t 34)
 (.seq (.region [Zz 8 (.mov (.c (.int .i64 12))) []] [] [2,4,5,34])
 .ret)
 (.seq (.region [Zf 40 1 4 [],
 Zf 41 0 40 [0],
 Zl 42 41 [1],
 Zz 43 (.mkfn 166 [] [(.t 5)]) [],
 Zz 44 (.call .heap (.f 36) [(.t 42),(.t 43)]) [2,3],
 Zm 39 44 [4,4]] [] [5,34,40,41,42,43,44])
 (.cond (.t 39)
 (.seq (.region [Zz 8 (.mov (.c (.int .i64 2))) []] [] [2,4,39])
 .ret)
 (.seq (.region [Zf 46 1 4 [],
 Zf 47 0 46 [0],
 Zl 48 47 [1],
 Zm 49 2 [],
 Zz 50 (.call .pure (.f 167) [(.t 48),(.t 49)]) [2,3],
 Zz 51 (.un .not (.t 50)) [4],
 Zm 45 51 [5,4]] [] [2,4,39,46,47,48,49,50,51])
 (.cond (.t 45)
 (.seq (.region [Zz 8 (.mov (.c (.int .i64 9))) []] [] [45])
 .ret)
 .skip)))))))))
 (.seq (.region [Zz 8 (.mov (.c (.int .i64 0))) []] [] [45])
 .ret))))))⟩
theorem ok83:okFn Tryz.prog 83 s83=true:=by kernel_rfl
end Go.AM.SR
namespace Go.AM.SO
open Go.Proofs Go.AM.SD Go.AM.SE
theorem QmW {A B:List Nat} (hA:A.Pairwise (· < ·)) (hB:B.Pairwise (· < ·)) (h:∀x∈A,x∈B):mrg (fun a b=>a&& !b) A B=[]:=by
 rw[List.eq_nil_iff_forall_not_mem]
 intro x hx
 obtain⟨h1,h2⟩:=(Qbk hA hB).1 hx
 simp at h1
 exact h1.2 (h x h1.1)
theorem QgD {a:Aut} (h:WfA a):a.al.length<=5:=QaQ 5 a.al (by rw[List.nodup_iff_pairwise_ne];exact h.al.imp fun h=>by omega) h.al5
abbrev nmsB (l:List (List UInt8)):Blk:= .map 0 (mapS yes l)
theorem item83 (nm:List UInt8) (a:Aut) (B:List Nat) (names:List (List UInt8)) (h:WfI a) (hN:PSpec Tryz.prog 135 [.str nm] (.bool true)) (hn:nm∉names) (hnl:names.length<=100) (hB:B.Pairwise (· < ·)) (hBl:B.length<=1000000) (hs:∀x∈a.al,x∈B):
  HSpec Tryz.prog 83 [.agg [.str nm,sliN a.al,.int .i64 (a.n:Int),sliN a.ms,egsN a.es],.int .i64 5,sliN B,.map 68 0] (hp [(68,nmsB names)]) (.int .i64 0) (hp [(68,nmsB (names++[nm]))]):=by
 have hal:=QgD h.wf
 have hel:a.es.length<=1000000:=Nat.le_trans h.el (by decide)
 have hC:=check112 a h.wf hel
 have hI:=isCanon60 a h.wf hel h.can
 have hp0:=h.pos
 have hn0:¬(a.n:Int)=0:=by omega
 have h36:=contains36 (K:=166) (cap:=[.fptr [.int .i64 5]]) (fun x=>decide (5<=x)) a.al (by omega) rfl (fun x _=>ge166 x)
 have hany:a.al.any (fun x=>decide (5<=x))=false:=by
  rw[List.any_eq_false]
  intro x hx
  have:=h.wf.al5 x hx
  simp;omega
 rw[hany]at h36
 have hsub:=subset167 a.al B (by omega) hBl
 rw[QmW h.wf.al hB hs]at hsub
 have hsub':PSpec Tryz.prog 167 [sliN a.al,sliN B] (.bool true):=hsub
 refine HSpec.QoL (m:=69) 100 SR.ok83 rfl rfl rfl ?_
 simp(disch:=first|omega|(simp only[lenW]<;>omega)) only[SR.s83,wW,wV,simprocAttr]
 refine cp hN ?_
 simp(disch:=first|omega|(simp only[lenW]<;>omega)) only[wW,wV,simprocAttr]
 refine QeP gg hn ?_
 simp(disch:=first|omega|(simp only[lenW]<;>omega)) only[wW,wV,simprocAttr]
 refine Qdo gg hn (by omega) ?_
 simp(disch:=first|omega|(simp only[lenW]<;>omega)) only[QfV,wW,wV,simprocAttr]
 refine cp hC ?_
 simp(disch:=first|omega|(simp only[lenW]<;>omega)) only[wW,wV,simprocAttr]
 refine cp hI ?_
 simp(disch:=first|omega|(simp only[lenW]<;>omega)) only[hn0,wW,wV,simprocAttr]
 refine SU.chc (HSpec.lend (FrzL.cons (FrzTo.same _) (FrzL.cons (FrzTo.fn FrzL.nil (FrzL.cons (FrzTo.ptr (g:=0) (cs:=[.int .i64 5]) gg (FrzL.same _)) FrzL.nil)) FrzL.nil)) h36 rfl) ?_
 simp(disch:=first|omega|(simp only[lenW]<;>omega)) only[wW,wV,simprocAttr]
 refine cp hsub' ?_
 simp(disch:=first|omega|(simp only[lenW]<;>omega)) only[wW,wV,simprocAttr]
 refine⟨.inr trivial,_,rfl,rfl,?_⟩
 refine⟨[(68,.nil)],rfl,au0,?_,au16⟩
 exact RB.mapB rfl gg (RnM.mapS fun _ _=>Rn.same rfl) RB.nil
theorem item83F {h:Heap} (nm:List UInt8) (a:Aut) (B:List Nat) (names:List (List UInt8)) (hw:WfI a) (hN:PSpec Tryz.prog 135 [.str nm] (.bool true)) (hn:nm∉names) (hnl:names.length<=100) (hB:B.Pairwise (· < ·)) (hBl:B.length<=1000000) (hs:∀x∈a.al,x∈B) (h68:h.get 68=some (nmsB names)):
  HSpec Tryz.prog 83 [.agg [.str nm,sliN a.al,.int .i64 (a.n:Int),sliN a.ms,egsN a.es],.int .i64 5,sliN B,.map 68 0] h (.int .i64 0) (h.set 68 (nmsB (names++[nm]))):=by
 have hm:∀(l:List (List UInt8)),∀e∈mapS yes l,noRef e.1=true/\noRef e.2=true:=fun l e he=>by
  unfold mapS at he
  obtain⟨x,_,rfl⟩:=List.mem_map.1 he
  exact⟨rfl,rfl⟩
 exact HSpec.frameM (item83 nm a B names hw hN hn hnl hB hBl hs) (OnlyD.cons (OnlyD.same (by rw[noRef];exact SU.QcY)) (OnlyD.cons (OnlyD.same rfl) (OnlyD.cons (OnlyD.same (Qab _)) (OnlyD.cons (OnlyD.map rfl) OnlyD.nil)))) (OnlyD.same rfl) (hm _) (hm _) h68 rfl
end Go.AM.SO
namespace Go.AM.SO
open Go.Proofs Go.AM.SD Go.AM.SE
def uUp (l:List (Nat×Aut)):List Nat:=l.foldl (fun out x=>mrg (fun a b=>a||b) out x.2.al) []
theorem Qg3:∀{l:List (Nat×Aut)} {out:List Nat},out.Pairwise (· < ·)->(∀x∈l,x.2.al.Pairwise (· < ·))->
  (l.foldl (fun out x=>mrg (fun a b=>a||b) out x.2.al) out).Pairwise (· < ·)/\∀e,e∈l.foldl (fun out x=>mrg (fun a b=>a||b) out x.2.al) out↔e∈out\/∃y∈l,e∈y.2.al
 |[],out,h,_=>⟨h,fun e=>by simp⟩
 | x :: l, out, h, hl => by
  have hx:=hl x (by simp)
  obtain⟨h1,h2⟩:=Qg3 (l:=l) (QbW (k:=fun a b=>a||b) h hx) fun y hy=>hl y (by simp[hy])
  refine⟨h1,fun e=>?_⟩
  rw[List.foldl_cons,h2 e,Qbk h hx]
  simp only[List.mem_cons,exists_eq_or_imp,Bool.or_eq_true,decide_eq_true_eq]
  constructor
  ·rintro (⟨h3, _⟩ | h3)
   ·rcases h3 with h3 | h3
    ·exact .inl h3
    ·exact .inr (.inl h3)
   ·exact .inr (.inr h3)
  ·rintro (h3 | h3 | h3)
   ·exact .inl ⟨.inl h3,.inl h3⟩
   ·exact .inl ⟨.inr h3,.inr h3⟩
   ·exact .inr h3
theorem QgE {l:List (Nat×Aut)} (h:∀x∈l,WfI x.2):(uUp l).Pairwise (· < ·):=(Qg3 (by simp) fun x hx=>(h x hx).wf.al).1
theorem QkU {l:List (Nat×Aut)} (h:∀x∈l,WfI x.2) {e:Nat}:e∈uUp l↔∃y∈l,e∈y.2.al:=by
 have:=(Qg3 (l:=l) (out:=[]) (by simp) fun x hx=>(h x hx).wf.al).2 e
 simpa[uUp]using this
theorem Qg4 {l:List (Nat×Aut)} (h:∀x∈l,WfI x.2):(uUp l).length<=5:=by
 refine QaQ 5 _ (by rw[List.nodup_iff_pairwise_ne];exact(QgE h).imp fun h=>by omega) fun x hx=>?_
 obtain⟨y,hy,he⟩:=(QkU h).1 hx
 exact(h y hy).wf.al5 x he
theorem QnI {l:List (Nat×Aut)} {i:Nat} {x:Nat×Aut} (h:l[i]?=some x):uUp (l.take (i+1))=mrg (fun a b=>a||b) (uUp (l.take i)) x.2.al:=by
 unfold uUp
 rw[take_succ' h,List.foldl_append];rfl
def nmsI (ch:UInt8) (l:List (Nat×Aut)):List (List UInt8):=l.map fun x=>[ch,UInt8.ofNat (48+x.1)]
theorem Qjw {ch:UInt8} {l:List (Nat×Aut)} {i:Nat} {x:Nat×Aut} (h:l[i]?=some x):nmsI ch (l.take (i+1))=nmsI ch (l.take i)++[[ch,UInt8.ofNat (48+x.1)]]:=by
 unfold nmsI
 rw[take_succ' h,List.map_append];rfl
theorem Qot {a b:Nat} (ha:a<10) (hb:b<10) (h:UInt8.ofNat (48+a)=UInt8.ofNat (48+b)):a=b:=by
 have:=congrArg UInt8.toNat h
 simp at this
 omega
theorem QgF {l:List (Nat×Aut)} (h:l.map (·.1)=List.range l.length) {i:Nat} {x:Nat×Aut} (hx:l[i]?=some x):x.1=i/\i<l.length:=by
 have hi:i<l.length:=by
  rcases Nat.lt_or_ge i l.length with h|h
  ·exact h
  ·rw[List.getElem?_eq_none h]at hx;cases hx
 have h1:(l.map (·.1))[i]?=some x.1:=by rw[List.getElem?_map,hx];rfl
 rw[h,List.getElem?_range hi]at h1
 cases h1
 exact⟨rfl,hi⟩
theorem QkV {ch:UInt8} {l:List (Nat×Aut)} (h:l.map (·.1)=List.range l.length) (h3:l.length<=9) {i:Nat} {x:Nat×Aut} (hx:l[i]?=some x):[ch,UInt8.ofNat (48+x.1)]∉nmsI ch (l.take i):=by
 intro hm
 obtain⟨y,hy,he⟩:=List.mem_map.1 hm
 obtain⟨j,hj,hjl⟩:=List.getElem_of_mem hy
 rw[List.length_take]at hj
 rw[List.getElem_take]at hjl
 obtain⟨e1,e2⟩:=QgF h hx
 obtain⟨e3,e4⟩:=QgF h (i:=j) (x:=y) (by rw[<-hjl];exact List.getElem?_eq_getElem (by omega))
 have:=Qot (a:=y.1) (b:=x.1) (by omega) (by omega) (by simpa using he)
 omega
theorem QmX {a b:UInt8} (hab:a≠b) {s:UInt8} {l:List (Nat×Aut)}:[a,s]∉nmsI b l:=by
 intro hm
 obtain⟨y,hy,he⟩:=List.mem_map.1 hm
 simp at he
 exact hab he.1.symm
theorem Qjk {i:Nat} (h:i<3):PSpec Tryz.prog 135 [.str [99,UInt8.ofNat (48+i)]] (.bool true):=by
 have:i=0\/i=1\/i=2:=by omega
 rcases this with rfl|rfl|rfl
 ·exact SP.Qoa
 ·exact SP.Qob
 ·exact SP.Qoc
theorem Qpq {i:Nat} (h:i<2):PSpec Tryz.prog 135 [.str [114,UInt8.ofNat (48+i)]] (.bool true):=by
 have:i=0\/i=1:=by omega
 rcases this with rfl|rfl
 ·exact SP.Qod
 ·exact SP.Qoe
theorem Qe0 {m:Nat} {π:Nat->Option Src} {h:Heap}:RnM m π h (mapS yes []) []:=trivial
theorem QbZ (c:Cel):noRefs [evsV c.ev,its 99 c.cs,its 114 c.rs,exs c.xs,cos c.ks]=true:=by
 have:=SU.Qby c
 rwa [celV,noRef]at this
theorem check21 (c : Cel) (h : WfCel c) : PSpec Tryz.prog 21 [celV c] (.int .i64 0) := by
  have hnr:=QbZ c
  refine PSpec.Qau 64 ok21 rfl (by rw[noRefs,SU.Qby];rfl) rfl ?_
  have hE:=check82 c.ev h.ev
  have h0:=h.c0
  have h3:=h.c3
  have h2:=h.r2
  have g1:¬(c.cs.length:Int)=0:=by omega
  have g2:¬(8:Int)<(c.cs.length:Int):=by omega
  have g3:¬(12:Int)<(c.cs.length:Int)+(c.rs.length:Int):=by omega
  have hdL:=conds85 c h
  have hdC:=conds32 c h
  simp(disch:=first|omega|(simp only[lenW]<;>omega)) only[s21,wW,wV,simprocAttr]
  refine cp hE ?_
  simp(disch:=first|omega|(simp only[lenW]<;>omega)) only[g1,g2,g3,wW,wV,simprocAttr]
  refine Qar 140 (fun i:Nat=>[(1,.ptr 50 0 0),(5,.map 68 0),(6,.sl 76 0 0 i 1),(7,.nilsl),(41,.int .i64 5),(42,.int .i64 i)]) (fun i=>[(50,.cells 0 [evsV c.ev,its 99 c.cs,its 114 c.rs,exs c.xs,cos c.ks]),(68,nmsB []),(76,.cells 0 (ints (nz (List.range i))))]) (fun i=>i<=5) (fun i=>5-i) 0 1 180
    (fun _:Unit=>[(1,.ptr 50 0 0),(5,.map 68 0),(6,sliN (List.range 5)),(7,sliN [])]) (fun _=>[(50,.cells 0 [evsV c.ev,its 99 c.cs,its 114 c.rs,exs c.xs,cos c.ks]),(68,nmsB [])]) (fun _=>True) ?_ (Nat.zero_le _) ?_ ?_
  · refine ⟨[(50, .blk 64 0), (68, .blk 90 0), (76, .nil)], rfl, au0, ?_, au16⟩
    exact RB.cells rfl rfl gg (RnL.same hnr) (RB.map rfl rfl gg Qe0 (RB.newnil rfl rfl RB.nil))
  · rintro i hi
    by_cases hlt:i<5
    · have hlt2 : (i : Int) < 5 := by omega
      have hrl:(ints (nz (List.range i))).length=i:=by simp[ints]
      simp(disch:=first|omega|(simp only[lenW]<;>omega)) only[hlt2,List.length_range,hrl,wW,wV,simprocAttr]
      refine⟨i+1,by omega,by omega,?_⟩
      rw[List.range_succ,QaL,QaD]
      refine⟨[(50,.blk 50 0),(68,.blk 68 0),(76,.blk 76 1)],rfl,au0,?_,au16⟩
      exact RB.cells rfl rfl gg (RnL.same hnr) (RB.map rfl rfl gg Qe0 (RB.cells rfl rfl gg (RnL.same (SU.QaH (Qaa _) rfl)) RB.nil))
    · have e : i = 5 := by omega
      subst e
      simp(disch:=first|omega|(simp only[lenW]<;>omega)) only[wW,wV,simprocAttr]
      refine⟨(),[(50,.blk 50 0),(68,.blk 68 0)],rfl,RO.zero,?_,?_⟩
      · exact RB.cells rfl rfl gg (RnL.same hnr) (RB.map rfl rfl gg Qe0 RB.nil)
      · exact RT.cons (Rn.x2 rfl rfl) (RT.cons (Rn.x3 rfl rfl) (RT.cons (Rn.fz (b:=76) (g:=0) gg rfl rfl rfl (RnL.same rfl)) (RT.cons Rn.nilK RT.nil)))
  rintro _ _
  simp(disch:=first|omega|(simp only[lenW]<;>omega)) only[wW,wV,simprocAttr]
  refine Qar 240 (fun i:Nat=>[(1,.ptr 50 0 0),(5,.map 68 0),(6,sliN (List.range 5)),(7,sliN (uUp (c.cs.take i))),(51,its 99 c.cs),(52,.int .i64 c.cs.length),(53,.int .i64 i)]) (fun i=>[(50,.cells 0 [evsV c.ev,its 99 c.cs,its 114 c.rs,exs c.xs,cos c.ks]),(68,nmsB (nmsI 99 (c.cs.take i)))]) (fun i=>i<=c.cs.length) (fun i=>c.cs.length-i) 0 3 280
    (fun _:Unit=>[(1,.ptr 50 0 0),(5,.map 68 0),(7,sliN (uUp c.cs))]) (fun _=>[(50,.cells 0 [evsV c.ev,its 99 c.cs,its 114 c.rs,exs c.xs,cos c.ks]),(68,nmsB (nmsI 99 c.cs))]) (fun _=>True) ?_ (Nat.zero_le _) ?_ ?_
  · refine ⟨[(50, .blk 50 0), (68, .blk 68 0)], rfl, au0, ?_, au16⟩
    exact RB.cells rfl rfl gg (RnL.same hnr) (RB.map rfl rfl gg Qe0 RB.nil)
  · rintro i hi
    by_cases hlt:i<c.cs.length
    · obtain ⟨x, hx⟩ := Qak hlt
      have hxm:=List.mem_of_getElem? hx
      have hdr:=SU.QcF (ch:=99) hx
      have hdl:5<=((c.cs.flatMap (itC 99)).drop (i*5)).length:=by rw[hdr];simp
      have hwi:=h.ca x hxm
      have hfa:=QgF h.cn hx
      have hnl:(nmsI 99 (c.cs.take i)).length<=100:=by simp[nmsI];omega
      have hN:=Qjk (i:=x.1) (by omega)
      have hnew:=QkV (ch:=99) h.cn (by omega) hx
      have hulen:(uUp (c.cs.take i)).length<=1000000:=by have:=Qg4 (l:=c.cs.take i) fun y hy=>h.ca y (List.mem_of_mem_take hy);omega
      have hU:=union84 (uUp (c.cs.take i)) x.2.al hulen (by have:=QgD hwi.wf;omega)
      rw[<-QnI hx]at hU
      have hns:=Qjw (ch:=99) hx
      simp(disch:=first|omega|(simp only[lenW]<;>omega)) only[hlt,hdr,hdl,wW,wV,simprocAttr]
      refine SU.chc (item83F _ _ _ _ hwi hN hnew hnl List.pairwise_lt_range (by decide) (fun e he=>List.mem_range.2 (hwi.wf.al5 e he)) gg) ?_
      simp(disch:=first|omega|(simp only[lenW]<;>omega)) only[wW,wV,simprocAttr]
      refine cp hU ?_
      simp(disch:=first|omega|(simp only[lenW]<;>omega)) only[wW,wV,simprocAttr]
      refine⟨i+1,by omega,by omega,?_⟩
      rw[hns]
      refine⟨[(50,.blk 50 0),(68,.blk 68 0)],rfl,au0,?_,au16⟩
      exact RB.cells rfl rfl gg (RnL.same hnr) (RB.map rfl rfl gg (RnM.mapS fun _ _=>Rn.same rfl) RB.nil)
    · have e : i = c.cs.length := by omega
      subst e
      simp(disch:=first|omega|(simp only[lenW]<;>omega)) only[hlt,List.take_length,wW,wV,simprocAttr]
      refine⟨(),?_⟩
      refine⟨[(50,.blk 50 0),(68,.blk 68 0)],rfl,au0,?_,au16⟩
      exact RB.cells rfl rfl gg (RnL.same hnr) (RB.map rfl rfl gg (RnM.mapS fun _ _=>Rn.same rfl) RB.nil)
  rintro _ _
  simp(disch:=first|omega|(simp only[lenW]<;>omega)) only[wW,wV,simprocAttr]
  refine Qar 340 (fun i:Nat=>[(1,.ptr 50 0 0),(5,.map 68 0),(7,sliN (uUp c.cs)),(74,its 114 c.rs),(75,.int .i64 c.rs.length),(76,.int .i64 i)]) (fun i=>[(50,.cells 0 [evsV c.ev,its 99 c.cs,its 114 c.rs,exs c.xs,cos c.ks]),(68,nmsB (nmsI 99 c.cs++nmsI 114 (c.rs.take i)))]) (fun i=>i<=c.rs.length) (fun i=>c.rs.length-i) 0 5 380
    (fun _:Unit=>[(1,.ptr 50 0 0)]) (fun _=>[(50,.cells 0 [evsV c.ev,its 99 c.cs,its 114 c.rs,exs c.xs,cos c.ks])]) (fun _=>True) ?_ (Nat.zero_le _) ?_ ?_
  · rw [show nmsI 99 c.cs ++ nmsI 114 (c.rs.take 0) = nmsI 99 c.cs by simp [nmsI]]
    refine⟨[(50,.blk 50 0),(68,.blk 68 0)],rfl,au0,?_,au16⟩
    exact RB.cells rfl rfl gg (RnL.same hnr) (RB.map rfl rfl gg (RnM.mapS fun _ _=>Rn.same rfl) RB.nil)
  · rintro i hi
    by_cases hlt:i<c.rs.length
    · obtain ⟨x, hx⟩ := Qak hlt
      have hxm:=List.mem_of_getElem? hx
      have hdr:=SU.QcF (ch:=114) hx
      have hdl:5<=((c.rs.flatMap (itC 114)).drop (i*5)).length:=by rw[hdr];simp
      have hwi:=h.ra x hxm
      have hfa:=QgF h.rn hx
      have hnl:(nmsI 99 c.cs++nmsI 114 (c.rs.take i)).length<=100:=by simp[nmsI];omega
      have hN:=Qpq (i:=x.1) (by omega)
      have hnew:[114,UInt8.ofNat (48+x.1)]∉nmsI 99 c.cs++nmsI 114 (c.rs.take i):=by
        intro hm
        rcases List.mem_append.1 hm with hm|hm
        · exact QmX (by decide) hm
        · exact QkV (ch:=114) h.rn (by omega) hx hm
      have hulen:(uUp c.cs).length<=1000000:=by have:=Qg4 (l:=c.cs) h.ca;omega
      have hns:=Qjw (ch:=114) hx
      simp(disch:=first|omega|(simp only[lenW]<;>omega)) only[hlt,hdr,hdl,wW,wV,simprocAttr]
      refine SU.chc (item83F _ _ _ _ hwi hN hnew hnl (QgE h.ca) hulen (fun e he=>(QkU h.ca).2 (h.rsub x hxm e he)) gg) ?_
      simp(disch:=first|omega|(simp only[lenW]<;>omega)) only[wW,wV,simprocAttr]
      refine⟨i+1,by omega,by omega,?_⟩
      rw[hns,<-List.append_assoc]
      refine⟨[(50,.blk 50 0),(68,.blk 68 0)],rfl,au0,?_,au16⟩
      exact RB.cells rfl rfl gg (RnL.same hnr) (RB.map rfl rfl gg (RnM.mapS fun _ _=>Rn.same rfl) RB.nil)
    · simp (disch := first | omega | (simp only [lenW] <;> omega)) only [hlt, wW, wV, simprocAttr]
      refine⟨(),?_⟩
      refine⟨[(50,.blk 50 0)],rfl,au0,?_,au16⟩
      exact RB.cells rfl rfl gg (RnL.same hnr) RB.nil
  rintro _ _
  simp(disch:=first|omega|(simp only[lenW]<;>omega)) only[wW,wV,simprocAttr]
  refine cp hdL ?_
  simp(disch:=first|omega|(simp only[lenW]<;>omega)) only[wW,wV,simprocAttr]
  refine cp hdC ?_
  simp(disch:=first|omega|(simp only[lenW]<;>omega)) only[wW,wV,simprocAttr]
  exact⟨.inr trivial,_,rfl,rfl⟩
end Go.AM.SO
namespace Go.AM.SO
open Go.Proofs Go.AM.SD Go.AM.SE
def auC (a:Aut):List AV:=[sliN a.al,.int .i64 (a.n:Int),sliN a.ms,egsN a.es]
abbrev auts (l:List Aut):AV:= .fsl (l.flatMap auC) l.length 4
theorem Qbc (l:List Aut):noRefs (l.flatMap auC)=true:=QaW (fun x=>by simp only[auC,noRefs,noRef,Qaa,Qag];rfl) l
theorem QaP (l:List Aut):noRef (auts l)=true:=by simp only[noRef];exact Qbc l
theorem QgG (l:List Aut):(l.flatMap auC).length=l.length*4:=Qbr (k:=4) (fun _=>rfl) l
theorem Qc7 {l:List Aut} {i:Nat} {x:Aut} (h:l[i]?=some x):(l.flatMap auC).drop (i*4)=sliN x.al:: .int .i64 (x.n:Int)::sliN x.ms::egsN x.es::(l.drop (i+1)).flatMap auC:=Qbm (f:=auC) (k:=4) (fun _=>rfl) h
theorem _root_.Go.AM.au17 {p:Prop} (h:p:=by repeat (first|exact RT.nil|(refine RT.cons ?_ ?_; · (first|exact Rn.any|exact Rn.x1 rfl rfl|exact Rn.x2 rfl rfl|exact Rn.x3 rfl rfl|exact Rn.x4 rfl rfl|exact Rn.x5 rfl|exact Rn.x6 rfl|exact Rn.x7 rfl|(refine Rn.slot ?_ ?_;(first|rfl|(rw[Int.natCast_add];rfl));(first|rfl|(simp only[noRef,noRefs,Qai,Bool.and_self,Bool.and_true,Bool.true_and,Qaa,Qay,Qab,Qax];done)))|(refine Rn.fn ?_ ?_<;>(repeat' (first|exact RnL.nil|refine RnL.cons ?_ ?_|exact Rn.same rfl|exact Rn.x6 rfl|exact Rn.x2 rfl rfl|exact Rn.x5 rfl|exact Rn.x1 rfl rfl))))))):p:=h
theorem _root_.Go.AM.au18 {p:Prop} (h:p:=by repeat' (first|exact RB.nil|(refine RnL.same ?_;first|rfl|(simp only[noRef,noRefs,Qai,Bool.and_self,Bool.and_true,Bool.true_and,Qaa,Qay,Qab,Qax];done))|exact RnM.keyM rfl|exact RnL.nil|exact(True.intro:RnM _ _ _ [] [])|refine RnL.cons ?_ ?_|(refine Rn.same ?_;first|rfl|(simp only[noRef,noRefs,Qai,Bool.and_self,Bool.and_true,Bool.true_and,Qaa,Qay,Qab,Qax];done))|exact Rn.x1 rfl rfl|exact Rn.x2 rfl rfl|exact Rn.x3 rfl rfl|exact Rn.x4 rfl rfl|exact Rn.x5 rfl|exact Rn.x6 rfl|exact Rn.x7 rfl|refine RB.newnil rfl rfl ?_|refine RB.cells rfl rfl rfl ?_ ?_|refine RB.map rfl rfl rfl ?_ ?_|refine RB.cellsB rfl rfl ?_ ?_|refine RB.mapB rfl rfl ?_ ?_)):p:=h
theorem check95 (l:List Aut) (h:∀a∈l,WfI a) (hl:l.length<=12):PSpec Tryz.prog 95 [auts l] (.int .i64 0):=by
  refine PSpec.Qau 64 TP.ok95 rfl (by rw[noRefs,QaP];rfl) rfl ?_
  have g1:¬(12:Int)<(l.length:Int):=by omega
  have hno:=QaP l
  simp(disch:=first|omega|exact PairsOK.mk rfl|(simp only[lenW]<;>omega)) only[TP.s95,g1,wW,wV,simprocAttr]
  refine Qar 100 (fun i:Nat=>[(9,auts l),(10,.int .i64 l.length),(11,.int .i64 i)]) (fun _=>[]) (fun i=>i<=l.length) (fun i=>l.length-i) 0 0 140 (fun _:Unit=>[]) (fun _=>[]) (fun _=>True) ?_ (Nat.zero_le _) ?_ ?_
  · exact⟨[],rfl,RO.zero,RB.nil,RT.cons (Rn.same hno) au17⟩
  · rintro i hi
    by_cases hlt:i<l.length
    · obtain ⟨x, hx⟩ := Qak hlt
      have hwi:=h x (List.mem_of_getElem? hx)
      have hdr:=Qc7 hx
      have hdl:4<=((l.flatMap auC).drop (i*4)).length:=by rw[hdr];simp
      have hc:=check112 x hwi.wf (by have:=hwi.el;omega)
      simp(disch:=first|omega|exact PairsOK.mk rfl|(simp only[lenW]<;>omega)) only[hlt,hdr,hdl,wW,wV,simprocAttr]
      refine cp hc ?_
      simp(disch:=first|omega|exact PairsOK.mk rfl|(simp only[lenW]<;>omega)) only[wW,wV,simprocAttr]
      exact⟨i+1,by omega,by omega,[],rfl,RO.zero,RB.nil,RT.cons (Rn.same hno) au17⟩
    · simp (disch := first | omega | exact PairsOK.mk rfl | (simp only [lenW] <;> omega)) only [hlt, wW, wV, simprocAttr]
      exact⟨(),⟨[],rfl,au0,au18,au17⟩⟩
  rintro _ _
  simp(disch:=first|omega|exact PairsOK.mk rfl|(simp only[lenW]<;>omega)) only[wW,wV,simprocAttr]
  exact⟨.inr trivial,_,rfl,rfl⟩
theorem QnJ {l:List Aut} {i:Nat} {x:Aut} (h:l[i]?=some x):evA (l.take (i+1))=mrg (fun a b=>a||b) (evA (l.take i)) x.al:=by
 unfold evA;rw[take_succ' h,List.foldl_append];rfl
theorem Qou (l:List Aut):evA l=uUp (l.map fun a=>(0,a)):=by unfold evA uUp;rw[List.foldl_map];rfl
theorem Qg5 {l:List Aut} (h:∀a∈l,WfI a):(evA l).length<=5:=by
 rw[Qou]
 refine Qg4 fun x hx=>?_
 obtain⟨a,ha,rfl⟩:=List.mem_map.1 hx
 exact h a ha
theorem events187 (l:List Aut) (h:∀a∈l,WfI a) (hl:l.length<=12):PSpec Tryz.prog 187 [auts l] (sliN (evA l)):=by
  refine PSpec.of_rn 64 TP.ok187 rfl (by rw[noRefs,QaP];rfl) (Qab _) ?_
  have hno:=QaP l
  simp(disch:=first|omega|exact PairsOK.mk rfl|(simp only[lenW]<;>omega)) only[TP.s187,wW,wV,simprocAttr]
  refine Qar 100 (fun i:Nat=>[(3,sliN (evA (l.take i))),(6,auts l),(7,.int .i64 l.length),(8,.int .i64 i)]) (fun _=>[]) (fun i=>i<=l.length) (fun i=>l.length-i) 0 0 140 (fun _:Unit=>[(3,sliN (evA l))]) (fun _=>[]) (fun _=>True) ?_ (Nat.zero_le _) ?_ ?_
  · exact⟨[],rfl,RO.zero,RB.nil,RT.cons Rn.nilK (RT.cons (Rn.same hno) au17)⟩
  · rintro i hi
    by_cases hlt:i<l.length
    · obtain ⟨x, hx⟩ := Qak hlt
      have hwi:=h x (List.mem_of_getElem? hx)
      have hdr:=Qc7 hx
      have hdl:4<=((l.flatMap auC).drop (i*4)).length:=by rw[hdr];simp
      have hulen:(evA (l.take i)).length<=1000000:=by have:=Qg5 (l:=l.take i) fun y hy=>h y (List.mem_of_mem_take hy);omega
      have hU:=union84 (evA (l.take i)) x.al hulen (by have:=QgD hwi.wf;omega)
      rw[<-QnJ hx]at hU
      simp(disch:=first|omega|exact PairsOK.mk rfl|(simp only[lenW]<;>omega)) only[hlt,hdr,hdl,wW,wV,simprocAttr]
      refine cp hU ?_
      simp(disch:=first|omega|exact PairsOK.mk rfl|(simp only[lenW]<;>omega)) only[wW,wV,simprocAttr]
      exact⟨i+1,by omega,by omega,[],rfl,RO.zero,RB.nil,RT.cons (Rn.same (Qab _)) (RT.cons (Rn.same hno) au17)⟩
    · have e : i = l.length := by omega
      subst e
      simp(disch:=first|omega|exact PairsOK.mk rfl|(simp only[lenW]<;>omega)) only[hlt,List.take_length,wW,wV,simprocAttr]
      exact⟨(),⟨[],rfl,au0,au18,au17⟩⟩
  rintro _ _
  simp(disch:=first|omega|exact PairsOK.mk rfl|(simp only[lenW]<;>omega)) only[wW,wV,simprocAttr]
  exact⟨.inr trivial,_,rfl,Rn.same (Qab _)⟩
theorem has189 (l:List Nat) (t:Nat) (hs:l.Pairwise (· < ·)) (hl:l.length<=1000000):PSpec Tryz.prog 189 [sliN l,.int .i64 (t:Int)] (.bool (l.contains t)):=by
 refine PSpec.Qau 64 TP.ok189 rfl (by(try simp only[noRefs,Qaa,noRef,noRefs,Bool.and_self,Bool.and_true])<;>rfl) rfl ?_
 have h:=find57 l t (hs.imp fun h=>Nat.le_of_lt h) hl
 simp(disch:=first|omega|exact PairsOK.mk rfl|(simp only[lenW]<;>omega)) only[TP.s189,wW,wV,simprocAttr]
 refine cp h ?_
 simp(disch:=first|omega|exact PairsOK.mk rfl|(simp only[lenW]<;>omega)) only[wW,wV,simprocAttr]
 exact⟨.inr trivial,_,rfl,rfl⟩
end Go.AM.SO
namespace Go.AM.SO
open Go.Proofs Go.AM.SD Go.AM.SE
theorem Qav {α:Type} {f:α->AV} (h:∀x,noRef (f x)=true) (l:List α):noRefs (l.map f)=true:=by
 induction l with
 |nil=>rfl
 |cons x l ih=>simp only[List.map_cons,noRefs,h,ih];rfl
def pE (e:Ed):Nat×Nat:=(e.1,e.2.1)
def vE (es:List Ed) (p:Nat×Nat):AV:= .int .i64 (((stepA es p.1 p.2).getD 0:Nat):Int)
abbrev emV (a:Aut):AV:=fmapG kP (vE a.es) (a.es.map pE)
theorem QbS (a:Aut):noRef (emV a)=true:=by
 rw[emV,fmapG,noRef,Qav (fun _=>rfl),Qav (fun _=>rfl)];rfl
theorem Qac {x y:List AV}:(AV.fmap x y).cells=[.fmap x y]:=rfl
theorem Qad {x y:List AV}:(AV.fmap x y).one=true:=rfl
theorem Qae {x y:List AV}:(AV.fmap x y).boxable=true:=rfl
abbrev macV (l:List Aut):AV:= .agg [auts l,sliN (evA l),.fsl (l.map emV) l.length 1]
theorem Qcg (l:List Aut):noRef (macV l)=true:=by
 rw[macV,noRef,noRefs,noRefs,noRefs,QaP,Qab,noRef,Qav QbS];rfl
theorem QgH {e:Ed} {es:List Ed} {s v:Nat}:stepA (e::es) s v=if e.1=s/\e.2.1=v then some e.2.2 else stepA es s v:=by
 unfold stepA
 rw[List.find?_cons]
 by_cases h1:e.1=s<;>by_cases h2:e.2.1=v<;>simp[h1,h2,beq_eq_false_iff_ne.2]
theorem QfY:∀{es:List Ed},es.Pairwise (fun x y=>x.1<y.1\/(x.1=y.1/\x.2.1<y.2.1))->∀{e:Ed},e∈es->stepA es e.1 e.2.1=some e.2.2
 | x :: es, h, e, he => by
  rw[List.pairwise_cons]at h
  rw[QgH]
  rcases List.mem_cons.1 he with rfl|he
  ·rw[if_pos ⟨rfl,rfl⟩]
  ·have := h.1 e he
   rw[if_neg (by omega)]
   exact QfY h.2 he
theorem QgI:∀{es:List Ed} {s v:Nat},(s,v)∉es.map pE->stepA es s v=none
 |[],s,v,_=>rfl
 |x::es,s,v,h=>by
  rw[List.map_cons,List.mem_cons,not_or]at h
  rw[QgH,if_neg fun hh=>h.1 (by unfold pE;rw[hh.1,hh.2])]
  exact QgI h.2
theorem Qdz {es:List Ed} {s v t:Nat} (h:stepA es s v=some t):(s,v)∈es.map pE:=by
 refine Decidable.byContradiction fun hn=>?_
 rw[QgI hn]at h;cases h
theorem QnK {es:List Ed} (h:es.Pairwise (fun x y=>x.1<y.1\/(x.1=y.1/\x.2.1<y.2.1))) {j:Nat} {e:Ed} (he:es[j]?=some e):(e.1,e.2.1)∉(es.take j).map pE:=by
 intro hm
 obtain⟨y,hy,e2⟩:=List.mem_map.1 hm
 obtain⟨k,hk⟩:=List.mem_iff_getElem?.1 hy
 have hkj:k<j:=by
  rcases Nat.lt_or_ge k j with h|h
  ·exact h
  ·rw[List.getElem?_eq_none (by rw[List.length_take];omega)]at hk;cases hk
 rw[List.getElem?_take_of_lt hkj]at hk
 obtain⟨k1,k2⟩:=List.getElem?_eq_some_iff.1 hk
 obtain⟨j1,j2⟩:=List.getElem?_eq_some_iff.1 he
 have:=List.pairwise_iff_getElem.1 h k j k1 j1 hkj
 rw[k2,j2]at this
 unfold pE at e2
 simp only[Prod.mk.injEq]at e2
 omega
theorem Qpr {es:List Ed} (h:es.Pairwise (fun x y=>x.1<y.1\/(x.1=y.1/\x.2.1<y.2.1))) {e:Ed} (he:e∈es):updG (vE es) (e.1,e.2.1) (.int .i64 (e.2.2:Int))=vE es:=by
 funext p
 unfold updG
 split
 ·rename_i hp; subst hp
  unfold vE
  rw[QfY h he];rfl
 ·rfl
theorem _root_.Go.AM.au19 {p:Prop} (h:p:=by repeat (first|exact RT.nil|(refine RT.cons ?_ ?_; · (first|exact Rn.any|exact Rn.x1 rfl rfl|exact Rn.x2 rfl rfl|exact Rn.x3 rfl rfl|exact Rn.x4 rfl rfl|exact Rn.x5 rfl|exact Rn.x6 rfl|exact Rn.x7 rfl|(refine Rn.slot ?_ ?_;(first|rfl|(rw[Int.natCast_add];rfl));(first|rfl|(simp only[noRef,noRefs,Qai,Bool.and_self,Bool.and_true,Bool.true_and,Qaa,Qay,Qab,Qax,Qbc,Qag];done)))|(refine Rn.fn ?_ ?_<;>(repeat' (first|exact RnL.nil|refine RnL.cons ?_ ?_|exact Rn.same rfl|exact Rn.x6 rfl|exact Rn.x2 rfl rfl|exact Rn.x5 rfl|exact Rn.x1 rfl rfl))))))):p:=h
theorem open96 (l : List Aut) (h : ∀ a ∈ l, WfI a) (hl : l.length <= 12) : PSpec Tryz.prog 96 [auts l] (macV l) := by
  refine PSpec.of_rn 64 TP.ok96 rfl (by rw[noRefs,QaP];rfl) (Qcg l) ?_
  have hev:=events187 l h hl
  have hno:=QaP l
  have hlen:(l.map emV).length=l.length:=List.length_map ..
  simp(disch:=first|omega|exact PairsOK.mk rfl|(simp only[lenW]<;>omega)) only[TP.s96,Qac,Qad,Qae,wW,wV,simprocAttr]
  refine cp hev ?_
  simp(disch:=first|omega|exact PairsOK.mk rfl|(simp only[lenW]<;>omega)) only[Qac,Qad,Qae,wW,wV,simprocAttr]
  refine Qar 120 (fun i:Nat=>[(2,.ptr 51 0 0),(3,.ptr 52 0 0),(13,auts l),(14,.int .i64 l.length),(15,.int .i64 i)]) (fun i=>[(51,.cells 0 [.nilsl,.nilsl,.nilsl]),(52,.cells 0 [auts l,sliN (evA l),.sl 76 0 0 i 1]),(76,.cells 0 ((l.take i).map emV))]) (fun i=>i<=l.length) (fun i=>l.length-i) 0 0 300 (fun _:Unit=>[(2,.ptr 51 0 0),(3,.ptr 52 0 0)]) (fun _=>[(51,.cells 0 [.nilsl,.nilsl,.nilsl]),(52,.cells 0 [auts l,sliN (evA l),.fsl (l.map emV) l.length 1])]) (fun _=>True) ⟨[(51,.blk 64 0),(52,.blk 69 0),(76,.nil)],rfl,au0,?_,au19⟩ (Nat.zero_le _) ?_ ?_
  · exact RB.cells rfl rfl gg (RnL.same rfl) (RB.cells rfl rfl gg (RnL.cons (Rn.same hno) (RnL.cons (Rn.same (Qab _)) (RnL.cons (Rn.x4 rfl rfl) RnL.nil))) (RB.newnil rfl rfl RB.nil))
  · rintro i hi
    by_cases hlt:i<l.length
    · obtain ⟨x, hx⟩ := Qak hlt
      have hwi:=h x (List.mem_of_getElem? hx)
      have hdr:=Qc7 hx
      have hdl:4<=((l.flatMap auC).drop (i*4)).length:=by rw[hdr];simp
      have hsuc:=take_succ' hx
      have htl:(l.take i).length=i:=by rw[List.length_take];omega
      have htm:((l.take i).map emV).length=i:=by rw[List.length_map,htl]
      have hel:=hwi.el
      simp(disch:=first|omega|exact PairsOK.mk rfl|(simp only[lenW]<;>omega)) only[hlt,hdr,hdl,Qac,Qad,Qae,wW,wV,simprocAttr]
      refine Qar 220 (fun j:Nat=>[(2,.ptr 51 0 0),(3,.ptr 52 0 0),(13,auts l),(14,.int .i64 l.length),(15,.int .i64 i),(6,.map 77 0),(21,egsN x.es),(22,.int .i64 x.es.length),(23,.int .i64 j)]) (fun j=>[(51,.cells 0 [.nilsl,.nilsl,.nilsl]),(52,.cells 0 [auts l,sliN (evA l),.sl 76 0 0 i 1]),(76,.cells 0 ((l.take i).map emV)),(77,.map 0 (mapG kP (vE x.es) ((x.es.take j).map pE)))]) (fun j=>j<=x.es.length) (fun j=>x.es.length-j) 0 2 280 (fun _:Unit=>[(2,.ptr 51 0 0),(3,.ptr 52 0 0),(13,auts l),(14,.int .i64 l.length),(15,.int .i64 i),(6,emV x)]) (fun _=>[(51,.cells 0 [.nilsl,.nilsl,.nilsl]),(52,.cells 0 [auts l,sliN (evA l),.sl 76 0 0 i 1]),(76,.cells 0 ((l.take i).map emV))]) (fun _=>True) ⟨[(51,.blk 51 0),(52,.blk 52 0),(76,.blk 76 0),(77,.blk 125 0)],rfl,au0,?_,au19⟩ (Nat.zero_le _) ?_ ?_
      · exact RB.cells rfl rfl gg (RnL.same rfl) (RB.cells rfl rfl gg (RnL.cons (Rn.same hno) (RnL.cons (Rn.same (Qab _)) (RnL.cons (Rn.x1 rfl rfl) RnL.nil))) (RB.cells rfl rfl gg (RnL.same (Qav QbS _)) (RB.map rfl rfl gg (RnM.mapG fun _ _=>⟨rfl,rfl⟩) RB.nil)))
      · rintro j hj
        by_cases hjl:j<x.es.length
        · obtain ⟨e, he⟩ := Qak hjl
          have hde:=QaR he
          have hdel:3<=((x.es.flatMap edC).drop (j*3)).length:=by rw[hde];simp
          have hnew:=QnK hwi.wf.es he
          have hup:=Qpr hwi.wf.es (List.mem_of_getElem? he)
          simp(disch:=first|omega|exact PairsOK.mk rfl|(simp only[lenW]<;>omega)) only[hjl,hde,hdel,Qac,Qad,Qae,wW,wV,simprocAttr]
          refine Qcm (c:=kP) (f:=vE x.es) (x:=(e.1,e.2.1)) (l:=(x.es.take j).map pE) (g:=0) gg Qi6 hnew (by omega) ?_
          rw[hup]
          simp(disch:=first|omega|exact PairsOK.mk rfl|(simp only[lenW]<;>omega)) only[Qac,Qad,Qae,wW,wV,simprocAttr]
          refine⟨j+1,by omega,by omega,?_⟩
          rw[take_succ' he,List.map_append]
          refine⟨[(51,.blk 51 0),(52,.blk 52 0),(76,.blk 76 0),(77,.blk 77 0)],rfl,au0,?_,au19⟩
          exact RB.cells rfl rfl gg (RnL.same rfl) (RB.cells rfl rfl gg (RnL.cons (Rn.same hno) (RnL.cons (Rn.same (Qab _)) (RnL.cons (Rn.x1 rfl rfl) RnL.nil))) (RB.cells rfl rfl gg (RnL.same (Qav QbS _)) (RB.map rfl rfl gg (RnM.mapG fun _ _=>⟨rfl,rfl⟩) RB.nil)))
        · have e : j = x.es.length := by omega
          subst e
          simp(disch:=first|omega|exact PairsOK.mk rfl|(simp only[lenW]<;>omega)) only[hjl,List.take_length,Qac,Qad,Qae,wW,wV,simprocAttr]
          refine⟨(),[(51,.blk 51 0),(52,.blk 52 0),(76,.blk 76 0)],rfl,RO.zero,?_,?_⟩
          · exact RB.cells rfl rfl gg (RnL.same rfl) (RB.cells rfl rfl gg (RnL.cons (Rn.same hno) (RnL.cons (Rn.same (Qab _)) (RnL.cons (Rn.x1 rfl rfl) RnL.nil))) (RB.cells rfl rfl gg (RnL.same (Qav QbS _)) RB.nil))
          · exact RT.cons (Rn.x2 rfl rfl) (RT.cons (Rn.x2 rfl rfl) (RT.cons (Rn.same hno) (RT.cons (Rn.same rfl) (RT.cons (Rn.same rfl) (RT.cons (Rn.fzM (b:=77) (g:=0) gg rfl rfl fun _ _=>⟨rfl,rfl⟩) RT.nil)))))
      rintro _ _
      have hem:=QbS x
      simp(disch:=first|omega|exact PairsOK.mk rfl|(simp only[lenW]<;>omega)) only[htm,Qac,Qad,Qae,wW,wV,simprocAttr]
      refine⟨i+1,by omega,by omega,?_⟩
      rw[hsuc,List.map_append]
      refine⟨[(51,.blk 51 0),(52,.blk 52 0),(76,.blk 76 1)],rfl,au0,?_,au19⟩
      exact RB.cells rfl rfl gg (RnL.same rfl) (RB.cells rfl rfl gg (RnL.cons (Rn.same hno) (RnL.cons (Rn.same (Qab _)) (RnL.cons (Rn.x1 rfl rfl) RnL.nil))) (RB.cells rfl rfl gg (RnL.same (SU.QaH (Qav QbS _) (Qav QbS [x]))) RB.nil))
    · have e : i = l.length := by omega
      subst e
      simp(disch:=first|omega|exact PairsOK.mk rfl|(simp only[lenW]<;>omega)) only[hlt,List.take_length,Qac,Qad,Qae,wW,wV,simprocAttr]
      refine⟨(),?_⟩
      refine⟨[(51,.blk 51 0),(52,.blk 52 0)],rfl,au0,?_,au19⟩
      exact RB.cells rfl rfl gg (RnL.same rfl) (RB.cells rfl rfl gg (RnL.cons (Rn.same hno) (RnL.cons (Rn.same (Qab _)) (RnL.cons (Rn.fzm rfl rfl rfl rfl (by simp) (RnL.same (Qav QbS _))) RnL.nil))) RB.nil)
  rintro _ _
  simp(disch:=first|omega|exact PairsOK.mk rfl|(simp only[lenW]<;>omega)) only[Qac,Qad,Qae,wW,wV,simprocAttr]
  refine⟨.inr trivial,_,rfl,?_⟩
  exact Rn.same (Qcg l)
end Go.AM.SO
namespace Go.AM.SO
open Go.Proofs Go.AM.SD Go.AM.SE
theorem QcZ (l:List Aut):noRefs [auts l,sliN (evA l),.fsl (l.map emV) l.length 1]=true:=by
 have:=Qcg l
 rwa [macV,noRef]at this
theorem QmY (n:Nat) (x:Int):(List.replicate n [AV.int .i64 x]).flatten=ints (List.replicate n x):=by
 induction n with
 |zero=>rfl
 |succ n ih=>rw[List.replicate_succ,List.flatten_cons,ih];rfl
theorem Qps (n:Nat):nz (List.replicate n 0)=List.replicate n 0:=by simp[nz]
theorem initial97 (l:List Aut) (h:∀a∈l,WfI a) (h0:0<l.length) (hl:l.length<=12):PSpec Tryz.prog 97 [macV l] (.tup [sliN (List.replicate l.length 0),.bool true]):=by
  refine PSpec.of_rn 64 TP.ok97 rfl (by rw[noRefs,Qcg];rfl) (by rw[noRef,noRefs,Qab];rfl) ?_
  have hno:=QaP l
  have hnm:=QcZ l
  have hn':(l.length:Int)<=1099511627776:=by omega
  have hn8:(8:Int)*l.length<=1099511627776:=by omega
  simp(disch:=first|omega|exact PairsOK.mk rfl|(simp only[lenW]<;>omega)) only[TP.s97,Qac,Qad,Qae,wW,wV,simprocAttr]
  refine Qar 100 (fun i:Nat=>[(1,.ptr 51 0 0),(7,auts l),(8,.int .i64 l.length),(9,.int .i64 i)]) (fun _=>[(51,.cells 0 [auts l,sliN (evA l),.fsl (l.map emV) l.length 1])]) (fun i=>i<=l.length) (fun i=>l.length-i) 0 0 140 (fun _:Unit=>[(1,.ptr 51 0 0)]) (fun _=>[(51,.cells 0 [auts l,sliN (evA l),.fsl (l.map emV) l.length 1])]) (fun _=>True) ⟨[(51,.blk 64 0)],rfl,au0,?_,au19⟩ (Nat.zero_le _) ?_ ?_
  · exact RB.cells rfl rfl gg (RnL.same hnm) RB.nil
  · rintro i hi
    by_cases hlt:i<l.length
    · obtain ⟨x, hx⟩ := Qak hlt
      have hwi:=h x (List.mem_of_getElem? hx)
      have hdr:=Qc7 hx
      have hdl:4<=((l.flatMap auC).drop (i*4)).length:=by rw[hdr];simp
      have hp:¬(x.n:Int)=0:=by have:=hwi.pos;omega
      simp(disch:=first|omega|exact PairsOK.mk rfl|(simp only[lenW]<;>omega)) only[hlt,hdr,hdl,hp,Qac,Qad,Qae,wW,wV,simprocAttr]
      refine⟨i+1,by omega,by omega,?_⟩
      refine⟨[(51,.blk 51 0)],rfl,au0,?_,au19⟩
      exact RB.cells rfl rfl gg (RnL.same hnm) RB.nil
    · simp (disch := first | omega | exact PairsOK.mk rfl | (simp only [lenW] <;> omega)) only [hlt, Qac, Qad, Qae, wW, wV, simprocAttr]
      refine⟨(),?_⟩
      refine⟨[(51,.blk 51 0)],rfl,au0,?_,au19⟩
      exact RB.cells rfl rfl gg (RnL.same hnm) RB.nil
  rintro _ _
  simp(disch:=first|omega|exact PairsOK.mk rfl|(simp only[lenW]<;>omega)) only[hn',hn8,QmY,Qac,Qad,Qae,wW,wV,simprocAttr]
  refine⟨.inr trivial,_,rfl,?_⟩
  refine Rn.tup (RnL.cons ?_ (RnL.same rfl))
  have e:sliN (List.replicate l.length 0)= .fsl (ints (List.replicate l.length 0)) l.length 1:=by rw[sliN,Qps,List.length_replicate]
  rw[e]
  exact Rn.fz0 (b:=143) rfl (by simp[ints]) (RnL.same (Qaa _))
theorem _root_.Go.AM.au20 {p:Prop} (h:p:=by repeat' (first|exact RB.nil|(refine RnL.same ?_;first|rfl|(simp only[noRef,noRefs,Qai,Bool.and_self,Bool.and_true,Bool.true_and,Qaa,Qay,Qab,Qax,Qbc,Qag];done))|exact RnM.keyM rfl|exact RnL.nil|exact(True.intro:RnM _ _ _ [] [])|refine RnL.cons ?_ ?_|(refine Rn.same ?_;first|rfl|(simp only[noRef,noRefs,Qai,Bool.and_self,Bool.and_true,Bool.true_and,Qaa,Qay,Qab,Qax,Qbc,Qag];done))|exact Rn.x1 rfl rfl|exact Rn.x2 rfl rfl|exact Rn.x3 rfl rfl|exact Rn.x4 rfl rfl|exact Rn.x5 rfl|exact Rn.x6 rfl|exact Rn.x7 rfl|refine RB.newnil rfl rfl ?_|refine RB.cells rfl rfl rfl ?_ ?_|refine RB.map rfl rfl rfl ?_ ?_|refine RB.cellsB rfl rfl ?_ ?_|refine RB.mapB rfl rfl ?_ ?_)):p:=h
theorem marked99 (l : List Aut) (t : List Nat) (h : ∀ a ∈ l, WfI a) (hl : l.length <= 12) (ht : t.length = l.length) : PSpec Tryz.prog 99 [macV l, sliN t] (.bool (mkdT l t)) := by
  refine PSpec.of_rn 64 TP.ok99 rfl (by rw[noRefs,Qcg,noRefs,Qab];rfl) rfl ?_
  have hno:=QaP l
  have hnm:=QcZ l
  simp(disch:=first|omega|exact PairsOK.mk rfl|(simp only[lenW]<;>omega)) only[TP.s99,Qac,Qad,Qae,wW,wV,simprocAttr]
  refine Qar 100 (fun i:Nat=>[(1,sliN t),(8,auts l),(9,.int .i64 l.length),(10,.int .i64 i)]) (fun _=>[]) (fun i=>i<=l.length/\mkdT l t=mkdT (l.drop i) (t.drop i)) (fun i=>l.length-i) 0 0 140 (fun _:Unit=>[]) (fun _=>[]) (fun _=>mkdT l t=true) ⟨[],rfl,au0,au20,au19⟩ ⟨Nat.zero_le _,rfl⟩ ?_ ?_
  · rintro i ⟨hi, hm⟩
    by_cases hlt:i<l.length
    · obtain ⟨x, hx⟩ := Qak hlt
      obtain⟨y,hy⟩:=Qak (l:=t) (i:=i) (by omega)
      have hwi:=h x (List.mem_of_getElem? hx)
      have hdr:=Qc7 hx
      have hdl:4<=((l.flatMap auC).drop (i*4)).length:=by rw[hdr];simp
      have hlt2:i<t.length:=by omega
      have hst:mkdT (l.drop i) (t.drop i)=(x.ms.contains y&&mkdT (l.drop (i+1)) (t.drop (i+1))):=by
        obtain⟨h1,e1⟩:=List.getElem?_eq_some_iff.1 hx
        obtain⟨h2,e2⟩:=List.getElem?_eq_some_iff.1 hy
        rw[List.drop_eq_getElem_cons h1,List.drop_eq_getElem_cons h2,e1,e2];rfl
      have hc:=has189 x.ms y hwi.wf.ms (by have:=QaQ x.n x.ms hwi.wf.nd hwi.wf.msn;have:=hwi.n3;omega)
      cases hq:x.ms.contains y
      · rw [hq] at hc hst
        simp(disch:=first|omega|exact PairsOK.mk rfl|(simp only[lenW]<;>omega)) only[hlt,hlt2,hdr,hdl,QaI hy,Qac,Qad,Qae,wW,wV,simprocAttr]
        refine cp hc ?_
        simp(disch:=first|omega|exact PairsOK.mk rfl|(simp only[lenW]<;>omega)) only[Qac,Qad,Qae,wW,wV,simprocAttr]
        refine⟨.inr trivial,_,rfl,?_⟩
        rw[hm,hst]
        exact Rn.same rfl
      · rw [hq, Bool.true_and] at hst
        rw[hq]at hc
        simp(disch:=first|omega|exact PairsOK.mk rfl|(simp only[lenW]<;>omega)) only[hlt,hlt2,hdr,hdl,QaI hy,Qac,Qad,Qae,wW,wV,simprocAttr]
        refine cp hc ?_
        simp(disch:=first|omega|exact PairsOK.mk rfl|(simp only[lenW]<;>omega)) only[Qac,Qad,Qae,wW,wV,simprocAttr]
        exact⟨i+1,by omega,⟨by omega,by rw[hm,hst]⟩,⟨[],rfl,au0,au20,au19⟩⟩
    · have e : i = l.length := by omega
      subst e
      simp(disch:=first|omega|exact PairsOK.mk rfl|(simp only[lenW]<;>omega)) only[hlt,Qac,Qad,Qae,wW,wV,simprocAttr]
      refine⟨(),by rw[hm,List.drop_eq_nil_of_le (Nat.le_refl _)];rfl,?_⟩
      exact⟨[],rfl,au0,au20,au19⟩
  rintro _ hm
  simp(disch:=first|omega|exact PairsOK.mk rfl|(simp only[lenW]<;>omega)) only[Qac,Qad,Qae,wW,wV,simprocAttr]
  refine⟨.inr trivial,_,rfl,?_⟩
  rw[hm]
  exact Rn.same rfl
def stV:Option (List Nat)->AV
 |some n=> .tup [sliN n,.bool true]
 |none=> .tup [.nilsl,.bool false]
theorem QmZ (o:Option (List Nat)):noRef (stV o)=true:=by
 cases o with
 |none=>rfl
 |some n=>rw[stV,noRef,noRefs,Qab];rfl
theorem Qjx {l:List Aut} {t:List Nat} {e:Nat} {k:Nat} (h:stp l t e k=none):∀m,stp l t e (k+m)=none
 |0=>h
 |m+1=>by
  have:=Qjx h m
  show stp l t e (k+m+1)=none
  unfold stp;rw[this]
theorem Qpt {l:List Nat} {i x:Nat}:(ints (nz l)).set i (.int .i64 (x:Int))=ints (nz (l.set i x)):=by simp[ints,nz,List.map_set]
theorem Qov {l:List Aut} {i:Nat} {x:Aut} (h:l[i]?=some x):((l.map emV).drop i).head?=some (emV x):=by
 rw[List.head?_drop,List.getElem?_map,h];rfl
theorem step100 (l : List Aut) (t : List Nat) (e : Nat) (h : ∀ a ∈ l, WfI a) (h0 : 0 < l.length) (hl : l.length <= 12) (ht : t.length = l.length) : PSpec Tryz.prog 100 [macV l, sliN t, .int .i64 (e : Int)] (stV (stepT l t e)) := by
  refine PSpec.of_rn 64 TP.ok100 rfl (by rw[noRefs,Qcg,noRefs,Qab];rfl) (QmZ _) ?_
  have hno:=QaP l
  have hnm:=QcZ l
  have hml:(l.map emV).length=l.length:=List.length_map ..
  have hcl:=clone56 t (by omega)
  simp(disch:=first|omega|exact PairsOK.mk rfl|(simp only[lenW]<;>omega)) only[TP.s100,Qac,Qad,Qae,wW,wV,simprocAttr]
  refine ch (HSpec.of_O (b:=83) (by rw[noRefs,Qab];rfl) hcl (by repeat (first|exact Fresh.e|exact Fresh.le (by assumption) (by omega)|refine Fresh.set ?_ (by omega) (by omega))) rfl) ?_
  simp(disch:=first|omega|exact PairsOK.mk rfl|(simp only[lenW]<;>omega)) only[Qac,Qad,Qae,wW,wV,simprocAttr]
  refine Qar 120 (fun s:Nat×List Nat=>[(1,sliN t),(2,.int .i64 (e:Int)),(3,.ptr 51 0 0),(8,.sl 60 0 0 t.length 1),(16,auts l),(17,.int .i64 l.length),(18,.int .i64 s.1)]) (fun s=>[(51,.cells 0 [auts l,sliN (evA l),.fsl (l.map emV) l.length 1]),(60,.cells 0 (ints (nz s.2)))]) (fun s=>s.1<=l.length/\s.2.length=t.length/\stp l t e s.1=some s.2) (fun s=>l.length-s.1) (0,t) 0 200 (fun n:List Nat=>[(8,.sl 60 0 0 t.length 1)]) (fun n=>[(60,.cells 0 (ints (nz n)))]) (fun n=>n.length=t.length/\stepT l t e=some n) ?_ ⟨Nat.zero_le _,rfl,rfl⟩ ?_ ?_
  · refine ⟨[(51, .blk 64 0), (60, .blk 83 0)], rfl, au0, ?_, au19⟩
    exact RB.cells rfl rfl gg (RnL.same hnm) (RB.cells rfl rfl gg (RnL.same (Qaa _)) RB.nil)
  · rintro ⟨i, n⟩ ⟨hi, hn, hs⟩
    dsimp only at hi hn hs⊢
    by_cases hlt:i<l.length
    · obtain ⟨x, hx⟩ := Qak hlt
      obtain⟨y,hy⟩:=Qak (l:=t) (i:=i) (by omega)
      have hyd:t.getD i 0=y:=by rw[List.getD_eq_getElem?_getD,hy];rfl
      have hwi:=h x (List.mem_of_getElem? hx)
      have hdr:=Qc7 hx
      have hdl:4<=((l.flatMap auC).drop (i*4)).length:=by rw[hdr];simp
      have hlt2:i<t.length:=by omega
      have hin:i+1<=n.length:=by omega
      have hc:=has189 x.al e hwi.wf.al (by have:=QgD hwi.wf;omega)
      have hstep:stp l t e (i+1)=if e∈x.al then(match stepA x.es y e with|some to=>some (n.set i to)|none=>none)else some n:=by
        unfold stp;rw[hs,hx,hyd]
        rfl
      by_cases hq:e∈x.al
      · rw [List.contains_iff_mem.2 hq] at hc
        rw[if_pos hq]at hstep
        simp(disch:=first|omega|exact PairsOK.mk rfl|(simp only[lenW]<;>omega)) only[hlt,hlt2,hdr,hdl,Qac,Qad,Qae,wW,wV,simprocAttr]
        refine cp hc ?_
        simp(disch:=first|omega|exact PairsOK.mk rfl|(simp only[lenW]<;>omega)) only[hlt,hlt2,Qov hx,QaI hy,hml,Qac,Qad,Qae,wW,wV,simprocAttr]
        cases hst:stepA x.es y e with
        | none =>
          rw[hst]at hstep
          have hk:(y,e)∉x.es.map pE:=fun hm=>by
            obtain⟨d,hd,e2⟩:=List.mem_map.1 hm
            have h3:=QfY hwi.wf.es hd
            unfold pE at e2
            simp only[Prod.mk.injEq]at e2
            rw[e2.1,e2.2,hst]at h3;cases h3
          have hfin:stepT l t e=none:=by
            have:=Qjx hstep (l.length-(i+1))
            rwa [show i+1+(l.length-(i+1))=l.length by omega]at this
          refine Qic (c:=kP) (f:=vE x.es) (x:=(y,e)) (l:=x.es.map pE) Qi6 hk ?_
          simp(disch:=first|omega|exact PairsOK.mk rfl|(simp only[lenW]<;>omega)) only[Qac,Qad,Qae,wW,wV,simprocAttr]
          refine⟨.inr trivial,_,rfl,?_⟩
          rw[hfin]
          exact Rn.same rfl
        | some to =>
          rw[hst]at hstep
          have hv:vE x.es (y,e)= .int .i64 (to:Int):=by unfold vE;rw[hst];rfl
          refine Qi5 (c:=kP) (f:=vE x.es) (x:=(y,e)) (l:=x.es.map pE) Qi6 (Qdz hst) ?_
          rw[hv]
          simp(disch:=first|omega|exact PairsOK.mk rfl|(simp only[lenW]<;>omega)) only[hlt2,hin,Qpt,Qac,Qad,Qae,wW,wV,simprocAttr]
          refine⟨(i+1,n.set i to),by dsimp only;omega,⟨by dsimp only;omega,by rw[List.length_set];exact hn,hstep⟩,?_⟩
          refine⟨[(51,.blk 51 0),(60,.blk 60 0)],rfl,au0,?_,au19⟩
          exact RB.cells rfl rfl gg (RnL.same hnm) (RB.cells rfl rfl gg (RnL.same (Qaa _)) RB.nil)
      · rw [show x.al.contains e = false by rw [Bool.eq_false_iff]; exact fun hh => hq (List.contains_iff_mem.1 hh)] at hc
        rw[if_neg hq]at hstep
        simp(disch:=first|omega|exact PairsOK.mk rfl|(simp only[lenW]<;>omega)) only[hlt,hlt2,hdr,hdl,Qac,Qad,Qae,wW,wV,simprocAttr]
        refine cp hc ?_
        simp(disch:=first|omega|exact PairsOK.mk rfl|(simp only[lenW]<;>omega)) only[Qac,Qad,Qae,wW,wV,simprocAttr]
        refine⟨(i+1,n),by dsimp only;omega,⟨by dsimp only;omega,hn,hstep⟩,?_⟩
        refine⟨[(51,.blk 51 0),(60,.blk 60 0)],rfl,au0,?_,au19⟩
        exact RB.cells rfl rfl gg (RnL.same hnm) (RB.cells rfl rfl gg (RnL.same (Qaa _)) RB.nil)
    · have e2 : i = l.length := by omega
      subst e2
      simp(disch:=first|omega|exact PairsOK.mk rfl|(simp only[lenW]<;>omega)) only[hlt,Qac,Qad,Qae,wW,wV,simprocAttr]
      refine⟨n,⟨hn,hs⟩,?_⟩
      refine⟨[(60,.blk 60 0)],rfl,au0,?_,au19⟩
      exact RB.cells rfl rfl gg (RnL.same (Qaa _)) RB.nil
  rintro n ⟨hn,hs⟩
  simp(disch:=first|omega|exact PairsOK.mk rfl|(simp only[lenW]<;>omega)) only[Qac,Qad,Qae,wW,wV,simprocAttr]
  refine⟨.inr trivial,_,rfl,?_⟩
  rw[hs]
  refine Rn.tup (RnL.cons ?_ (RnL.same rfl))
  rw[<-hn]
  exact Rn.fz0 gg (by simp[ints]) (RnL.same (Qaa _))
end Go.AM.SO
namespace Go.AM.TK
open Go.Proofs
def f72:FFn:=⟨18,[.tmp 2],
 (fq [fz 2 (.mov (.c (.str []))) []] 4
 (fq [fz 3 (.allocT 238 .dyn (.agg [.nilptr,fN])) []] 0
 (.seq (fq [fm 6 0 [],
 fv 7 6 [0],
 fn 8 0 []] 1
 (.block 0 (.loop (fq [fb 9 .lss 8 7 []] 0
 (.seq (fo 9 0)
 (.seq (.block 1 (fq [fi 10 1 6 8 [],
 fl 11 10 [0],
 fm 5 11 [1,0,1]] 3584
 (fr [fm 12 5 [],
 fg 13 155 [12] [0],
 fz 14 (.bin .add (.t 13) (.c (.str [32]))) [1],
 fg 15 154 [3,14] [2,1]] 61472)))
 (fr [fc 16 .add 8 1 [],
 ⟨false,⟨(some 8),.mov (.t 16),[0],none⟩⟩] 65536)))))))
 (fq [fg 17 156 [3] [],
 fm 2 17 [0,0,0]] 131528
 .ret))))⟩
def f98:FFn:=⟨18,[.tmp 2],
 (fq [fz 2 (.mov (.c (.str []))) []] 4
 (fq [fz 3 (.allocT 238 .dyn (.agg [.nilptr,fN])) []] 0
 (.seq (fq [fm 6 0 [],
 fv 7 6 [0],
 fn 8 0 []] 1
 (.block 0 (.loop (fq [fb 9 .lss 8 7 []] 0
 (.seq (fo 9 0)
 (.seq (.block 1 (fq [fi 10 1 6 8 [],
 fl 11 10 [0],
 fm 5 11 [1,0,1]] 3584
 (fq [fm 12 5 [],
 fg 13 155 [12] [0],
 fg 14 154 [3,13] [1,1]] 28704
 (fr [fz 15 (.call .heap (.f 188) [(.t 3),(.c (.int .u8 (.ofNat 32)))]) []] 32768))))
 (fr [fc 16 .add 8 1 [],
 ⟨false,⟨(some 8),.mov (.t 16),[0],none⟩⟩] 65536)))))))
 (fq [fg 17 156 [3] [],
 fm 2 17 [0,0,0]] 131528
 .ret))))⟩
def f154:FFn:=⟨19,[.tmp 4,.tmp 5],
 (fq [fn 4 0 [],
 fz 5 (.mov (.c .nilif)) [0]] 48
 (fq [fm 6 0 [],
 fg 7 200 [6] [0]] 192
 (fq [fm 8 0 [],
 fm 9 0 [],
 fz 10 (.nilchk (.t 9)) [1],
 ff 11 1 10 [2],
 fl 12 11 [3],
 fm 13 1 [],
 fz 14 (.appendT 5 .dyn 1 1 (.t 12) (.t 13)) [4,5],
 fz 15 (.nilchk (.t 8)) (fa [0] 7),
 ff 16 1 15 (fa [7] 7),
 fj 1 16 14 (fa [8,6,6] 7)] 130817
 (fq [fm 17 1 [],
 fz 18 (.len 0 (.t 17)) [0],
 fm 4 18 [1,0,1],
 fz 5 (.mov (.c .nilif)) [2,0,1,2]] 393218
 .ret))))⟩
def f155:FFn:=⟨5,[.tmp 2],
 (fq [fz 2 (.mov (.c (.str []))) []] 4
 (fq [fm 3 0 [],
 fg 4 201 [3] [0],
 fm 2 4 [1,1,0,1]] 25
 .ret))⟩
def f156:FFn:=⟨14,[.tmp 2],
 (fq [fz 2 (.mov (.c (.str []))) []] 4
 (fq [fm 3 0 [],
 fz 4 (.nilchk (.t 3)) [0],
 ff 5 1 4 [1],
 fl 6 5 [2],
 fz 7 (.usd (.t 6)) [3],
 fm 8 0 [],
 fz 9 (.nilchk (.t 8)) [5],
 ff 10 1 9 [6],
 fl 11 10 [7],
 fv 12 11 [8],
 fz 13 (.ustr 5 (.t 7) (.t 12)) [4,9],
 fm 2 13 (fa [10] 11)] 16377
 .ret))⟩
def f188:FFn:=⟨17,[.tmp 4],
 (fq [fz 4 (.mov (.c .nilif)) []] 16
 (fq [fm 5 0 [],
 fg 6 200 [5] [0]] 96
 (fq [fm 7 0 [],
 fm 8 0 [],
 fz 9 (.nilchk (.t 8)) [1],
 ff 10 1 9 [2],
 fl 11 10 [3],
 fm 12 1 [],
 fz 13 (.bslice false .dyn 1 1 [(.int .u8 (.ofNat 0))] [(0,1,(.t 12))]) [5],
 fz 14 (.appendT 5 .dyn 1 1 (.t 11) (.t 13)) [4,6],
 fz 15 (.nilchk (.t 7)) (fa [0] 8),
 ff 16 1 15 (fa [8] 8),
 fj 1 16 14 (fa [9,7,7] 8)] 130947
 (fq [fz 4 (.mov (.c .nilif)) []] 0
 .ret))))⟩
def f200:FFn:=⟨20,[],
 (fq [fm 2 0 [],
 fz 3 (.nilchk (.t 2)) [0],
 ff 4 0 3 [1],
 fl 5 4 [2],
 fz 6 (.eq (.nil 1) false (.t 5) (.c .nilptr)) [3]] 60
 (.cond (.t 6)
 (fr [fm 7 0 [],
 fm 8 0 [],
 fz 9 (.convP 238 2 (.t 8)) [1],
 fz 10 (.ext 2 231 [(.t 9)]) [2],
 fz 11 (.convP 238 2 (.t 10)) [3],
 fz 12 (.nilchk (.t 7)) (fa [0] 5),
 ff 13 0 12 (fa [5] 5),
 fj 1 13 11 (fa [6,4,3] 5)] 16321)
 (fq [fm 14 0 [],
 fz 15 (.nilchk (.t 14)) [0],
 ff 16 0 15 [1],
 fl 17 16 [2],
 fm 18 0 [],
 fz 19 (.eqp true (.t 17) (.t 18)) [3,4]] 507969
 (.cond (.t 19)
 .bad
 .skip))))⟩
def f201:FFn:=⟨5,[.tmp 2],
 (fq [fz 2 (.mov (.c (.str []))) []] 4
 (fq [fm 3 0 [],
 fz 4 (.call .heap (.f 232) [(.t 3),(fk 10)]) [0],
 fm 2 4 [1,1,0,1]] 25
 .ret))⟩
def f232:FFn:=⟨54,[.tmp 4],
 (fq [fz 4 (.mov (.c (.str []))) []] 16
 (.seq (fq [fm 10 1 [],
 fc 11 .eql 10 10 [0]] 1024
 (.cond (.t 11)
 (.seq (fq [fm 12 0 [],
 fz 13 (.bin .leq (fk 0) (.t 12)) [0],
 fm 14 13 [1],
 fx 15 (.mov (.t 0)) [2] 14 true,
 fx 16 (.bin .lss (.t 15) (fk 100)) [3,2] 14 true,
 fz 17 (.pick (.t 14) (.t 16) (.c (.bool false))) [2,4]] 129026
 (.cond (.t 17)
 (fq [fm 18 0 [],
 fg 19 263 [18] [0],
 fm 4 19 [1,1,0,1]] 917505
 .ret)
 .skip))
 (fq [fz 5 (.alloc .dyn (.agg [(.int .u8 (.ofNat 0)),(.int .u8 (.ofNat 0)),(.int .u8 (.ofNat 0)),(.int .u8 (.ofNat 0)),(.int .u8 (.ofNat 0)),(.int .u8 (.ofNat 0)),(.int .u8 (.ofNat 0)),(.int .u8 (.ofNat 0)),(.int .u8 (.ofNat 0)),(.int .u8 (.ofNat 0)),(.int .u8 (.ofNat 0)),(.int .u8 (.ofNat 0)),(.int .u8 (.ofNat 0)),(.int .u8 (.ofNat 0)),(.int .u8 (.ofNat 0)),(.int .u8 (.ofNat 0)),(.int .u8 (.ofNat 0)),(.int .u8 (.ofNat 0)),(.int .u8 (.ofNat 0)),(.int .u8 (.ofNat 0)),(.int .u8 (.ofNat 0)),(.int .u8 (.ofNat 0)),(.int .u8 (.ofNat 0)),(.int .u8 (.ofNat 0))])) []] 131088
 (fq [fm 20 0 [],
 fz 21 (.conv .u64 (.t 20)) [0],
 fm 6 21 [1,0,1]] 3145728
 (.seq (fq [fm 22 0 [],
 fc 23 .lss 22 0 [0]] 4194304
 (.cond (.t 23)
 (fr [fm 24 6 [],
 fz 25 (.un .neg (.t 24)) [0],
 ⟨false,⟨(some 6),.mov (.t 25),[1,0,1],none⟩⟩] 58720256)
 .skip))
 (fq [fm 26 6 [],
 fg 27 264 [26] [0],
 fm 7 27 [1,1,0,1]] 209715200
 (fq [fm 28 7 [],
 fz 29 (.bin .add (fk 1) (.t 28)) [0],
 fz 30 .bad [1],
 fm 31 6 [],
 fg 32 265 [30,31] [2,3]] 8321499200
 (.seq (fq [fm 33 0 [],
 fc 34 .lss 33 0 [0]] 8589934593
 (.cond (.t 34)
 (fq [fz 35 (.iaddr (some 24) 1 (.t 5) (fk 0)) [],
 ⟨false,⟨none,.store 1 (.t 35) (.c (.int .u8 (.ofNat 45))),[0],none⟩⟩] 51539607584
 (fq [fm 36 7 [],
 fz 37 (.bin .add (fk 1) (.t 36)) [0],
 fz 38 .bad [1],
 fz 39 (.convB (.t 38)) [2],
 fm 4 39 [3,0,1,2,3]] 1030792151168
 .ret))
 .skip))
 (fq [fm 40 7 [],
 fz 41 (.bin .add (fk 1) (.t 40)) [0],
 fz 42 .bad [1],
 fz 43 (.convB (.t 42)) [2],
 ⟨false,⟨(some 4),.mov (.t 43),[3,0,1,2,3],none⟩⟩] 16509854285984
 .ret))))))))
 .skip))
 (fq [fm 45 0 [],
 fz 46 (.conv .u64 (.t 45)) [0],
 fm 47 1 [],
 fm 48 0 [],
 fc 49 .lss 48 0 [3],
 fz 50 (.call .heap (.f 266) [(.c fN),(.t 46),(.t 47),(.t 49),(.c (.bool false))]) [1,2,4],
 fm 44 50 [5],
 fe 51 0 44 [6],
 fe 52 1 44 [6],
 fm 8 51 (fa [7,5] 8),
 fm 9 52 (fa [8,9] 10)] 8989607068698899
 (fq [fm 53 9 [],
 fm 4 53 [0,0]] 9007199254741504
 .ret))))⟩
def f263:FFn:=⟨15,[.tmp 2],
 (fq [fz 2 (.mov (.c (.str []))) []] 4
 (.seq (fq [fm 3 0 [],
 fc 4 .lss 3 10 [0]] 8
 (.cond (.t 4)
 (fq [fm 5 0 [],
 fm 6 0 [],
 fc 7 .add 6 1 [1],
 fz 8 (.slice none (.c (.str [48,49,50,51,52,53,54,55,56,57,97,98,99,100,101,102,103,104,105,106,107,108,109,110,111,112,113,114,115,116,117,118,119,120,121,122])) (some (.t 5)) (some (.t 7)) none) [0,2],
 fm 2 8 [3,0,1,2,3]] 497
 .ret)
 .skip))
 (fq [fm 9 0 [],
 fc 10 .mul 9 2 [0],
 fm 11 0 [],
 fc 12 .mul 11 2 [2],
 fc 13 .add 12 2 [3],
 fz 14 (.slice none (.c (.str [48,48,48,49,48,50,48,51,48,52,48,53,48,54,48,55,48,56,48,57,49,48,49,49,49,50,49,51,49,52,49,53,49,54,49,55,49,56,49,57,50,48,50,49,50,50,50,51,50,52,50,53,50,54,50,55,50,56,50,57,51,48,51,49,51,50,51,51,51,52,51,53,51,54,51,55,51,56,51,57,52,48,52,49,52,50,52,51,52,52,52,53,52,54,52,55,52,56,52,57,53,48,53,49,53,50,53,51,53,52,53,53,53,54,53,55,53,56,53,57,54,48,54,49,54,50,54,51,54,52,54,53,54,54,54,55,54,56,54,57,55,48,55,49,55,50,55,51,55,52,55,53,55,54,55,55,55,56,55,57,56,48,56,49,56,50,56,51,56,52,56,53,56,54,56,55,56,56,56,57,57,48,57,49,57,50,57,51,57,52,57,53,57,54,57,55,57,56,57,57])) (some (.t 10)) (some (.t 13)) none) [1,4],
 ⟨false,⟨(some 2),.mov (.t 14),[5,0,1,2,3,4,5],none⟩⟩] 32273
 .ret)))⟩
def ft:FT2:=(.n 188 (.n 154 (.n 98 (.l 72 f72) (.l 98 f98)) (.n 155 (.l 154 f154) (.n 156 (.l 155 f155) (.l 156 f156)))) (.n 201 (.n 200 (.l 188 f188) (.l 200 f200)) (.n 232 (.l 201 f201) (.n 263 (.l 232 f232) (.l 263 f263)))))
theorem ft_ok:ft.OK Tryz.prog:=⟨⟨⟨kk,kk⟩,⟨kk,⟨kk,kk⟩⟩⟩,⟨⟨kk,kk⟩,⟨kk,⟨kk,kk⟩⟩⟩⟩
end Go.AM.TK
namespace Go.AM.SO
open Go.Proofs Go.AM.SD
noncomputable section
def keyT (t:List Nat):List UInt8:=t.flatMap fun x=>[UInt8.ofNat (48+x),32]
def keyB (k:Nat) (t:List Nat):Bool:=callR ansB noOrc TK.ft.get (exR ansB noOrc TK.ft.get 1000) (.c .pure) k [sliN t] .e 64 (fun u _ _=>eqAV (.str (keyT t)) u)
theorem Qpu {k:Nat} {t:List Nat} (h:keyB k t=true):PSpec Tryz.prog k [sliN t] (.str (keyT t)):=
 Qbl (t:=TK.ft) TK.ft_ok QcE (d:=1000) (eqAV _) (fun u h=>(Qcy _ _ h).symm) h
def allK (k n:Nat):List Nat->Bool:=@Nat.rec (fun _=>List Nat->Bool) (fun t=>keyB k t) (fun _ ih t=>ifB (ih (t++[0])) (ifB (ih (t++[1])) (ih (t++[2])) false) false) n
theorem QkW {k:Nat}:∀{t u:List Nat},allK k t.length u=true->(∀x∈t,x<3)->keyB k (u++t)=true
 |[],u,h,_=>by rw[List.append_nil];exact h
 | x :: t, u, h, h3 => by
  have e:allK k (x::t).length u=ifB (allK k t.length (u++[0])) (ifB (allK k t.length (u++[1])) (allK k t.length (u++[2])) false) false:=rfl
  rw[e]at h
  simp only[Qaq]at h
  have hx:=h3 x (by simp)
  have h4:allK k t.length (u++[x])=true:=by
   split at h
   ·rename_i h0
    split at h
    ·rename_i h1
     obtain rfl|rfl|rfl:x=0\/x=1\/x=2:=by omega
     ·exact h0
     ·exact h1
     ·exact h
    ·cases h
   ·cases h
  have:=QkW h4 fun y hy=>h3 y (by simp[hy])
  rw[List.append_assoc]at this
  exact this
theorem Qow:allK 98 1 []=true:=by kernel_rfl
theorem Qox:allK 98 2 []=true:=by kernel_rfl
theorem Qoy:allK 98 3 []=true:=by kernel_rfl
theorem key98 {t:List Nat} (h0:0<t.length) (hl:t.length<=3) (h3:∀x∈t,x<3):PSpec Tryz.prog 98 [sliN t] (.str (keyT t)):=by
 refine Qpu (QkW (u:=[]) ?_ h3)
 obtain e|e|e:t.length=1\/t.length=2\/t.length=3:=by omega
 ·rw[e];exact Qow
 ·rw[e];exact Qox
 ·rw[e];exact Qoy
theorem Qjy:∀{s t:List Nat},s.length=t.length->(∀x∈s,x<10)->(∀x∈t,x<10)->keyT s=keyT t->s=t
 |[],[],_,_,_,_=>rfl
 | x :: s, y :: t, hl, hs, ht, h => by
  have e1:keyT (x::s)=UInt8.ofNat (48+x)::32::keyT s:=rfl
  have e2:keyT (y::t)=UInt8.ofNat (48+y)::32::keyT t:=rfl
  rw[e1,e2]at h
  simp only[List.cons.injEq,true_and]at h
  have hx:=hs x (by simp)
  have hy:=ht y (by simp)
  have h1:x=y:=by
   have:=congrArg UInt8.toNat h.1
   simp only[UInt8.toNat_ofNat']at this
   omega
  subst h1
  rw[Qjy (by simpa using hl) (fun z hz=>hs z (by simp[hz])) (fun z hz=>ht z (by simp[hz])) h.2]
end
end Go.AM.SO
namespace Go.AM.SO
open Go.Proofs Go.AM.SD Go.AM.SE
abbrev ixT (T:List (List Nat)) (n:List Nat):Nat:=T.findIdx (· ==n)
theorem Qoz {A B:List (List Nat)} {n:List Nat} (h:A<+:B) (hn:n∈A):ixT A n=ixT B n:=by
 obtain⟨C,rfl⟩:=h
 have h1:A.findIdx (· ==n)<A.length:=List.findIdx_lt_length_of_exists ⟨n,hn,by simp⟩
 show _=(A++C).findIdx (· ==n)
 rw[List.findIdx_append,if_pos h1]
theorem QdX {A:List (List Nat)} {n:List Nat} (hn:n∉A):ixT A n=A.length:=by
 show A.findIdx (· ==n)=_
 rw[List.findIdx_eq_length]
 intro x hx
 simp
 exact fun e=>hn (e▸hx)
theorem QoA {A:List (List Nat)} {n:List Nat} (hn:n∉A):ixT A n=ixT (A++[n]) n:=by
 rw[QdX hn]
 show _=(A++[n]).findIdx (· ==n)
 have h:A.findIdx (· ==n)=A.length:=QdX hn
 rw[List.findIdx_append,h,if_neg (Nat.lt_irrefl _)]
 simp
theorem QnL {A B:List (List Nat)} (h:A<+:B) {j:Nat} (hj:j<A.length):B.getD j []=A.getD j []:=by
 obtain⟨C,rfl⟩:=h
 rw[List.getD_eq_getElem?_getD,List.getD_eq_getElem?_getD,List.getElem?_append_left hj]
theorem QkX {A B:List (List Nat)} (h:A<+:B) {j:Nat} (hj:j<A.length):B[j]?=A[j]?:=by
 obtain⟨C,rfl⟩:=h
 rw[List.getElem?_append_left hj]
end Go.AM.SO
namespace Go.AM.SO
open Go.Proofs Go.AM.SD Go.AM.SE
def keyC (t:List Nat):AV:= .str (keyT t)
def ixV (T:List (List Nat)) (t:List Nat):AV:= .int .i64 ((ixT T t:Nat):Int)
abbrev tuV (T:List (List Nat)):AV:= .fsl (T.map sliN) T.length 1
theorem QdC (T:List (List Nat)):noRef (tuV T)=true:=by rw[tuV,noRef];exact Qav Qab _
theorem InT.lt {l:List Aut} (h:∀a∈l,WfI a) {t:List Nat} (ht:InT l t) {x:Nat} (hx:x∈t):x<3:=by
 obtain⟨i,hi,hil⟩:=Qdq hx
 obtain⟨a,ha⟩:=Qak (l:=l) (i:=i) (by rw[<-ht.1];exact hil)
 have h1:=ht.2 i a ha
 rw[List.getD_eq_getElem?_getD,hi]at h1
 have h2:=(h a (List.mem_of_getElem? ha)).n3
 simp only[Option.getD_some]at h1
 omega
theorem Qjz {l:List Aut} (h:∀a∈l,WfI a) {x:List Nat} {T:List (List Nat)} (hx:InT l x) (hT:∀t∈T,InT l t):KeyG false [.s] keyC x T:=by
 have key:∀y,InT l y->keyEq false [.s] (keyC x) (keyC y)=some (decide (x=y)):=by
  intro y hy
  have e:keyEq false [.s] (keyC x) (keyC y)=some (decide (keyT x=keyT y)):=QeO
  rw[e]
  congr 1
  refine decide_eq_decide.2 ⟨fun hh=>Qjy (by rw[hx.1,hy.1]) (fun z hz=>?_) (fun z hz=>?_) hh,fun hh=>by rw[hh]⟩
  ·have:=hx.lt h hz;omega
  ·have:=hy.lt h hz;omega
 refine⟨?_,fun y hy=>key y (hT y hy)⟩
 unfold keyOK
 rw[key x hx]
theorem QkY {T:List (List Nat)} {n:List Nat} (hn:n∉T):mapG keyC (updG (ixV T) n (.int .i64 ((T.length:Nat):Int))) (T++[n])=mapG keyC (ixV (T++[n])) (T++[n]):=by
 refine Qgt fun x hx=>?_
 unfold updG
 split
 ·rename_i e; subst e
  unfold ixV
  rw[<-QoA hn,QdX hn]
 ·rename_i e
  unfold ixV
  rw[Qoz (List.prefix_append T [n]) (by
   rcases List.mem_append.1 hx with hx|hx
   ·exact hx
   ·simp at hx;exact absurd hx e)]
def marks (l:List Aut) (T:List (List Nat)) (i:Nat):List Nat:=(List.range i).filter fun j=>mkdT l (T.getD j [])
theorem Qlv {l:List Aut} {T:List (List Nat)} {i:Nat} {t:List Nat} (ht:T[i]?=some t):marks l T (i+1)=if mkdT l t=true then marks l T i++[i]else marks l T i:=by
 have e:T.getD i []=t:=by rw[List.getD_eq_getElem?_getD,ht];rfl
 unfold marks
 rw[List.range_succ,List.filter_append]
 by_cases hm:mkdT l t=true
 ·rw[if_pos hm,List.filter_cons_of_pos (by rw[e];exact hm),List.filter_nil]
 ·rw[if_neg hm,List.filter_cons_of_neg (by rw[e];exact hm),List.filter_nil,List.append_nil]
theorem Qh1 {l:List Aut} {A B:List (List Nat)} (h:A<+:B) {i:Nat} (hi:i<=A.length):marks l B i=marks l A i:=by
 unfold marks
 refine List.filter_congr fun j hj=>?_
 rw[QnL h (by have:=List.mem_range.1 hj;omega)]
theorem Qh2 {l:List Aut} {T:List (List Nat)} {i:Nat}:(marks l T i).length<=i:=by
 have:=List.length_filter_le (fun j=>mkdT l (T.getD j [])) (List.range i)
 rwa [List.length_range]at this
theorem QoB {l:List Aut} {i e:Nat} {t:List Nat} {s:List (List Nat)×List Ed}:(pEv l i t s e).2.length<=s.2.length+1:=by
 unfold pEv
 cases stepT l t e with
 |none=>exact Nat.le_succ _
 |some n=>simp
theorem Qdu {l:List Aut} {i:Nat} {t:List Nat}:∀{ev:List Nat} {s:List (List Nat)×List Ed},(pRow l ev i t s).2.length<=s.2.length+ev.length
 |[],s=>Nat.le_refl _
 |e::ev,s=>by
  have h1:=Qdu (l:=l) (i:=i) (t:=t) (ev:=ev) (s:=pEv l i t s e)
  have h2:=@QoB l i e t s
  show(pRow l ev i t (pEv l i t s e)).2.length<=_
  rw[List.length_cons];omega
theorem Qh3 {l:List Aut} {ev:List Nat} {i j e:Nat} {t:List Nat} {s:List (List Nat)×List Ed} (h:ev[j]?=some e):pRow l (ev.take (j+1)) i t s=pEv l i t (pRow l (ev.take j) i t s) e:=by
 unfold pRow
 rw[take_succ' h,List.foldl_append];rfl
theorem Qdv {T:List (List Nat)} {i:Nat} {t:List Nat} (h:T[i]?=some t):(T.map sliN)[i]?=some (sliN t):=by rw[List.getElem?_map,h];rfl
theorem QoC {l:List Aut} {ev:List Nat} {k i:Nat} {s:List (List Nat)×List Ed} (h:s.1[i]?=none):pQ l ev k i s=s:=by
 cases k with
 |zero=>rfl
 |succ k=>unfold pQ;rw[h]
theorem sync28 (l : List Aut) (h : ∀ a ∈ l, WfI a) (h0 : 0 < l.length) (hl : l.length <= 5) (hkey : ∀ t, InT l t -> PSpec Tryz.prog 98 [sliN t] (.str (keyT t))) :
    PSpec Tryz.prog 28 [auts l] (.tup [aV (syncA l),tuV (sync0 l).1,.int .i64 0]):=by
  have hno:=QaP l
  have hnm:=QcZ l
  have hnr:noRef (.tup [aV (syncA l),tuV (sync0 l).1,.int .i64 0])=true:=by
    rw[noRef,noRefs,noRefs,QdC,noRef,noRefs,noRefs,noRefs,noRefs,Qab,Qab,Qax];rfl
  refine PSpec.of_rn 64 TP.ok28 rfl (by rw[noRefs,hno];rfl) hnr ?_
  have hw:∀a∈l,∀e∈a.es,e.1<a.n/\e.2.2<a.n:=fun a ha=>(h a ha).wf.esn
  have hpos:∀a∈l,0<a.n:=fun a ha=>(h a ha).pos
  have hbox:box l<=243:=Nat.le_trans (QmK (fun a ha=>(h a ha).n3) (by omega)) (Nat.pow_le_pow_right (n:=3) (by omega) hl)
  have hc:=check95 l h (by omega)
  have ho:=open96 l h (by omega)
  have hi:=initial97 l h h0 (by omega)
  have hst0:=Qjs (l:=l) hpos
  have hin0:InT l (List.replicate l.length 0):=hst0.inT _ (by simp)
  have hk0:=hkey _ hin0
  have hev5:=Qg5 h
  have hml:(l.map emV).length=l.length:=List.length_map ..
  simp(disch:=first|omega|exact PairsOK.mk rfl|(simp only[lenW]<;>omega)) only[TP.s28,Qac,Qad,Qae,wW,wV,simprocAttr]
  refine cp hc ?_
  simp(disch:=first|omega|exact PairsOK.mk rfl|(simp only[lenW]<;>omega)) only[Qac,Qad,Qae,wW,wV,simprocAttr]
  refine cp ho ?_
  simp(disch:=first|omega|exact PairsOK.mk rfl|(simp only[lenW]<;>omega)) only[Qac,Qad,Qae,wW,wV,simprocAttr]
  refine cp hi ?_
  simp(disch:=first|omega|exact PairsOK.mk rfl|(simp only[lenW]<;>omega)) only[Qac,Qad,Qae,wW,wV,simprocAttr]
  refine cp hk0 ?_
  simp(disch:=first|omega|exact PairsOK.mk rfl|(simp only[lenW]<;>omega)) only[Qac,Qad,Qae,wW,wV,simprocAttr]
  refine Qcm (c:=keyC) (f:=fun _=> .nilsl) (x:=List.replicate l.length 0) (l:=[]) (g:=0) gg (Qjz h hin0 fun t ht=>by cases ht) (by simp) (by omega) ?_
  have hm0:mapG keyC (updG (fun _=> .nilsl) (List.replicate l.length 0) (.int .i64 0)) ([]++[List.replicate l.length 0])=mapG keyC (ixV [List.replicate l.length 0]) [List.replicate l.length 0]:=by
    refine Qgt fun x hx=>?_
    have hx:x=List.replicate l.length 0:=by simpa using hx
    subst hx
    unfold updG ixV
    rw[if_pos rfl]
    simp[ixT]
  rw[hm0]
  simp(disch:=first|omega|exact PairsOK.mk rfl|(simp only[lenW]<;>omega)) only[Qac,Qad,Qae,wW,wV,simprocAttr]
  refine Qar 320 (fun q:Nat×(List (List Nat)×List Ed)=>[(2,.ptr 51 0 0),(6,.ptr 52 0 0),(3,.sl 60 0 0 q.2.1.length 1),(9,.map 53 0),(10,.int .i64 (q.1))]) (fun q=>[(51,.cells 0 [sliN (evA l),.int .i64 0,.sl 70 0 0 (marks l q.2.1 q.1).length 1,.sl 71 0 0 q.2.2.length 3]),(52,.cells 0 [auts l,sliN (evA l),.fsl (l.map emV) l.length 1]),(53,.map 0 (mapG keyC (ixV q.2.1) q.2.1)),(60,.cells 0 (q.2.1.map sliN)),(70,.cells 0 (ints (nz (marks l q.2.1 q.1)))),(71,.cells 0 (q.2.2.flatMap edC))]) (fun q=>q.1<=q.2.1.length/\PI l q.2/\q.2.2.length<=q.1*5/\pQ l (evA l) (box l+1-q.1) q.1 q.2=sync0 l) (fun q=>box l+1-q.1) (0,([List.replicate l.length 0],[])) 0 900
    (fun _:Unit=>[(2,.ptr 51 0 0),(3,tuV (sync0 l).1)]) (fun _=>[(51,.cells 0 [sliN (evA l),.int .i64 0,sliN (marks l (sync0 l).1 (sync0 l).1.length),egsN (sync0 l).2])]) (fun _=>True) ?_ ⟨Nat.zero_le _,hst0,Nat.zero_le _,rfl⟩ ?_ ?_
  · refine ⟨[(51, .blk 64 0), (52, .blk 74 0), (53, .blk 92 0), (60, .blk 90 0), (70, .nil), (71, .nil)], rfl, au0, ?_, au19⟩
    exact RB.cells rfl rfl gg (RnL.cons (Rn.same (Qab _)) (RnL.cons (Rn.same rfl) (RnL.cons (Rn.x4 rfl rfl) (RnL.cons (Rn.x4 rfl rfl) RnL.nil)))) (RB.cells rfl rfl gg (RnL.same hnm) (RB.map rfl rfl gg (RnM.mapG fun _ _=>⟨rfl,rfl⟩) (RB.cells rfl rfl gg (RnL.eq (by simp) (Qav Qab _)) (RB.newnil rfl rfl (RB.newnil rfl rfl RB.nil)))))
  · rintro ⟨i, s⟩ ⟨hi, hp, hel, hq⟩
    dsimp only at hi hp hel hq⊢
    have hsb:=QcW hp.nd hp.inT
    have hsml:(s.1.map sliN).length=s.1.length:=List.length_map ..
    by_cases hlt:i<s.1.length
    · obtain ⟨t, ht⟩ := Qak hlt
      have hti:=hp.inT t (List.mem_of_getElem? ht)
      have hmc:=marked99 l t h (by omega) hti.1
      have hms:=Qlv (l:=l) ht
      have hml5:=@Qh2 l s.1 i
      have hpw:=Qek (l:=l) (i:=i) (t:=t) (ev:=evA l) (s:=s)
      have hpo:=QdU (i:=i) (ev:=evA l) hw hti hp
      have hpn:=Qdu (l:=l) (i:=i) (t:=t) (ev:=evA l) (s:=s)
      have hq':pQ l (evA l) (box l+1-(i+1)) (i+1) (pRow l (evA l) i t s)=sync0 l:=by
        rw[<-hq,show box l+1-i=(box l+1-(i+1))+1 by omega]
        simp only[pQ,ht]
      cases hmb:mkdT l t
      · rw [hmb] at hmc hms
        rw[if_neg (by simp)]at hms
        simp(disch:=first|omega|exact PairsOK.mk rfl|(simp only[lenW]<;>omega)) only[hlt,Qdv ht,Qac,Qad,Qae,wW,wV,simprocAttr]
        refine cp hmc ?_
        simp(disch:=first|omega|exact PairsOK.mk rfl|(simp only[lenW]<;>omega)) only[Qac,Qad,Qae,wW,wV,simprocAttr]
        have hmk:marks l s.1 (i+1)=marks l s.1 i:=hms
        refine Qar 420 (fun j:Nat=>[(2,.ptr 51 0 0),(6,.ptr 52 0 0),(3,.sl 60 0 0 (pRow l ((evA l).take j) i t s).1.length 1),(9,.map 53 0),(10,.int .i64 (i)),(61,sliN (evA l)),(62,.int .i64 (evA l).length),(63,.int .i64 j)]) (fun j=>[(51,.cells 0 [sliN (evA l),.int .i64 0,.sl 70 0 0 (marks l s.1 (i+1)).length 1,.sl 71 0 0 (pRow l ((evA l).take j) i t s).2.length 3]),(52,.cells 0 [auts l,sliN (evA l),.fsl (l.map emV) l.length 1]),(53,.map 0 (mapG keyC (ixV (pRow l ((evA l).take j) i t s).1) (pRow l ((evA l).take j) i t s).1)),(60,.cells 0 ((pRow l ((evA l).take j) i t s).1.map sliN)),(70,.cells 0 (ints (nz (marks l s.1 (i+1))))),(71,.cells 0 ((pRow l ((evA l).take j) i t s).2.flatMap edC))]) (fun j=>j<=(evA l).length) (fun j=>(evA l).length-j) 0 2 700 (fun _:Unit=>[(2,.ptr 51 0 0),(6,.ptr 52 0 0),(3,.sl 60 0 0 (pRow l (evA l) i t s).1.length 1),(9,.map 53 0),(10,.int .i64 (i))]) (fun _=>[(51,.cells 0 [sliN (evA l),.int .i64 0,.sl 70 0 0 (marks l s.1 (i+1)).length 1,.sl 71 0 0 (pRow l (evA l) i t s).2.length 3]),(52,.cells 0 [auts l,sliN (evA l),.fsl (l.map emV) l.length 1]),(53,.map 0 (mapG keyC (ixV (pRow l (evA l) i t s).1) (pRow l (evA l) i t s).1)),(60,.cells 0 ((pRow l (evA l) i t s).1.map sliN)),(70,.cells 0 (ints (nz (marks l s.1 (i+1))))),(71,.cells 0 ((pRow l (evA l) i t s).2.flatMap edC))]) (fun _=>True) ?_ (Nat.zero_le _) ?_ ?_
        · show Rec _ _ [(51, .cells 0 [sliN (evA l), .int .i64 0, .sl 70 0 0 (marks l s.1 (i + 1)).length 1, .sl 71 0 0 s.2.length 3]), (52, .cells 0 [auts l, sliN (evA l), .fsl (l.map emV) l.length 1]), (53, .map 0 (mapG keyC (ixV s.1) s.1)), (60, .cells 0 (s.1.map sliN)), (70, .cells 0 (ints (nz (marks l s.1 (i + 1))))), (71, .cells 0 (s.2.flatMap edC))] _ _
          rw[hmk]
          refine⟨[(51,.blk 51 0),(52,.blk 52 0),(53,.blk 53 0),(60,.blk 60 0),(70,.blk 70 0),(71,.blk 71 0)],rfl,au0,?_,au19⟩
          exact RB.cells rfl rfl gg (RnL.cons (Rn.same (Qab _)) (RnL.cons (Rn.same rfl) (RnL.cons (Rn.x1 rfl rfl) (RnL.cons (Rn.x1 rfl rfl) RnL.nil)))) (RB.cells rfl rfl gg (RnL.same hnm) (RB.map rfl rfl gg (RnM.mapG fun _ _=>⟨rfl,rfl⟩) (RB.cells rfl rfl gg (RnL.same (Qav Qab _)) (RB.cells rfl rfl gg (RnL.same (Qaa _)) (RB.cells rfl rfl gg (RnL.same (Qag _)) RB.nil)))))
        · rintro j hj
          by_cases hjl:j<(evA l).length
          · obtain ⟨e, he⟩ := Qak hjl
            have hpi:=QdU (i:=i) (ev:=(evA l).take j) hw hti hp
            have hpp:=Qek (l:=l) (i:=i) (t:=t) (ev:=(evA l).take j) (s:=s)
            have hpl:=Qdu (l:=l) (i:=i) (t:=t) (ev:=(evA l).take j) (s:=s)
            have hps:=Qh3 (l:=l) (i:=i) (t:=t) (s:=s) he
            rw[List.length_take]at hpl
            generalize pRow l ((evA l).take j) i t s=u at*
            have hui:i<u.1.length:=Nat.lt_of_lt_of_le hlt hpp.length_le
            have hut:u.1[i]?=some t:=by rw[QkX hpp hlt];exact ht
            have hub:=QcW hpi.nd hpi.inT
            have huml:(u.1.map sliN).length=u.1.length:=List.length_map ..
            have huel:(u.2.flatMap edC).length=u.2.length*3:=Qbr (k:=3) (fun _=>rfl) u.2
            have hst:=step100 l t e h h0 (by omega) hti.1
            cases hs:stepT l t e with
            | none =>
              rw[hs]at hst
              have hpe:pEv l i t u e=u:=by unfold pEv;rw[hs]
              rw[hpe]at hps
              simp(disch:=first|omega|exact PairsOK.mk rfl|(simp only[lenW]<;>omega)) only[hjl,hui,QaI he,Qdv hut,Qac,Qad,Qae,wW,wV,simprocAttr]
              refine cp hst ?_
              simp(disch:=first|omega|exact PairsOK.mk rfl|(simp only[lenW]<;>omega)) only[stV,Qac,Qad,Qae,wW,wV,simprocAttr]
              refine⟨j+1,by omega,by omega,?_⟩
              rw[hps]
              refine⟨[(51,.blk 51 0),(52,.blk 52 0),(53,.blk 53 0),(60,.blk 60 0),(70,.blk 70 0),(71,.blk 71 0)],rfl,au0,?_,au19⟩
              exact RB.cells rfl rfl gg (RnL.cons (Rn.same (Qab _)) (RnL.cons (Rn.same rfl) (RnL.cons (Rn.x1 rfl rfl) (RnL.cons (Rn.x1 rfl rfl) RnL.nil)))) (RB.cells rfl rfl gg (RnL.same hnm) (RB.map rfl rfl gg (RnM.mapG fun _ _=>⟨rfl,rfl⟩) (RB.cells rfl rfl gg (RnL.same (Qav Qab _)) (RB.cells rfl rfl gg (RnL.same (Qaa _)) (RB.cells rfl rfl gg (RnL.same (Qag _)) RB.nil)))))
            | some n =>
              rw[hs]at hst
              have hni:=QfW hw hti hs
              have hkn:=hkey n hni
              have hkg:=Qjz h hni hpi.inT
              simp(disch:=first|omega|exact PairsOK.mk rfl|(simp only[lenW]<;>omega)) only[hjl,hui,QaI he,Qdv hut,Qac,Qad,Qae,wW,wV,simprocAttr]
              refine cp hst ?_
              simp(disch:=first|omega|exact PairsOK.mk rfl|(simp only[lenW]<;>omega)) only[stV,Qac,Qad,Qae,wW,wV,simprocAttr]
              refine cp hkn ?_
              simp(disch:=first|omega|exact PairsOK.mk rfl|(simp only[lenW]<;>omega)) only[Qac,Qad,Qae,wW,wV,simprocAttr]
              by_cases hm:n∈u.1
              · have hpe : pEv l i t u e = (u.1, u.2 ++ [(i, e, ixT u.1 n)]) := by unfold pEv; rw [hs]; simp only [if_pos hm]
                rw[hpe]at hps
                refine Qft (c:=keyC) (f:=ixV u.1) (x:=n) (l:=u.1) (g:=0) gg hkg hm ?_
                simp(disch:=first|omega|exact PairsOK.mk rfl|(simp only[lenW]<;>omega)) only[ixV,huel,Qac,Qad,Qae,wW,wV,simprocAttr]
                refine⟨j+1,by omega,by omega,?_⟩
                rw[hps,List.length_append,List.flatMap_append]
                refine⟨[(51,.blk 51 0),(52,.blk 52 0),(53,.blk 53 0),(60,.blk 60 0),(70,.blk 70 0),(71,.blk 71 1)],rfl,au0,?_,au19⟩
                exact RB.cells rfl rfl gg (RnL.cons (Rn.same (Qab _)) (RnL.cons (Rn.same rfl) (RnL.cons (Rn.x1 rfl rfl) (RnL.cons (Rn.x1 rfl rfl) RnL.nil)))) (RB.cells rfl rfl gg (RnL.same hnm) (RB.map rfl rfl gg (RnM.mapG fun _ _=>⟨rfl,rfl⟩) (RB.cells rfl rfl gg (RnL.same (Qav Qab _)) (RB.cells rfl rfl gg (RnL.same (Qaa _)) (RB.cells rfl rfl gg (RnL.same (SU.QaH (Qag _) rfl)) RB.nil)))))
              · have hpe : pEv l i t u e = (u.1 ++ [n], u.2 ++ [(i, e, u.1.length)]) := by unfold pEv; rw [hs]; simp only [if_neg hm]; rw [show u.1.findIdx (· == n) = u.1.length from QdX hm]
                rw[hpe]at hps
                have hlim:¬((u.1.length:Nat):Int)=4096:=by omega
                have hmn:=QkY hm
                refine QeR (c:=keyC) (f:=ixV u.1) (x:=n) (l:=u.1) (g:=0) gg hkg hm ?_
                simp(disch:=first|omega|exact PairsOK.mk rfl|(simp only[lenW]<;>omega)) only[hlim,Qac,Qad,Qae,wW,wV,simprocAttr]
                refine cp hkn ?_
                simp(disch:=first|omega|exact PairsOK.mk rfl|(simp only[lenW]<;>omega)) only[Qac,Qad,Qae,wW,wV,simprocAttr]
                refine Qcm (c:=keyC) (f:=ixV u.1) (x:=n) (l:=u.1) (g:=0) gg hkg hm (by omega) ?_
                rw[hmn]
                simp(disch:=first|omega|exact PairsOK.mk rfl|(simp only[lenW]<;>omega)) only[huml,huel,Qab,Qac,Qad,Qae,wW,wV,simprocAttr]
                refine⟨j+1,by omega,by omega,?_⟩
                rw[hps,List.length_append,List.length_append,List.flatMap_append,List.map_append]
                refine⟨[(51,.blk 51 0),(52,.blk 52 0),(53,.blk 53 0),(60,.blk 60 1),(70,.blk 70 0),(71,.blk 71 1)],rfl,au0,?_,au19⟩
                exact RB.cells rfl rfl gg (RnL.cons (Rn.same (Qab _)) (RnL.cons (Rn.same rfl) (RnL.cons (Rn.x1 rfl rfl) (RnL.cons (Rn.x1 rfl rfl) RnL.nil)))) (RB.cells rfl rfl gg (RnL.same hnm) (RB.map rfl rfl gg (RnM.mapG fun _ _=>⟨rfl,rfl⟩) (RB.cells rfl rfl gg (RnL.same (SU.QaH (Qav Qab _) (Qav Qab [n]))) (RB.cells rfl rfl gg (RnL.same (Qaa _)) (RB.cells rfl rfl gg (RnL.same (SU.QaH (Qag _) rfl)) RB.nil)))))
          · have e2 : j = (evA l).length := by omega
            subst e2
            simp(disch:=first|omega|exact PairsOK.mk rfl|(simp only[lenW]<;>omega)) only[hjl,List.take_length,Qac,Qad,Qae,wW,wV,simprocAttr]
            refine⟨(),?_⟩
            refine⟨[(51,.blk 51 0),(52,.blk 52 0),(53,.blk 53 0),(60,.blk 60 0),(70,.blk 70 0),(71,.blk 71 0)],rfl,au0,?_,au19⟩
            exact RB.cells rfl rfl gg (RnL.cons (Rn.same (Qab _)) (RnL.cons (Rn.same rfl) (RnL.cons (Rn.x1 rfl rfl) (RnL.cons (Rn.x1 rfl rfl) RnL.nil)))) (RB.cells rfl rfl gg (RnL.same hnm) (RB.map rfl rfl gg (RnM.mapG fun _ _=>⟨rfl,rfl⟩) (RB.cells rfl rfl gg (RnL.same (Qav Qab _)) (RB.cells rfl rfl gg (RnL.same (Qaa _)) (RB.cells rfl rfl gg (RnL.same (Qag _)) RB.nil)))))
        rintro _ _
        simp(disch:=first|omega|exact PairsOK.mk rfl|(simp only[lenW]<;>omega)) only[Qac,Qad,Qae,wW,wV,simprocAttr]
        refine⟨(i+1,pRow l (evA l) i t s),by dsimp only;omega,⟨Nat.le_trans hlt hpw.length_le,hpo,by dsimp only;omega,hq'⟩,?_⟩
        dsimp only
        rw[Qh1 hpw hlt]
        refine⟨[(51,.blk 51 0),(52,.blk 52 0),(53,.blk 53 0),(60,.blk 60 0),(70,.blk 70 0),(71,.blk 71 0)],rfl,au0,?_,au19⟩
        exact RB.cells rfl rfl gg (RnL.cons (Rn.same (Qab _)) (RnL.cons (Rn.same rfl) (RnL.cons (Rn.x1 rfl rfl) (RnL.cons (Rn.x1 rfl rfl) RnL.nil)))) (RB.cells rfl rfl gg (RnL.same hnm) (RB.map rfl rfl gg (RnM.mapG fun _ _=>⟨rfl,rfl⟩) (RB.cells rfl rfl gg (RnL.same (Qav Qab _)) (RB.cells rfl rfl gg (RnL.same (Qaa _)) (RB.cells rfl rfl gg (RnL.same (Qag _)) RB.nil)))))
      · rw [hmb] at hmc hms
        rw[if_pos rfl]at hms
        simp(disch:=first|omega|exact PairsOK.mk rfl|(simp only[lenW]<;>omega)) only[hlt,Qdv ht,Qac,Qad,Qae,wW,wV,simprocAttr]
        refine cp hmc ?_
        simp(disch:=first|omega|exact PairsOK.mk rfl|(simp only[lenW]<;>omega)) only[Qac,Qad,Qae,wW,wV,simprocAttr]
        have hmk:marks l s.1 (i+1)=marks l s.1 i++[i]:=hms
        refine Qar 420 (fun j:Nat=>[(2,.ptr 51 0 0),(6,.ptr 52 0 0),(3,.sl 60 0 0 (pRow l ((evA l).take j) i t s).1.length 1),(9,.map 53 0),(10,.int .i64 (i)),(61,sliN (evA l)),(62,.int .i64 (evA l).length),(63,.int .i64 j)]) (fun j=>[(51,.cells 0 [sliN (evA l),.int .i64 0,.sl 70 0 0 (marks l s.1 (i+1)).length 1,.sl 71 0 0 (pRow l ((evA l).take j) i t s).2.length 3]),(52,.cells 0 [auts l,sliN (evA l),.fsl (l.map emV) l.length 1]),(53,.map 0 (mapG keyC (ixV (pRow l ((evA l).take j) i t s).1) (pRow l ((evA l).take j) i t s).1)),(60,.cells 0 ((pRow l ((evA l).take j) i t s).1.map sliN)),(70,.cells 0 (ints (nz (marks l s.1 (i+1))))),(71,.cells 0 ((pRow l ((evA l).take j) i t s).2.flatMap edC))]) (fun j=>j<=(evA l).length) (fun j=>(evA l).length-j) 0 2 700 (fun _:Unit=>[(2,.ptr 51 0 0),(6,.ptr 52 0 0),(3,.sl 60 0 0 (pRow l (evA l) i t s).1.length 1),(9,.map 53 0),(10,.int .i64 (i))]) (fun _=>[(51,.cells 0 [sliN (evA l),.int .i64 0,.sl 70 0 0 (marks l s.1 (i+1)).length 1,.sl 71 0 0 (pRow l (evA l) i t s).2.length 3]),(52,.cells 0 [auts l,sliN (evA l),.fsl (l.map emV) l.length 1]),(53,.map 0 (mapG keyC (ixV (pRow l (evA l) i t s).1) (pRow l (evA l) i t s).1)),(60,.cells 0 ((pRow l (evA l) i t s).1.map sliN)),(70,.cells 0 (ints (nz (marks l s.1 (i+1))))),(71,.cells 0 ((pRow l (evA l) i t s).2.flatMap edC))]) (fun _=>True) ?_ (Nat.zero_le _) ?_ ?_
        · show Rec _ _ [(51, .cells 0 [sliN (evA l), .int .i64 0, .sl 70 0 0 (marks l s.1 (i + 1)).length 1, .sl 71 0 0 s.2.length 3]), (52, .cells 0 [auts l, sliN (evA l), .fsl (l.map emV) l.length 1]), (53, .map 0 (mapG keyC (ixV s.1) s.1)), (60, .cells 0 (s.1.map sliN)), (70, .cells 0 (ints (nz (marks l s.1 (i + 1))))), (71, .cells 0 (s.2.flatMap edC))] _ _
          rw[hmk,List.length_append,QaL,QaD]
          refine⟨[(51,.blk 51 0),(52,.blk 52 0),(53,.blk 53 0),(60,.blk 60 0),(70,.blk 70 1),(71,.blk 71 0)],rfl,au0,?_,au19⟩
          exact RB.cells rfl rfl gg (RnL.cons (Rn.same (Qab _)) (RnL.cons (Rn.same rfl) (RnL.cons (Rn.x1 rfl rfl) (RnL.cons (Rn.x1 rfl rfl) RnL.nil)))) (RB.cells rfl rfl gg (RnL.same hnm) (RB.map rfl rfl gg (RnM.mapG fun _ _=>⟨rfl,rfl⟩) (RB.cells rfl rfl gg (RnL.same (Qav Qab _)) (RB.cells rfl rfl gg (RnL.same (SU.QaH (Qaa _) rfl)) (RB.cells rfl rfl gg (RnL.same (Qag _)) RB.nil)))))
        · rintro j hj
          by_cases hjl:j<(evA l).length
          · obtain ⟨e, he⟩ := Qak hjl
            have hpi:=QdU (i:=i) (ev:=(evA l).take j) hw hti hp
            have hpp:=Qek (l:=l) (i:=i) (t:=t) (ev:=(evA l).take j) (s:=s)
            have hpl:=Qdu (l:=l) (i:=i) (t:=t) (ev:=(evA l).take j) (s:=s)
            have hps:=Qh3 (l:=l) (i:=i) (t:=t) (s:=s) he
            rw[List.length_take]at hpl
            generalize pRow l ((evA l).take j) i t s=u at*
            have hui:i<u.1.length:=Nat.lt_of_lt_of_le hlt hpp.length_le
            have hut:u.1[i]?=some t:=by rw[QkX hpp hlt];exact ht
            have hub:=QcW hpi.nd hpi.inT
            have huml:(u.1.map sliN).length=u.1.length:=List.length_map ..
            have huel:(u.2.flatMap edC).length=u.2.length*3:=Qbr (k:=3) (fun _=>rfl) u.2
            have hst:=step100 l t e h h0 (by omega) hti.1
            cases hs:stepT l t e with
            | none =>
              rw[hs]at hst
              have hpe:pEv l i t u e=u:=by unfold pEv;rw[hs]
              rw[hpe]at hps
              simp(disch:=first|omega|exact PairsOK.mk rfl|(simp only[lenW]<;>omega)) only[hjl,hui,QaI he,Qdv hut,Qac,Qad,Qae,wW,wV,simprocAttr]
              refine cp hst ?_
              simp(disch:=first|omega|exact PairsOK.mk rfl|(simp only[lenW]<;>omega)) only[stV,Qac,Qad,Qae,wW,wV,simprocAttr]
              refine⟨j+1,by omega,by omega,?_⟩
              rw[hps]
              refine⟨[(51,.blk 51 0),(52,.blk 52 0),(53,.blk 53 0),(60,.blk 60 0),(70,.blk 70 0),(71,.blk 71 0)],rfl,au0,?_,au19⟩
              exact RB.cells rfl rfl gg (RnL.cons (Rn.same (Qab _)) (RnL.cons (Rn.same rfl) (RnL.cons (Rn.x1 rfl rfl) (RnL.cons (Rn.x1 rfl rfl) RnL.nil)))) (RB.cells rfl rfl gg (RnL.same hnm) (RB.map rfl rfl gg (RnM.mapG fun _ _=>⟨rfl,rfl⟩) (RB.cells rfl rfl gg (RnL.same (Qav Qab _)) (RB.cells rfl rfl gg (RnL.same (Qaa _)) (RB.cells rfl rfl gg (RnL.same (Qag _)) RB.nil)))))
            | some n =>
              rw[hs]at hst
              have hni:=QfW hw hti hs
              have hkn:=hkey n hni
              have hkg:=Qjz h hni hpi.inT
              simp(disch:=first|omega|exact PairsOK.mk rfl|(simp only[lenW]<;>omega)) only[hjl,hui,QaI he,Qdv hut,Qac,Qad,Qae,wW,wV,simprocAttr]
              refine cp hst ?_
              simp(disch:=first|omega|exact PairsOK.mk rfl|(simp only[lenW]<;>omega)) only[stV,Qac,Qad,Qae,wW,wV,simprocAttr]
              refine cp hkn ?_
              simp(disch:=first|omega|exact PairsOK.mk rfl|(simp only[lenW]<;>omega)) only[Qac,Qad,Qae,wW,wV,simprocAttr]
              by_cases hm:n∈u.1
              · have hpe : pEv l i t u e = (u.1, u.2 ++ [(i, e, ixT u.1 n)]) := by unfold pEv; rw [hs]; simp only [if_pos hm]
                rw[hpe]at hps
                refine Qft (c:=keyC) (f:=ixV u.1) (x:=n) (l:=u.1) (g:=0) gg hkg hm ?_
                simp(disch:=first|omega|exact PairsOK.mk rfl|(simp only[lenW]<;>omega)) only[ixV,huel,Qac,Qad,Qae,wW,wV,simprocAttr]
                refine⟨j+1,by omega,by omega,?_⟩
                rw[hps,List.length_append,List.flatMap_append]
                refine⟨[(51,.blk 51 0),(52,.blk 52 0),(53,.blk 53 0),(60,.blk 60 0),(70,.blk 70 0),(71,.blk 71 1)],rfl,au0,?_,au19⟩
                exact RB.cells rfl rfl gg (RnL.cons (Rn.same (Qab _)) (RnL.cons (Rn.same rfl) (RnL.cons (Rn.x1 rfl rfl) (RnL.cons (Rn.x1 rfl rfl) RnL.nil)))) (RB.cells rfl rfl gg (RnL.same hnm) (RB.map rfl rfl gg (RnM.mapG fun _ _=>⟨rfl,rfl⟩) (RB.cells rfl rfl gg (RnL.same (Qav Qab _)) (RB.cells rfl rfl gg (RnL.same (Qaa _)) (RB.cells rfl rfl gg (RnL.same (SU.QaH (Qag _) rfl)) RB.nil)))))
              · have hpe : pEv l i t u e = (u.1 ++ [n], u.2 ++ [(i, e, u.1.length)]) := by unfold pEv; rw [hs]; simp only [if_neg hm]; rw [show u.1.findIdx (· == n) = u.1.length from QdX hm]
                rw[hpe]at hps
                have hlim:¬((u.1.length:Nat):Int)=4096:=by omega
                have hmn:=QkY hm
                refine QeR (c:=keyC) (f:=ixV u.1) (x:=n) (l:=u.1) (g:=0) gg hkg hm ?_
                simp(disch:=first|omega|exact PairsOK.mk rfl|(simp only[lenW]<;>omega)) only[hlim,Qac,Qad,Qae,wW,wV,simprocAttr]
                refine cp hkn ?_
                simp(disch:=first|omega|exact PairsOK.mk rfl|(simp only[lenW]<;>omega)) only[Qac,Qad,Qae,wW,wV,simprocAttr]
                refine Qcm (c:=keyC) (f:=ixV u.1) (x:=n) (l:=u.1) (g:=0) gg hkg hm (by omega) ?_
                rw[hmn]
                simp(disch:=first|omega|exact PairsOK.mk rfl|(simp only[lenW]<;>omega)) only[huml,huel,Qab,Qac,Qad,Qae,wW,wV,simprocAttr]
                refine⟨j+1,by omega,by omega,?_⟩
                rw[hps,List.length_append,List.length_append,List.flatMap_append,List.map_append]
                refine⟨[(51,.blk 51 0),(52,.blk 52 0),(53,.blk 53 0),(60,.blk 60 1),(70,.blk 70 0),(71,.blk 71 1)],rfl,au0,?_,au19⟩
                exact RB.cells rfl rfl gg (RnL.cons (Rn.same (Qab _)) (RnL.cons (Rn.same rfl) (RnL.cons (Rn.x1 rfl rfl) (RnL.cons (Rn.x1 rfl rfl) RnL.nil)))) (RB.cells rfl rfl gg (RnL.same hnm) (RB.map rfl rfl gg (RnM.mapG fun _ _=>⟨rfl,rfl⟩) (RB.cells rfl rfl gg (RnL.same (SU.QaH (Qav Qab _) (Qav Qab [n]))) (RB.cells rfl rfl gg (RnL.same (Qaa _)) (RB.cells rfl rfl gg (RnL.same (SU.QaH (Qag _) rfl)) RB.nil)))))
          · have e2 : j = (evA l).length := by omega
            subst e2
            simp(disch:=first|omega|exact PairsOK.mk rfl|(simp only[lenW]<;>omega)) only[hjl,List.take_length,Qac,Qad,Qae,wW,wV,simprocAttr]
            refine⟨(),?_⟩
            refine⟨[(51,.blk 51 0),(52,.blk 52 0),(53,.blk 53 0),(60,.blk 60 0),(70,.blk 70 0),(71,.blk 71 0)],rfl,au0,?_,au19⟩
            exact RB.cells rfl rfl gg (RnL.cons (Rn.same (Qab _)) (RnL.cons (Rn.same rfl) (RnL.cons (Rn.x1 rfl rfl) (RnL.cons (Rn.x1 rfl rfl) RnL.nil)))) (RB.cells rfl rfl gg (RnL.same hnm) (RB.map rfl rfl gg (RnM.mapG fun _ _=>⟨rfl,rfl⟩) (RB.cells rfl rfl gg (RnL.same (Qav Qab _)) (RB.cells rfl rfl gg (RnL.same (Qaa _)) (RB.cells rfl rfl gg (RnL.same (Qag _)) RB.nil)))))
        rintro _ _
        simp(disch:=first|omega|exact PairsOK.mk rfl|(simp only[lenW]<;>omega)) only[Qac,Qad,Qae,wW,wV,simprocAttr]
        refine⟨(i+1,pRow l (evA l) i t s),by dsimp only;omega,⟨Nat.le_trans hlt hpw.length_le,hpo,by dsimp only;omega,hq'⟩,?_⟩
        dsimp only
        rw[Qh1 hpw hlt]
        refine⟨[(51,.blk 51 0),(52,.blk 52 0),(53,.blk 53 0),(60,.blk 60 0),(70,.blk 70 0),(71,.blk 71 0)],rfl,au0,?_,au19⟩
        exact RB.cells rfl rfl gg (RnL.cons (Rn.same (Qab _)) (RnL.cons (Rn.same rfl) (RnL.cons (Rn.x1 rfl rfl) (RnL.cons (Rn.x1 rfl rfl) RnL.nil)))) (RB.cells rfl rfl gg (RnL.same hnm) (RB.map rfl rfl gg (RnM.mapG fun _ _=>⟨rfl,rfl⟩) (RB.cells rfl rfl gg (RnL.same (Qav Qab _)) (RB.cells rfl rfl gg (RnL.same (Qaa _)) (RB.cells rfl rfl gg (RnL.same (Qag _)) RB.nil)))))
    · have hfin : s = sync0 l := by
        rw[<-hq,QoC (List.getElem?_eq_none (by omega))]
      have e2:i=s.1.length:=by omega
      subst e2
      rw[<-hfin]
      simp(disch:=first|omega|exact PairsOK.mk rfl|(simp only[lenW]<;>omega)) only[hlt,Qac,Qad,Qae,wW,wV,simprocAttr]
      refine⟨(),[(51,.blk 51 0)],rfl,RO.zero,?_,?_⟩
      · exact RB.cells rfl rfl gg (RnL.cons (Rn.same (Qab _)) (RnL.cons (Rn.same rfl) (RnL.cons (Rn.fzm rfl rfl rfl rfl (by simp[ints]) (RnL.same (Qaa _))) (RnL.cons (Rn.fzm rfl rfl rfl rfl (Qbr (k:=3) (fun _=>rfl) _) (RnL.same (Qag _))) RnL.nil)))) RB.nil
      · exact RT.cons (Rn.x2 rfl rfl) (RT.cons (Rn.fz (b:=60) (g:=0) gg rfl rfl (by simp) (RnL.same (Qav Qab _))) RT.nil)
  rintro _ _
  simp(disch:=first|omega|exact PairsOK.mk rfl|(simp only[lenW]<;>omega)) only[Qac,Qad,Qae,wW,wV,simprocAttr]
  refine⟨.inr trivial,_,rfl,?_⟩
  exact Rn.same hnr
end Go.AM.SO
namespace Go.AM.SO
open Go.Proofs Go.AM.SD Go.AM.SE
abbrev auL (l:List (Nat×Aut)):List Aut:=l.map (·.2)
theorem Qm0 {x:Nat×Aut}:List.flatMap auC (List.map (fun x:Nat×Aut=>x.2) [x])=[sliN x.2.al,.int .i64 (x.2.n:Int),sliN x.2.ms,egsN x.2.es]:=rfl
theorem QbK {l:List (Nat×Aut)}:(auL l).length=l.length:=List.length_map ..
theorem _root_.Go.AM.au21 {p:Prop} (h:p:=by repeat (first|exact RT.nil|(refine RT.cons ?_ ?_; · (first|exact Rn.any|exact Rn.x1 rfl rfl|exact Rn.x2 rfl rfl|exact Rn.x3 rfl rfl|exact Rn.x4 rfl rfl|exact Rn.x5 rfl|exact Rn.x6 rfl|exact Rn.x7 rfl|(refine Rn.slot ?_ ?_;(first|rfl|(rw[Int.natCast_add];rfl));(first|rfl|(simp only[noRef,noRefs,Qai,Bool.and_self,Bool.and_true,Bool.true_and,Qaa,Qay,Qab,Qax,Qbc,Qag,SU.QbR];done)))|(refine Rn.fn ?_ ?_<;>(repeat' (first|exact RnL.nil|refine RnL.cons ?_ ?_|exact Rn.same rfl|exact Rn.x6 rfl|exact Rn.x2 rfl rfl|exact Rn.x5 rfl|exact Rn.x1 rfl rfl))))))):p:=h
theorem automata29 {ch:UInt8} (l:List (Nat×Aut)) (hl:l.length<=1000):PSpec Tryz.prog 29 [its ch l] (auts (auL l)):=by
  refine PSpec.of_rn 64 TP.ok29 rfl (by rw[noRefs,SU.Qap];rfl) (QaP _) ?_
  have hni:=@SU.Qap ch l
  simp(disch:=first|omega|exact PairsOK.mk rfl|(simp only[lenW]<;>omega)) only[TP.s29,Qac,Qad,Qae,wW,wV,simprocAttr]
  refine Qar 100 (fun i:Nat=>[(3,.sl 60 0 0 i 4),(6,its ch l),(7,.int .i64 l.length),(8,.int .i64 i)]) (fun i=>[(60,.cells 0 ((auL (l.take i)).flatMap auC))]) (fun i=>i<=l.length) (fun i=>l.length-i) 0 0 160 (fun _:Unit=>[(3,auts (auL l))]) (fun _=>[]) (fun _=>True) ?_ (Nat.zero_le _) ?_ ?_
  · refine ⟨[(60, .nil)], rfl, au0, ?_, au21⟩
    exact RB.newnil rfl rfl RB.nil
  · rintro i hi
    by_cases hlt:i<l.length
    · obtain ⟨x, hx⟩ := Qak hlt
      have hdr:=SU.QcF (ch:=ch) hx
      have hdl:5<=((l.flatMap (itC ch)).drop (i*5)).length:=by rw[hdr];simp
      have htl:(auL (l.take i)).length=i:=by rw[QbK,List.length_take];omega
      have htm:((auL (l.take i)).flatMap auC).length=i*4:=by rw[QgG,htl]
      simp(disch:=first|omega|exact PairsOK.mk rfl|(simp only[lenW]<;>omega)) only[hlt,hdr,hdl,htm,Qab,Qax,Qac,Qad,Qae,wW,wV,simprocAttr]
      refine⟨i+1,by omega,by omega,?_⟩
      rw[take_succ' hx]
      show Rec _ _ [(60,.cells 0 ((List.map (fun x:Nat×Aut=>x.2) (l.take i++[x])).flatMap auC))] _ _
      rw[List.map_append,List.flatMap_append,Qm0]
      refine⟨[(60,.blk 60 1)],rfl,au0,?_,au21⟩
      exact RB.cells rfl rfl gg (RnL.same (SU.QaH (Qbc _) (Qbc [x.2]))) RB.nil
    · have e : i = l.length := by omega
      subst e
      simp(disch:=first|omega|exact PairsOK.mk rfl|(simp only[lenW]<;>omega)) only[hlt,List.take_length,Qac,Qad,Qae,wW,wV,simprocAttr]
      exact⟨(),[],rfl,RO.zero,RB.nil,RT.cons (Rn.fzm (b:=60) (g:=0) gg rfl rfl QbK (by rw[QgG,QbK]) (RnL.same (Qbc _))) RT.nil⟩
  rintro _ _
  simp(disch:=first|omega|exact PairsOK.mk rfl|(simp only[lenW]<;>omega)) only[Qac,Qad,Qae,wW,wV,simprocAttr]
  exact⟨.inr trivial,_,rfl,Rn.same (QaP _)⟩
theorem automata69 {ch:UInt8} (l:List (Nat×Aut)) (hl:l.length<=1000):PSpec Tryz.prog 69 [its ch l] (auts (auL l)):=by
  refine PSpec.of_rn 64 TP.ok69 rfl (by rw[noRefs,SU.Qap];rfl) (QaP _) ?_
  have hni:=@SU.Qap ch l
  simp(disch:=first|omega|exact PairsOK.mk rfl|(simp only[lenW]<;>omega)) only[TP.s69,Qac,Qad,Qae,wW,wV,simprocAttr]
  refine Qar 100 (fun i:Nat=>[(3,.sl 60 0 0 i 4),(6,its ch l),(7,.int .i64 l.length),(8,.int .i64 i)]) (fun i=>[(60,.cells 0 ((auL (l.take i)).flatMap auC))]) (fun i=>i<=l.length) (fun i=>l.length-i) 0 0 160 (fun _:Unit=>[(3,auts (auL l))]) (fun _=>[]) (fun _=>True) ?_ (Nat.zero_le _) ?_ ?_
  · refine ⟨[(60, .nil)], rfl, au0, ?_, au21⟩
    exact RB.newnil rfl rfl RB.nil
  · rintro i hi
    by_cases hlt:i<l.length
    · obtain ⟨x, hx⟩ := Qak hlt
      have hdr:=SU.QcF (ch:=ch) hx
      have hdl:5<=((l.flatMap (itC ch)).drop (i*5)).length:=by rw[hdr];simp
      have htl:(auL (l.take i)).length=i:=by rw[QbK,List.length_take];omega
      have htm:((auL (l.take i)).flatMap auC).length=i*4:=by rw[QgG,htl]
      simp(disch:=first|omega|exact PairsOK.mk rfl|(simp only[lenW]<;>omega)) only[hlt,hdr,hdl,htm,Qab,Qax,Qac,Qad,Qae,wW,wV,simprocAttr]
      refine⟨i+1,by omega,by omega,?_⟩
      rw[take_succ' hx]
      show Rec _ _ [(60,.cells 0 ((List.map (fun x:Nat×Aut=>x.2) (l.take i++[x])).flatMap auC))] _ _
      rw[List.map_append,List.flatMap_append,Qm0]
      refine⟨[(60,.blk 60 1)],rfl,au0,?_,au21⟩
      exact RB.cells rfl rfl gg (RnL.same (SU.QaH (Qbc _) (Qbc [x.2]))) RB.nil
    · have e : i = l.length := by omega
      subst e
      simp(disch:=first|omega|exact PairsOK.mk rfl|(simp only[lenW]<;>omega)) only[hlt,List.take_length,Qac,Qad,Qae,wW,wV,simprocAttr]
      exact⟨(),[],rfl,RO.zero,RB.nil,RT.cons (Rn.fzm (b:=60) (g:=0) gg rfl rfl QbK (by rw[QgG,QbK]) (RnL.same (Qbc _))) RT.nil⟩
  rintro _ _
  simp(disch:=first|omega|exact PairsOK.mk rfl|(simp only[lenW]<;>omega)) only[Qac,Qad,Qae,wW,wV,simprocAttr]
  exact⟨.inr trivial,_,rfl,Rn.same (QaP _)⟩
theorem Qm1 (l:List Aut):noRef (.tup [aV (syncA l),tuV (sync0 l).1,.int .i64 0])=true:=by
 rw[noRef,noRefs,noRefs,QdC,noRef,noRefs,noRefs,noRefs,noRefs,Qab,Qab,Qax];rfl
theorem Qg6 {c:Cel} (h:WfCel c):∀a∈auL c.cs,WfI a:=fun a ha=>by
 obtain⟨x,hx,rfl⟩:=List.mem_map.1 ha
 exact h.ca x hx
theorem QnM {c:Cel} (h:WfCel c) (t:List Nat) (ht:InT (auL c.cs) t):PSpec Tryz.prog 98 [sliN t] (.str (keyT t)):=by
 have h0:=h.c0
 have h3:=h.c3
 have hl:=ht.1
 rw[QbK]at hl
 exact key98 (by omega) (by omega) fun x hx=>ht.lt (Qg6 h) hx
theorem QkZ (c:Cel) (h:WfCel c):PSpec Tryz.prog 28 [auts (auL c.cs)] (.tup [aV (syncA (auL c.cs)),tuV (sync0 (auL c.cs)).1,.int .i64 0]):=by
 have h0:=h.c0
 have h3:=h.c3
 exact sync28 (auL c.cs) (Qg6 h) (by rw[QbK];omega) (by rw[QbK];omega) (QnM h)
theorem plant17 (c:Cel) (h:WfCel c):PSpec Tryz.prog 17 [celV c] (.tup [aV (syncA (auL c.cs)),tuV (sync0 (auL c.cs)).1,.int .i64 0]):=by
 have hnr:=QbZ c
 refine PSpec.of_rn 64 TP.ok17 rfl (by rw[noRefs,SU.Qby];rfl) (Qm1 _) ?_
 have h3:=h.c3
 have hc:=check21 c h
 have ha:=automata69 (ch:=99) c.cs (by omega)
 have hs:=QkZ c h
 simp(disch:=first|omega|exact PairsOK.mk rfl|(simp only[lenW]<;>omega)) only[TP.s17,Qac,Qad,Qae,wW,wV,simprocAttr]
 refine cp hc ?_
 simp(disch:=first|omega|exact PairsOK.mk rfl|(simp only[lenW]<;>omega)) only[Qac,Qad,Qae,wW,wV,simprocAttr]
 refine cp ha ?_
 simp(disch:=first|omega|exact PairsOK.mk rfl|(simp only[lenW]<;>omega)) only[Qac,Qad,Qae,wW,wV,simprocAttr]
 refine cp hs ?_
 simp(disch:=first|omega|exact PairsOK.mk rfl|(simp only[lenW]<;>omega)) only[Qac,Qad,Qae,wW,wV,simprocAttr]
 exact⟨.inr trivial,_,rfl,Rn.same (Qm1 _)⟩
theorem conds27 (c:Cel) (h:WfCel c):PSpec Tryz.prog 27 [celV c] (.tup [cdV (szs c) c.xs c.ks,.int .i64 0]):=by
 have hnr:=QbZ c
 have hcn:noRef (.tup [cdV (szs c) c.xs c.ks,.int .i64 0])=true:=by rw[noRef,noRefs,noRef,Qbz];rfl
 refine PSpec.of_rn 64 TP.ok27 rfl (by rw[noRefs,SU.Qby];rfl) hcn ?_
 have hc:=check21 c h
 have hd:=conds85 c h
 simp(disch:=first|omega|exact PairsOK.mk rfl|(simp only[lenW]<;>omega)) only[TP.s27,Qac,Qad,Qae,wW,wV,simprocAttr]
 refine cp hc ?_
 simp(disch:=first|omega|exact PairsOK.mk rfl|(simp only[lenW]<;>omega)) only[Qac,Qad,Qae,wW,wV,simprocAttr]
 refine cp hd ?_
 simp(disch:=first|omega|exact PairsOK.mk rfl|(simp only[lenW]<;>omega)) only[Qac,Qad,Qae,wW,wV,simprocAttr]
 exact⟨.inr trivial,_,rfl,Rn.same hcn⟩
theorem conds30 (c:Cel) (h:WfCel c):PSpec Tryz.prog 30 [celV c] (cdV (szs c) c.xs c.ks):=by
  have hnr:=QbZ c
  refine PSpec.of_rn 64 TP.ok30 rfl (by rw[noRefs,SU.Qby];rfl) (by rw[noRef];exact Qbz) ?_
  have hc3:=h.c3
  have hci:=@SU.Qcr 99 c.cs
  simp(disch:=first|omega|exact PairsOK.mk rfl|(simp only[lenW]<;>omega)) only[TP.s30,Qac,Qad,Qae,wW,wV,simprocAttr]
  refine Qar 100 (fun i:Nat=>[(2,.ptr 51 0 0),(3,.ptr 52 0 0),(12,its 99 c.cs),(13,.int .i64 c.cs.length),(14,.int .i64 i)]) (fun i=>[(51,.cells 0 [.nilsl,.nilsl,.nilsl]),(52,.cells 0 [.sl 76 0 0 (szs c|>.take i).length 1,exs c.xs,cos c.ks]),(76,.cells 0 (ints (nz ((szs c).take i))))]) (fun i=>i<=c.cs.length) (fun i=>c.cs.length-i) 0 0 160
    (fun _:Unit=>[(2,.ptr 51 0 0),(3,.ptr 52 0 0)]) (fun _=>[(51,.cells 0 [.nilsl,.nilsl,.nilsl]),(52,.cells 0 [sliN (szs c),exs c.xs,cos c.ks])]) (fun _=>True) ⟨[(51,.blk 65 0),(52,.blk 71 0),(76,.nil)],rfl,au0,?_,au21⟩ (Nat.zero_le _) ?_ ?_
  · exact RB.cells rfl rfl gg (RnL.same rfl) (RB.cells rfl rfl gg (RnL.cons (Rn.x4 rfl rfl) (RnL.cons (Rn.same (SU.Qa1 _)) (RnL.cons (Rn.same (SU.QcT _)) RnL.nil))) (RB.newnil rfl rfl RB.nil))
  · rintro i hi
    by_cases hlt:i<c.cs.length
    · obtain ⟨x, hx⟩ := Qak hlt
      have hdr:=SU.QcF (ch:=99) hx
      have hdl:5<=((c.cs.flatMap (itC 99)).drop (i*5)).length:=by rw[hdr];simp
      have hsx:(szs c)[i]?=some x.2.n:=by unfold szs;rw[List.getElem?_map,hx];rfl
      have hsuc:=take_succ' hsx
      have htl:((szs c).take i).length=i:=by rw[List.length_take,h.slen];omega
      simp(disch:=first|omega|exact PairsOK.mk rfl|(simp only[lenW]<;>omega)) only[hlt,hdr,hdl,htl,Qac,Qad,Qae,wW,wV,simprocAttr]
      refine⟨i+1,by omega,by omega,?_⟩
      rw[hsuc,List.length_append,QaL,QaD,htl]
      refine⟨[(51,.blk 51 0),(52,.blk 52 0),(76,.blk 76 1)],rfl,au0,?_,au21⟩
      exact RB.cells rfl rfl gg (RnL.same rfl) (RB.cells rfl rfl gg (RnL.cons (Rn.x1 rfl rfl) (RnL.cons (Rn.same (SU.Qa1 _)) (RnL.cons (Rn.same (SU.QcT _)) RnL.nil))) (RB.cells rfl rfl gg (RnL.same (SU.QaH (Qaa _) rfl)) RB.nil))
    · have e : i = c.cs.length := by omega
      subst e
      have hta:(szs c).take c.cs.length=szs c:=by rw[<-h.slen,List.take_length]
      simp(disch:=first|omega|exact PairsOK.mk rfl|(simp only[lenW]<;>omega)) only[hlt,hta,Qac,Qad,Qae,wW,wV,simprocAttr]
      refine⟨(),?_⟩
      refine⟨[(51,.blk 51 0),(52,.blk 52 0)],rfl,au0,?_,au21⟩
      exact RB.cells rfl rfl gg (RnL.same rfl) (RB.cells rfl rfl gg (RnL.cons (Rn.fzm rfl rfl rfl rfl (by simp[ints]) (RnL.same (Qaa _))) (RnL.cons (Rn.same (SU.Qa1 _)) (RnL.cons (Rn.same (SU.QcT _)) RnL.nil))) RB.nil)
  rintro _ _
  simp(disch:=first|omega|exact PairsOK.mk rfl|(simp only[lenW]<;>omega)) only[Qac,Qad,Qae,wW,wV,simprocAttr]
  exact⟨.inr trivial,_,rfl,Rn.same (by rw[noRef];exact Qbz)⟩
theorem eq108 (x y:List Nat) (hy:y.length<=1000000):PSpec Tryz.prog 108 [sliN x,sliN y] (.bool (decide (x=y))):=by
 refine PSpec.Qau 64 TP.ok108 rfl (by(try simp only[noRefs,Qaa,noRef,noRefs,Bool.and_self,Bool.and_true])<;>rfl) rfl ?_
 have h:=eq41N x y hy
 simp(disch:=first|omega|exact PairsOK.mk rfl|(simp only[lenW]<;>omega)) only[TP.s108,Qac,Qad,Qae,wW,wV,simprocAttr]
 refine cp h ?_
 simp(disch:=first|omega|exact PairsOK.mk rfl|(simp only[lenW]<;>omega)) only[Qac,Qad,Qae,wW,wV,simprocAttr]
 exact⟨.inr trivial,_,rfl,rfl⟩
theorem QoD {T:List (List Nat)} {i:Nat} {t:List Nat} (h:T[i]?=some t):((T.map sliN).drop i).head?=some (sliN t):=by
 rw[List.head?_drop,Qdv h]
theorem eq107 (T:List (List Nat)) (hl:T.length<=1000000) (ht:∀t∈T,t.length<=1000000):PSpec Tryz.prog 107 [tuV T,tuV T,.fn 108 [] []] (.bool true):=by
  have hno:=QdC T
  refine PSpec.Qau 64 TP.ok107 rfl (by rw[noRefs,noRefs,hno];rfl) rfl ?_
  have hml:(T.map sliN).length=T.length:=List.length_map ..
  simp(disch:=first|omega|exact PairsOK.mk rfl|(simp only[lenW]<;>omega)) only[TP.s107,Qac,Qad,Qae,wW,wV,simprocAttr]
  refine QaJ 100 (fun i:Nat=>[(1,tuV T),(2,.fn 108 [] []),(15,tuV T),(16,.int .i64 T.length),(17,.int .i64 i)]) (fun _=>[]) (fun i=>i<=T.length) (fun i=>T.length-i) 0 ?_ (Nat.zero_le _) ?_
  · exact⟨[],rfl,RO.zero,RB.nil,RT.cons (Rn.same hno) (RT.cons (Rn.same rfl) (RT.cons (Rn.same hno) au21))⟩
  rintro i hi
  by_cases hlt:i<T.length
  · obtain ⟨t, htt⟩ := Qak hlt
    have he:=eq108 t t (ht t (List.mem_of_getElem? htt))
    rw[decide_eq_true rfl]at he
    simp(disch:=first|omega|exact PairsOK.mk rfl|(simp only[lenW]<;>omega)) only[hlt,QoD htt,Qac,Qad,Qae,wW,wV,simprocAttr]
    refine SU.chc (HSpec.lend (FrzL.cons (FrzTo.same _) (FrzL.cons (FrzTo.same _) FrzL.nil)) he rfl) ?_
    simp(disch:=first|omega|exact PairsOK.mk rfl|(simp only[lenW]<;>omega)) only[Qac,Qad,Qae,wW,wV,simprocAttr]
    refine⟨i+1,by omega,by omega,?_⟩
    exact⟨[],rfl,RO.zero,RB.nil,RT.cons (Rn.same hno) (RT.cons (Rn.same rfl) (RT.cons (Rn.same hno) au21))⟩
  · simp (disch := first | omega | exact PairsOK.mk rfl | (simp only [lenW] <;> omega)) only [hlt, Qac, Qad, Qae, wW, wV, simprocAttr]
    exact⟨.inr trivial,_,rfl,rfl⟩
theorem same34 (T:List (List Nat)) (hl:T.length<=1000000) (ht:∀t∈T,t.length<=1000000):PSpec Tryz.prog 34 [tuV T,tuV T] (.bool true):=by
 have hno:=QdC T
 refine PSpec.Qau 64 TP.ok34 rfl (by rw[noRefs,noRefs,hno];rfl) rfl ?_
 have h:=eq107 T hl ht
 simp(disch:=first|omega|exact PairsOK.mk rfl|(simp only[lenW]<;>omega)) only[TP.s34,Qac,Qad,Qae,wW,wV,simprocAttr]
 refine cp h ?_
 simp(disch:=first|omega|exact PairsOK.mk rfl|(simp only[lenW]<;>omega)) only[Qac,Qad,Qae,wW,wV,simprocAttr]
 exact⟨.inr trivial,_,rfl,rfl⟩
end Go.AM.SO
namespace Go.AM.SL
open Go.Proofs
end Go.AM.SL
namespace Go.AM.SO
open Go.Proofs Go.AM.SD Go.AM.SE
theorem u8_wf {n:Int} (h:(Lit.int .u8 n).wf=true):0<=n/\n<256:=by
 simp[Lit.wf,IntKind.min,IntKind.max,IntKind.signed,IntKind.bits]at h
 omega
theorem i8_wf {n:Int} (h:(Lit.int .i8 n).wf=true): -128<=n/\n<128:=by
 simp[Lit.wf,IntKind.min,IntKind.max,IntKind.signed,IntKind.bits]at h
 omega
def u8O:Ty->Bool
 | .int k=>k== .u8
 | .arr _ t=>u8O t
 | .st t=>u8O t
 | .unit=>true
 | .pair a b=>u8O a&&u8O b
 |_=>false
theorem Qem {a b:List Nat}:u8s (a++b)=u8s a++u8s b:=by simp[u8s]
theorem QbE:∀(t:Ty),u8O t=true->∀(d:t.D),t.wf d->∃l:List Nat,l.length=t.sz/\(∀x∈l,x<256)/\t.cells d=u8s l
 | .int k,h,d,hw=>by
  have:k= .u8:=by simpa[u8O]using h
  subst this
  have:=u8_wf hw
  refine⟨[Int.toNat d],rfl,by simp;omega,?_⟩
  show[AV.int .u8 d]=[AV.int .u8 ((Int.toNat d:Nat):Int)]
  rw[Int.toNat_of_nonneg this.1]
 | .bool,h,_,_=>by cases h
 | .str,h,_,_=>by cases h
 | .sl _,h,_,_=>by cases h
 | .st t,h,d,hw=>QbE t h d hw
 | .unit,_,_,_=>⟨[],rfl,by simp,rfl⟩
 | .pair a b,h,d,hw=>by
  simp only[u8O,Bool.and_eq_true]at h
  obtain⟨l,h1,h2,h3⟩:=QbE a h.1 d.1 hw.1
  obtain⟨m,g1,g2,g3⟩:=QbE b h.2 d.2 hw.2
  refine⟨l++m,by rw[List.length_append,h1,g1];rfl,fun x hx=>(List.mem_append.1 hx).elim (h2 x) (g2 x),?_⟩
  show a.cells d.1++b.cells d.2=_
  rw[h3,g3,Qem]
 | .arr n t, h, d, hw => by
  obtain⟨hl,hx⟩:=hw
  have key:∀l:List t.D,(∀x∈l,t.wf x)->∃r:List Nat,r.length=l.length*t.sz/\(∀x∈r,x<256)/\l.flatMap t.cells=u8s r:=by
   intro l
   induction l with
   |nil=>intro _;exact⟨[],by simp,by simp,rfl⟩
   |cons a l ih=>
    intro hl
    obtain⟨r,g1,g2,g3⟩:=ih fun y hy=>hl y (by simp[hy])
    obtain⟨m,h1,h2,h3⟩:=QbE t h a (hl a (by simp))
    refine⟨m++r,by rw[List.length_append,h1,g1,List.length_cons,Nat.succ_mul];omega,fun x hx=>(List.mem_append.1 hx).elim (h2 x) (g2 x),?_⟩
    rw[List.flatMap_cons,g3,h3,Qem]
  obtain⟨r,g1,g2,g3⟩:=key d hx
  refine⟨r,by rw[g1];show List.length d*t.sz=n*t.sz;rw[hl],g2,g3⟩
abbrev tyTo:Ty:= .arr 5 (.arr 5 (.int .u8))
abbrev tyGr:Ty:= .st (.pair (.int .u8) (.pair (.int .u8) (.pair tyTo .unit)))
abbrev tyPln:Ty:= .st (.pair (.arr 5 (.int .u8)) (.pair (.int .u8) (.pair (.arr 3 (.int .u8)) (.pair (.arr 3 tyGr) (.pair (.int .u8) (.pair (.arr 2 (.int .u8)) (.pair (.arr 2 tyGr)
 (.pair (.sl (.arr 4 (.int .u8))) (.pair (.arr 3 (.int .i8)) (.pair (.int .i8) .unit))))))))))
theorem Qpv {d:tyPln.D} (h:tyPln.wf d):∃p:Pln,POk p/\p.xn<=9223372036854775807/\tyPln.val d=plnV p:=by
 obtain⟨a,b,c,g,e,f,k,x,y,z,u⟩:=d
 obtain⟨h1,h2,h3,h4,h5,h6,h7,h8,h9,h10,_⟩:=h
 dsimp only at h1 h2 h3 h4 h5 h6 h7 h8 h9 h10
 obtain⟨l1,a1,b1,c1⟩:=QbE (.arr 5 (.int .u8)) rfl _ h1
 obtain⟨l2,a2,b2,c2⟩:=QbE (.int .u8) rfl _ h2
 obtain⟨l3,a3,b3,c3⟩:=QbE (.arr 3 (.int .u8)) rfl _ h3
 obtain⟨l4,a4,b4,c4⟩:=QbE (.arr 3 tyGr) rfl _ h4
 obtain⟨l5,a5,b5,c5⟩:=QbE (.int .u8) rfl _ h5
 obtain⟨l6,a6,b6,c6⟩:=QbE (.arr 2 (.int .u8)) rfl _ h6
 obtain⟨l7,a7,b7,c7⟩:=QbE (.arr 2 tyGr) rfl _ h7
 obtain⟨h80,h8⟩:=h8
 obtain⟨l8,a8,b8,c8⟩:=QbE (.arr (List.length x) (.arr 4 (.int .u8))) rfl x ⟨rfl,h8⟩
 obtain⟨hy,hyw⟩:=h9
 obtain⟨y0,y1,y2,rfl⟩:∃y0 y1 y2,y=[y0,y1,y2]:=by
  match y,hy with
  |[y0,y1,y2],_=>exact⟨y0,y1,y2,rfl⟩
 have w0:=i8_wf (hyw y0 (by simp))
 have w1:=i8_wf (hyw y1 (by simp))
 have w2:=i8_wf (hyw y2 (by simp))
 have wz:=i8_wf h10
 refine⟨⟨l1++l2++l3++l4++l5++l6++l7,l8,List.length x,y0,y1,y2,z⟩,⟨?_,?_,a8,b8,w0,w1,w2,wz⟩,h80,?_⟩
 ·simp only[List.length_append,a1,a2,a3,a4,a5,a6,a7];rfl
 ·intro v hv
  simp only[List.mem_append]at hv
  rcases hv with(((((hv|hv)|hv)|hv)|hv)|hv)|hv
  ·exact b1 v hv
  ·exact b2 v hv
  ·exact b3 v hv
  ·exact b4 v hv
  ·exact b5 v hv
  ·exact b6 v hv
  ·exact b7 v hv
 ·show AV.agg (tyPln.cells _) = _
  congr 1
  show(Ty.arr 5 (.int .u8)).cells a++((Ty.int .u8).cells b++((Ty.arr 3 (.int .u8)).cells c++((Ty.arr 3 tyGr).cells g++((Ty.int .u8).cells e++((Ty.arr 2 (.int .u8)).cells f++((Ty.arr 2 tyGr).cells k++
   ([.fsl ((Ty.arr (List.length x) (.arr 4 (.int .u8))).cells x) (List.length x) 4]++((Ty.arr 3 (.int .i8)).cells [y0,y1,y2]++((Ty.int .i8).cells z++[])))))))))=_
  rw[c1,c2,c3,c4,c5,c6,c7,c8]
  simp only[plnC,Qem,List.append_assoc]
  rfl
end Go.AM.SO
namespace Go.AM.SO
open Go.Proofs Go.AM.SD Go.AM.SE
end Go.AM.SO
namespace Go.AM.SK
open Go.Proofs
noncomputable section
def isT:AV->Bool| .bool true=>true|_=>false
theorem Qpw:∀u,isT u=true->u= .bool true:=by
 intro u h
 unfold isT at h
 split at h
 ·rfl
 ·cases h
theorem known15:PSpec Tryz.prog 15 [] (.bool true):=
 Qbl (t:=ft) ft_ok QcE (d:=100000) isT Qpw (by kernel_rfl)
end
end Go.AM.SK
namespace Go.AM.SO
open Go.Proofs Go.AM.SD Go.AM.SE
theorem short25 (p:Pln) (h:POk p) (hx:p.xn<=9223372036854775807):PSpec Tryz.prog 25 [plnV p] (.bool (decide (p.xn<=4))):=by
 refine PSpec.Qau 64 ok25 rfl (by simp only[noRefs,noRef,SU.QcX];rfl) rfl ?_
 have hlen:=SU.Qg0 h
 have hone:=SU.Qg1 h
 have a147:(plnC p)[147]?=some (.fsl (u8s p.X) p.xn 4):=SU.QdV h (k:=0)
 show wS _ _ _ _ _ (argT 0 [.agg (plnC p)]) _ _
 generalize plnC p=C at*
 have e:decide ((p.xn:Int)<=4)=decide (p.xn<=4):=decide_eq_decide.2 (by omega)
 simp(disch:=first|omega|(simp only[lenW]<;>omega)) only[s25,hlen,hone,a147,e,wW,wV,simprocAttr]
 exact⟨.inr trivial,_,rfl,rfl⟩
end Go.AM.SO
namespace Go.AM.SO
open Go.Proofs Go.AM.SD Go.AM.SE
theorem Qm2 {l:List Aut} {ev:List Nat}:∀{k i:Nat} {s:List (List Nat)×List Ed},(pQ l ev k i s).2.length<=s.2.length+k*ev.length
 |0,_,s=>by simp[pQ]
 | k + 1, i, s => by
  unfold pQ
  cases s.1[i]? with
  |none=>dsimp only;omega
  |some t=>
   have h1:=Qm2 (l:=l) (ev:=ev) (k:=k) (i:=i+1) (s:=pRow l ev i t s)
   have h2:=Qdu (l:=l) (i:=i) (t:=t) (ev:=ev) (s:=s)
   have h3:(k+1)*ev.length=k*ev.length+ev.length:=Nat.succ_mul ..
   dsimp only
   omega
theorem QeS (x:Aut):autB x x=true:=by simp[autB]
theorem QnN {l:List Aut} (h:∀a∈l,WfI a) (hl:l.length<=5):AOk (syncA l)/\(sync0 l).1.length<=243/\∀t∈(sync0 l).1,t.length<=5:=by
 have hw:∀a∈l,∀e∈a.es,e.1<a.n/\e.2.2<a.n:=fun a ha=>(h a ha).wf.esn
 have hpos:∀a∈l,0<a.n:=fun a ha=>(h a ha).pos
 have hbox:box l<=243:=Nat.le_trans (QmK (fun a ha=>(h a ha).n3) (by omega)) (Nat.pow_le_pow_right (n:=3) (by omega) hl)
 have hs:=Qnz hpos hw
 have h5:=Qg5 h
 have he:(sync0 l).2.length<=244*5:=by
  refine Nat.le_trans Qm2 ?_
  have:=Nat.mul_le_mul (show box l+1<=244 by omega) h5
  simpa using this
 refine⟨⟨by show(evA l).length<=_;omega,?_,by show(sync0 l).2.length<=_;omega⟩,by omega,fun t ht=>?_⟩
 ·have := @Qh2 l (sync0 l).1 (sync0 l).1.length
  show(marks l (sync0 l).1 (sync0 l).1.length).length<=_
  omega
 ·have := ((QgY hpos hw).inT t ht).1
  omega
theorem law5 (p:Pln) (h:POk p) (hxn:p.xn<=9223372036854775807):
    W2 Tryz.prog ⟨TP.s5.n,0⟩ TP.s5.body (fun e B=>(e= .normal\/e= .ret)/\resV B.T B.h TP.s5.res=some [.bool true]) ⟨argT 0 [plnV p],.e⟩:=by
  refine(wpC.toW (n:=40) (Q:=fun e T h _=>(e= .normal\/e= .ret)/\resV T h TP.s5.res=some [.bool true]) (show wS Tryz.prog ⟨TP.s5.n,0⟩ TP.s5.body [] 40 _ _ _ from ?_)).mono fun e B ⟨_,h⟩=>h
  have hlen:=SU.Qg0 h
  have hone:=SU.Qg1 h
  have hnr:=@SU.QcX p
  have hS:=short25 p h hxn
  have hM:=SU.Make26 p h
  have hw:=@QoX p
  have hnc:=QbZ (mkC p)
  have htk:(plnC p).take 152=plnC p:=by rw[<-hlen,List.take_length]
  show wS _ _ _ _ _ (argT 0 [.agg (plnC p)]) _ _
  have hS':PSpec Tryz.prog 25 [.agg (plnC p)] (.bool (decide (p.xn<=4))):=hS
  have hM':PSpec Tryz.prog 26 [.agg (plnC p)] (celV (mkC p)):=hM
  clear hS hM
  generalize plnC p=C at*
  generalize mkC p=c at*
  by_cases h4:p.xn<=4
  · have e4 : decide (p.xn <= 4) = true := by simp [h4]
    rw[e4]at hS'
    have h3:=hw.c3
    have hC:=conds27 c hw
    have hP:=plant17 c hw
    have hA:=automata29 (ch:=99) c.cs (by omega)
    have hY:=QkZ c hw
    have hD:=conds30 c hw
    obtain⟨hO,hT,hT5⟩:=QnN (Qg6 hw) (by rw[QbK];omega)
    have hQ:=eq43 (syncA (auL c.cs)) (syncA (auL c.cs)) hO hO
    rw[QeS]at hQ
    have hU:=same34 (sync0 (auL c.cs)).1 (by omega) fun t ht=>by have:=hT5 t ht;omega
    have hK:=conds32 c hw
    have hZ:=eq41N (szs c) (szs c) (by rw[hw.slen];omega)
    rw[decide_eq_true rfl]at hZ
    generalize syncA (auL c.cs)=A at*
    generalize (sync0 (auL c.cs)).1=T at*
    simp(disch:=first|omega|exact PairsOK.mk rfl|(simp only[lenW]<;>omega)) only[TP.s5,hlen,hone,htk,Qac,Qad,Qae,wW,wV,simprocAttr]
    refine cp SK.known15 ?_
    simp(disch:=first|omega|exact PairsOK.mk rfl|(simp only[lenW]<;>omega)) only[hlen,htk,Qac,Qad,Qae,wW,wV,simprocAttr]
    refine cp hS' ?_
    simp(disch:=first|omega|exact PairsOK.mk rfl|(simp only[lenW]<;>omega)) only[hlen,htk,Qac,Qad,Qae,wW,wV,simprocAttr]
    refine cp hM' ?_
    simp(disch:=first|omega|exact PairsOK.mk rfl|(simp only[lenW]<;>omega)) only[Qac,Qad,Qae,wW,wV,simprocAttr]
    refine cp hC ?_
    simp(disch:=first|omega|exact PairsOK.mk rfl|(simp only[lenW]<;>omega)) only[Qac,Qad,Qae,wW,wV,simprocAttr]
    refine cp hP ?_
    simp(disch:=first|omega|exact PairsOK.mk rfl|(simp only[lenW]<;>omega)) only[Qac,Qad,Qae,wW,wV,simprocAttr]
    refine cp hA ?_
    simp(disch:=first|omega|exact PairsOK.mk rfl|(simp only[lenW]<;>omega)) only[Qac,Qad,Qae,wW,wV,simprocAttr]
    refine cp hY ?_
    simp(disch:=first|omega|exact PairsOK.mk rfl|(simp only[lenW]<;>omega)) only[Qac,Qad,Qae,wW,wV,simprocAttr]
    refine cp hD ?_
    simp(disch:=first|omega|exact PairsOK.mk rfl|(simp only[lenW]<;>omega)) only[Qac,Qad,Qae,wW,wV,simprocAttr]
    refine cp hZ ?_
    simp(disch:=first|omega|exact PairsOK.mk rfl|(simp only[lenW]<;>omega)) only[Qac,Qad,Qae,wW,wV,simprocAttr]
    refine cp hK ?_
    simp(disch:=first|omega|exact PairsOK.mk rfl|(simp only[lenW]<;>omega)) only[Qac,Qad,Qae,wW,wV,simprocAttr]
    refine cp hQ ?_
    simp(disch:=first|omega|exact PairsOK.mk rfl|(simp only[lenW]<;>omega)) only[Qac,Qad,Qae,wW,wV,simprocAttr]
    refine cp hU ?_
    simp(disch:=first|omega|exact PairsOK.mk rfl|(simp only[lenW]<;>omega)) only[Qac,Qad,Qae,wW,wV,simprocAttr]
    exact⟨.inr trivial,rfl⟩
  · have e4 : decide (p.xn <= 4) = false := by simp [h4]
    rw[e4]at hS'
    simp(disch:=first|omega|exact PairsOK.mk rfl|(simp only[lenW]<;>omega)) only[TP.s5,hlen,hone,htk,Qac,Qad,Qae,wW,wV,simprocAttr]
    refine cp SK.known15 ?_
    simp(disch:=first|omega|exact PairsOK.mk rfl|(simp only[lenW]<;>omega)) only[hlen,htk,Qac,Qad,Qae,wW,wV,simprocAttr]
    refine cp hS' ?_
    simp(disch:=first|omega|exact PairsOK.mk rfl|(simp only[lenW]<;>omega)) only[hlen,htk,Qac,Qad,Qae,wW,wV,simprocAttr]
    refine cp SK.known15 ?_
    simp(disch:=first|omega|exact PairsOK.mk rfl|(simp only[lenW]<;>omega)) only[Qac,Qad,Qae,wW,wV,simprocAttr]
    exact⟨.inr trivial,rfl⟩
theorem okp5:okFn Tryz.prog 5 TP.s5=true:=TP.ok5
theorem law5_in (d0:tyPln.D) (h0:tyPln.wf d0):
  W2 Tryz.prog ⟨TP.s5.n,0⟩ TP.s5.body (fun e B=>(e= .normal\/e= .ret)/\resV B.T B.h TP.s5.res=some [.bool true]) ⟨argT 0 [tyPln.val d0],.e⟩:=by
 obtain⟨p,hp,hl,e0⟩:=Qpv h0
 rw[e0]
 exact law5 p hp hl
end Go.AM.SO
