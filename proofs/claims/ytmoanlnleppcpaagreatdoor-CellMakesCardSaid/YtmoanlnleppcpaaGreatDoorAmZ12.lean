/- A part of the proof of CellMakesCardSaid: lemmas on the way (AmBo, AmCa, AmCb, AmFa, AmBFb, AmBw, AmBFd, AmBy, AmBFe, AmCc, AmCe, AmCf, AmTi, AmCg, AmCh, AmCm, AmCu, AmCi, AmCk, AmCl, AmCn, AmCv, AmCw, AmCyc, AmCyd, AmCyb, AmCye, AmCyf, AmCyh, AmCyg, AmCyi, AmCyj, AmCzd, AmCr, AmCze, AmCzg, AmCzh, AmCzi). Conditions: none of ours. -/
import Derived.KernelRfl
import Derived.Test.YtmoanlnleppcpaaGreatDoorProg
import Derived.Test.YtmoanlnleppcpaaGreatDoorAmZ11
set_option linter.unusedSectionVars false
set_option maxHeartbeats 32000000
set_option maxRecDepth 100000
set_option linter.unusedVariables false
set_option linter.unusedSimpArgs false
namespace Go.AM.SE
open Go.Proofs Go.AM.SD
def u8s (l:List Nat):List AV:=l.map fun x:Nat=> .int .u8 (x:Int)
theorem Qar (l:List Nat):noRefs (u8s l)=true:=QcH (fun _=>rfl) l
theorem Qgt {l:List Nat} {i x:Nat} (h:l[i]?=some x):(u8s l)[i]?=some (.int .u8 (x:Int)):=by simp[u8s,h]
def gEd (al:List Nat) (n:Nat) (T:List Nat) (i k:Nat):Option Ed:=if T.getD (i*5+k) 0 % (n+2)<n then some (i,al.getD k 0,T.getD (i*5+k) 0 % (n+2))else none
def gRow (al:List Nat) (n:Nat) (T:List Nat) (i k:Nat):List Ed:=(List.range k).filterMap (gEd al n T i)
def gPre (al:List Nat) (n:Nat) (T:List Nat) (i:Nat):List Ed:=(List.range i).flatMap fun i=>gRow al n T i al.length
def gPart (al:List Nat) (n:Nat) (T:List Nat) (i k:Nat):List Ed:=gPre al n T i++gRow al n T i k
def gRaw (al:List Nat) (st mk:Nat) (T:List Nat):Aut:=if 250<=st then⟨al,0,[],[]⟩else⟨al,1+st % 5,SD.part (1+st % 5) mk,gPre al (1+st % 5) T (1+st % 5)⟩
theorem Qm4 {al:List Nat} {n:Nat} {T:List Nat} {i k:Nat} {e:Ed} (h:e∈gRow al n T i k):e.1=i/\e.2.2<n:=by
 unfold gRow at h
 obtain⟨j,_,hj⟩:=List.mem_filterMap.1 h
 unfold gEd at hj
 split at hj
 ·rename_i h1;cases hj;exact⟨rfl,h1⟩
 ·cases hj
theorem QhE {al:List Nat} {n:Nat} {T:List Nat} {i k:Nat}:gRow al n T i (k+1)=gRow al n T i k++match gEd al n T i k with|some e=>[e]|none=>[]:=by
 unfold gRow
 rw[List.range_succ,List.filterMap_append]
 congr 1
 cases e:gEd al n T i k<;>simp[e]
theorem QfV {al:List Nat} {n:Nat} {T:List Nat} {i k:Nat}:(gRow al n T i k).length<=k:=by
 unfold gRow;exact Nat.le_trans (List.length_filterMap_le _ _) (by simp)
theorem QfW {al:List Nat} {n:Nat} {T:List Nat} (hal:al.length<=5):∀i,(gPre al n T i).length<=i*5
 |0=>by simp[gPre]
 |i+1=>by
  have h1:=QfW (n:=n) (T:=T) hal i
  have h2:=@QfV al n T i al.length
  unfold gPre at h1⊢
  rw[List.range_succ,List.flatMap_append,List.length_append,Nat.succ_mul,List.flatMap_cons,List.flatMap_nil,List.append_nil]
  omega
theorem Qmc {al:List Nat} {n:Nat} {T:List Nat} {i:Nat}:gPre al n T (i+1)=gPart al n T i al.length:=by
 unfold gPart gPre
 rw[List.range_succ,List.flatMap_append,List.flatMap_cons,List.flatMap_nil,List.append_nil]
theorem Qea {al:List Nat} {st mk:Nat} {T:List Nat} (hal:al.length<=5):Raw (gRaw al st mk T):=by
  unfold gRaw
  split
  · exact⟨by simp,by simp,by simp,by dsimp only;omega,by simp⟩
  · have h5 : 1 + st % 5 <= 5 := by omega
    refine⟨fun e he=>?_,h5,?_,by dsimp only;omega,?_⟩
    · unfold gPre at he
      obtain⟨i,hi,he⟩:=List.mem_flatMap.1 he
      have:=List.mem_range.1 hi
      obtain⟨h1,h2⟩:=Qm4 he
      exact⟨by rw[h1];exact this,h2⟩
    · have := QfW (n := 1 + st % 5) (T := T) hal (1 + st % 5)
      dsimp only;omega
    · have := @Qcz (1 + st % 5) mk
      dsimp only;omega
def mkA (al:List Nat) (st mk:Nat) (T:List Nat):Aut:=canon (gRaw al st mk T)
theorem Qod {al:List Nat} {st mk:Nat} {T:List Nat} (hs:al.Pairwise (· < ·)) (h5:∀x∈al,x<5):WfA (mkA al st mk T):=by
 have hal:al.length<=5:=Qcn hs h5
 have hr:=Qea (st:=st) (mk:=mk) (T:=T) hal
 have ha:(gRaw al st mk T).al=al:=by unfold gRaw;split<;>rfl
 exact QmS (by rw[ha];exact hs) (by rw[ha];exact h5) hr.n5 hr.esn
abbrev grV (st mk:Nat) (T:List Nat):AV:= .agg (.int .u8 (st:Int):: .int .u8 (mk:Int)::u8s T)
theorem _root_.Go.AM.au9 {p:Prop} (h:p:=by repeat' (first|exact RB.nil|(refine RnL.same ?_;first|rfl|(simp only[noRef,noRefs,Qah,Bool.and_self,Bool.and_true,Bool.true_and,Qaa,Qar,Qaf,Qad,Qag,Qas,Qbn,Qae,Qaw,Qac,Qa5,QaI,Qam,Qap,QbF];done))|exact RnM.keyM rfl|exact RnL.nil|exact(True.intro:RnM _ _ _ [] [])|refine RnL.cons ?_ ?_|(refine Rn.same ?_;first|rfl|(simp only[noRef,noRefs,Qah,Bool.and_self,Bool.and_true,Bool.true_and,Qaa,Qar,Qaf,Qad,Qag,Qas,Qbn,Qae,Qaw,Qac,Qa5,QaI,Qam,Qap,QbF];done))|exact Rn.x1 rfl rfl|exact Rn.x2 rfl rfl|exact Rn.x3 rfl rfl|exact Rn.x4 rfl rfl|exact Rn.x5 rfl|exact Rn.x6 rfl|exact Rn.x7 rfl|refine RB.newnil rfl rfl ?_|refine RB.cells rfl rfl rfl ?_ ?_|refine RB.map rfl rfl rfl ?_ ?_|refine RB.cellsB rfl rfl ?_ ?_|refine RB.mapB rfl rfl ?_ ?_)):p:=h
theorem _root_.Go.AM.au10 {p:Prop} (h:p:=by repeat (first|exact RT.nil|(refine RT.cons ?_ ?_; · (first|exact Rn.any|exact Rn.x1 rfl rfl|exact Rn.x2 rfl rfl|exact Rn.x3 rfl rfl|exact Rn.x4 rfl rfl|exact Rn.x5 rfl|exact Rn.x6 rfl|exact Rn.x7 rfl|(refine Rn.slot ?_ ?_;(first|rfl|(rw[Int.natCast_add];rfl));(first|rfl|(simp only[noRef,noRefs,Qah,Bool.and_self,Bool.and_true,Bool.true_and,Qaa,Qar,Qaf,Qad,Qag,Qas,Qbn,Qae,Qaw,Qac,Qa5,QaI,Qam,Qap,QbF];done)))|(refine Rn.fn ?_ ?_<;>(repeat' (first|exact RnL.nil|refine RnL.cons ?_ ?_|exact Rn.same rfl|exact Rn.x6 rfl|exact Rn.x2 rfl rfl|exact Rn.x5 rfl|exact Rn.x1 rfl rfl))))))):p:=h
theorem Make32 (al : List Nat) (st mk : Nat) (T : List Nat) (hs : al.Pairwise (· < ·)) (h5 : ∀ x ∈ al, x < 5) (hst : st < 256) (hmk : mk < 256) (hT : T.length = 25) (hT8 : ∀ x ∈ T, x < 256) :
    PSpec Tryz.prog 185 [sliN al,grV st mk T] (aV (mkA al st mk T)):=by
  have hal:al.length<=5:=Qcn hs h5
  have hlu:(u8s T).length=25:=by simp[u8s,hT]
  have hcan:=canon46 (gRaw al st mk T) (Qea hal)
  refine PSpec.of_rn 40 ok185 rfl (by(try simp only[noRefs,Qar,Qam,Qap,Qaa,Qaf,Qad,Qag,Qas,Qae,noRef,Bool.and_self,Bool.and_true])<;>rfl) (Qcy _) ?_
  unfold mkA
  by_cases h0:250<=st
  · have h0' : (250 : Int) <= (st : Int) := by omega
    have hr:gRaw al st mk T=⟨al,0,[],[]⟩:=if_pos h0
    have hc:canon (gRaw al st mk T)=⟨al,0,[],[]⟩:=by rw[hr];rfl
    rw[hc]
    simp(disch:=first|omega|(simp only[lenW]<;>omega)) only[s185,h0',wW,wV,simprocAttr]
    refine cp (empty45 al (by omega)) ?_
    simp(disch:=first|omega|(simp only[lenW]<;>omega)) only[wW,wV,simprocAttr]
    refine⟨.inr trivial,_,rfl,?_⟩
    exact Rn.agg (RnL.cons (Rn.same (Qac _)) (RnL.cons (Rn.same rfl) (RnL.cons Rn.nilK (RnL.cons Rn.nilK RnL.nil))))
  have h0':¬(250:Int)<=(st:Int):=by omega
  have hr:gRaw al st mk T=⟨al,1+st % 5,SD.part (1+st % 5) mk,gPre al (1+st % 5) T (1+st % 5)⟩:=if_neg h0
  rw[hr]at hcan⊢
  have hn5:1+st % 5<=5:=by omega
  obtain⟨n,hN⟩:∃n,n=1+st % 5:=⟨_,rfl⟩
  rw[<-hN]at hr hcan hn5⊢
  have hnn:(1:Int)+((st % 5:Nat):Int)=(n:Int):=by omega
  simp(disch:=first|omega|(simp only[lenW]<;>omega)) only[s185,h0',wW,wV,simprocAttr]
  refine cp (empty45 al (by omega)) ?_
  have htm:(st:Int).tmod 5=((st % 5:Nat):Int):=by
    rw[Int.tmod_eq_emod_of_nonneg (Int.natCast_nonneg _)];norm_cast
  simp(disch:=first|omega|(simp only[lenW]<;>omega)) only[htm,hnn,wW,wV,simprocAttr]
  refine Qax 100 (fun i:Nat=>[(0,sliN al),(3,.ptr 50 0 0),(4,.ptr 51 0 0),(5,.ptr 52 0 0),(6,.int .i64 i)])
    (fun i=>[(50,.cells 0 (.int .u8 (st:Int):: .int .u8 (mk:Int)::u8s T)),(51,.cells 0 [.nilsl,.int .i64 0,.nilsl,.nilsl]),(52,.cells 0 [sliN al,.int .i64 (n:Int),.sl 77 0 0 (SD.part i mk).length 1,.sl 76 0 0 (gPre al n T i).length 3]),(76,.cells 0 ((gPre al n T i).flatMap edC)),(77,.cells 0 (ints (nz (SD.part i mk))))])
    (fun i=>i<=n) (fun i=>n-i) 0 0 160
    (fun _:Unit=>[(4,.ptr 51 0 0),(5,.ptr 52 0 0)])
    (fun _=>[(51,.cells 0 [.nilsl,.int .i64 0,.nilsl,.nilsl]),(52,.cells 0 [sliN al,.int .i64 (n:Int),sliN (SD.part n mk),egsN (gPre al n T n)])]) (fun _=>True) ?_ (Nat.zero_le _) ?_ ?_
  · exact⟨[(50,.blk 40 0),(51,.blk 41 0),(52,.blk 47 0),(76,.nil),(77,.nil)],rfl,au0,au9,au10⟩
  · rintro i hi
    by_cases hlt:i<n
    · have hpt := QcO (n := n) (b := mk) (i := i)
      have hpl:=@Qcz i mk
      have hgl:=QfW (n:=n) (T:=T) hal i
      have hg0:gPart al n T i 0=gPre al n T i:=by simp[gPart,gRow]
      have hgs:=Qmc (al:=al) (n:=n) (T:=T) (i:=i)
      have hed0:=QbN (gPre al n T i)
      generalize hM1:SD.part (i+1) mk=M1 at*
      generalize hM:SD.part i mk=M at*
      by_cases hmv:mk.testBit i=true
      · rw [if_pos hmv] at hpt
        have hb:=Qc3.2 hmv
        simp(disch:=first|omega|(simp only[lenW]<;>omega)) only[hlt,Qca (k:= .u8) (show i<=8 by omega),Qcb,hb,wW,wV,simprocAttr]
        refine Qax 300 (fun k:Nat=>[(0,sliN al),(3,.ptr 50 0 0),(4,.ptr 51 0 0),(5,.ptr 52 0 0),(6,.int .i64 i),(7,.int .i64 k)])
          (fun k=>[(50,.cells 0 (.int .u8 (st:Int):: .int .u8 (mk:Int)::u8s T)),(51,.cells 0 [.nilsl,.int .i64 0,.nilsl,.nilsl]),(52,.cells 0 [sliN al,.int .i64 (n:Int),.sl 77 0 0 M1.length 1,.sl 76 0 0 (gPart al n T i k).length 3]),(76,.cells 0 ((gPart al n T i k).flatMap edC)),(77,.cells 0 (ints (nz M1)))])
          (fun k=>k<=al.length) (fun k=>al.length-k) 0 2 400
          (fun _:Unit=>[(0,sliN al),(3,.ptr 50 0 0),(4,.ptr 51 0 0),(5,.ptr 52 0 0),(6,.int .i64 i)])
          (fun _=>[(50,.cells 0 (.int .u8 (st:Int):: .int .u8 (mk:Int)::u8s T)),(51,.cells 0 [.nilsl,.int .i64 0,.nilsl,.nilsl]),(52,.cells 0 [sliN al,.int .i64 (n:Int),.sl 77 0 0 M1.length 1,.sl 76 0 0 (gPre al n T (i+1)).length 3]),(76,.cells 0 ((gPre al n T (i+1)).flatMap edC)),(77,.cells 0 (ints (nz M1)))]) (fun _=>True) ?_ (Nat.zero_le _) ?_ ?_
        · rw [hg0, hpt, List.length_append, QaH, QaD]
          exact⟨[(50,.blk 50 0),(51,.blk 51 0),(52,.blk 52 0),(76,.blk 76 0),(77,.blk 77 1)],rfl,au0,au9,au10⟩
        · rintro k hk
          by_cases hkl:k<al.length
          · obtain ⟨ev, hev⟩ := Qak hkl
            have hevD:al.getD k 0=ev:=by rw[List.getD_eq_getElem?_getD,hev];rfl
            obtain⟨x,hx⟩:=Qak (l:=T) (i:=i*5+k) (by omega)
            have hxD:T.getD (i*5+k) 0=x:=by rw[List.getD_eq_getElem?_getD,hx];rfl
            have hx8:=hT8 x (List.mem_of_getElem? hx)
            have hk5:(k:Int)<5:=by omega
            have hi5:(i:Int)<5:=by omega
            have hgx:(AV.int .u8 (st:Int)::AV.int .u8 (mk:Int)::u8s T)[2+i*5+k]?=some (.int .u8 (x:Int)):=by
              rw[show 2+i*5+k=(i*5+k)+2 by omega]
              simpa using Qgt hx
            have hrm:(x:Int).tmod ((n:Int)+2)=((x % (n+2):Nat):Int):=by
              rw[Int.tmod_eq_emod_of_nonneg (Int.natCast_nonneg _)];norm_cast
            have hn0:¬(n:Int)+2=0:=by omega
            have hxm:x % (n+2)<=10:=by have:=Nat.mod_lt x (show 0<n+2 by omega);omega
            have hst:=QhE (al:=al) (n:=n) (T:=T) (i:=i) (k:=k)
            have hrl:=@QfV al n T i k
            have hps:gPart al n T i (k+1)=gPart al n T i k++match gEd al n T i k with|some e=>[e]|none=>[]:=by
              unfold gPart;rw[hst,List.append_assoc]
            have hpl2:(gPart al n T i k).length<=100:=by unfold gPart;rw[List.length_append];omega
            have hpe:=QbN (gPart al n T i k)
            unfold gEd at hps
            rw[hxD,hevD]at hps
            generalize gPart al n T i k=R at*
            by_cases ht:x % (n+2)<n
            · rw [if_pos ht] at hps
              simp(disch:=first|omega|(simp only[lenW]<;>omega)) only[hkl,hk5,hi5,hgx,hn0,hrm,ht,QaL hev,hpe,wW,wV,simprocAttr]
              refine⟨k+1,by omega,by omega,?_⟩
              rw[hps,List.flatMap_append,List.length_append]
              exact⟨[(50,.blk 50 0),(51,.blk 51 0),(52,.blk 52 0),(76,.blk 76 1),(77,.blk 77 0)],rfl,au0,au9,au10⟩
            · rw [if_neg ht, List.append_nil] at hps
              simp(disch:=first|omega|(simp only[lenW]<;>omega)) only[hkl,hk5,hi5,hgx,hn0,hrm,ht,wW,wV,simprocAttr]
              refine⟨k+1,by omega,by omega,?_⟩
              rw[hps]
              exact⟨[(50,.blk 50 0),(51,.blk 51 0),(52,.blk 52 0),(76,.blk 76 0),(77,.blk 77 0)],rfl,au0,au9,au10⟩
          · have e : k = al.length := by omega
            subst e
            simp(disch:=first|omega|(simp only[lenW]<;>omega)) only[hkl,wW,wV,simprocAttr]
            refine⟨(),?_⟩
            rw[hgs]
            exact⟨[(50,.blk 50 0),(51,.blk 51 0),(52,.blk 52 0),(76,.blk 76 0),(77,.blk 77 0)],rfl,au0,au9,au10⟩
        rintro _ _
        simp(disch:=first|omega|(simp only[lenW]<;>omega)) only[wW,wV,simprocAttr]
        refine⟨i+1,by omega,by omega,?_⟩
        rw[hM1]
        exact⟨[(50,.blk 50 0),(51,.blk 51 0),(52,.blk 52 0),(76,.blk 76 0),(77,.blk 77 0)],rfl,au0,au9,au10⟩
      · rw [if_neg hmv, List.append_nil] at hpt
        have hb:¬((mk/2^i % 2:Nat):Int)=1:=fun e=>hmv (Qc3.1 e)
        simp(disch:=first|omega|(simp only[lenW]<;>omega)) only[hlt,Qca (k:= .u8) (show i<=8 by omega),Qcb,hb,wW,wV,simprocAttr]
        refine Qax 300 (fun k:Nat=>[(0,sliN al),(3,.ptr 50 0 0),(4,.ptr 51 0 0),(5,.ptr 52 0 0),(6,.int .i64 i),(7,.int .i64 k)])
          (fun k=>[(50,.cells 0 (.int .u8 (st:Int):: .int .u8 (mk:Int)::u8s T)),(51,.cells 0 [.nilsl,.int .i64 0,.nilsl,.nilsl]),(52,.cells 0 [sliN al,.int .i64 (n:Int),.sl 77 0 0 M1.length 1,.sl 76 0 0 (gPart al n T i k).length 3]),(76,.cells 0 ((gPart al n T i k).flatMap edC)),(77,.cells 0 (ints (nz M1)))])
          (fun k=>k<=al.length) (fun k=>al.length-k) 0 2 400
          (fun _:Unit=>[(0,sliN al),(3,.ptr 50 0 0),(4,.ptr 51 0 0),(5,.ptr 52 0 0),(6,.int .i64 i)])
          (fun _=>[(50,.cells 0 (.int .u8 (st:Int):: .int .u8 (mk:Int)::u8s T)),(51,.cells 0 [.nilsl,.int .i64 0,.nilsl,.nilsl]),(52,.cells 0 [sliN al,.int .i64 (n:Int),.sl 77 0 0 M1.length 1,.sl 76 0 0 (gPre al n T (i+1)).length 3]),(76,.cells 0 ((gPre al n T (i+1)).flatMap edC)),(77,.cells 0 (ints (nz M1)))]) (fun _=>True) ?_ (Nat.zero_le _) ?_ ?_
        · rw [hg0, hpt]
          exact⟨[(50,.blk 50 0),(51,.blk 51 0),(52,.blk 52 0),(76,.blk 76 0),(77,.blk 77 0)],rfl,au0,au9,au10⟩
        · rintro k hk
          by_cases hkl:k<al.length
          · obtain ⟨ev, hev⟩ := Qak hkl
            have hevD:al.getD k 0=ev:=by rw[List.getD_eq_getElem?_getD,hev];rfl
            obtain⟨x,hx⟩:=Qak (l:=T) (i:=i*5+k) (by omega)
            have hxD:T.getD (i*5+k) 0=x:=by rw[List.getD_eq_getElem?_getD,hx];rfl
            have hx8:=hT8 x (List.mem_of_getElem? hx)
            have hk5:(k:Int)<5:=by omega
            have hi5:(i:Int)<5:=by omega
            have hgx:(AV.int .u8 (st:Int)::AV.int .u8 (mk:Int)::u8s T)[2+i*5+k]?=some (.int .u8 (x:Int)):=by
              rw[show 2+i*5+k=(i*5+k)+2 by omega]
              simpa using Qgt hx
            have hrm:(x:Int).tmod ((n:Int)+2)=((x % (n+2):Nat):Int):=by
              rw[Int.tmod_eq_emod_of_nonneg (Int.natCast_nonneg _)];norm_cast
            have hn0:¬(n:Int)+2=0:=by omega
            have hxm:x % (n+2)<=10:=by have:=Nat.mod_lt x (show 0<n+2 by omega);omega
            have hst:=QhE (al:=al) (n:=n) (T:=T) (i:=i) (k:=k)
            have hrl:=@QfV al n T i k
            have hps:gPart al n T i (k+1)=gPart al n T i k++match gEd al n T i k with|some e=>[e]|none=>[]:=by
              unfold gPart;rw[hst,List.append_assoc]
            have hpl2:(gPart al n T i k).length<=100:=by unfold gPart;rw[List.length_append];omega
            have hpe:=QbN (gPart al n T i k)
            unfold gEd at hps
            rw[hxD,hevD]at hps
            generalize gPart al n T i k=R at*
            by_cases ht:x % (n+2)<n
            · rw [if_pos ht] at hps
              simp(disch:=first|omega|(simp only[lenW]<;>omega)) only[hkl,hk5,hi5,hgx,hn0,hrm,ht,QaL hev,hpe,wW,wV,simprocAttr]
              refine⟨k+1,by omega,by omega,?_⟩
              rw[hps,List.flatMap_append,List.length_append]
              exact⟨[(50,.blk 50 0),(51,.blk 51 0),(52,.blk 52 0),(76,.blk 76 1),(77,.blk 77 0)],rfl,au0,au9,au10⟩
            · rw [if_neg ht, List.append_nil] at hps
              simp(disch:=first|omega|(simp only[lenW]<;>omega)) only[hkl,hk5,hi5,hgx,hn0,hrm,ht,wW,wV,simprocAttr]
              refine⟨k+1,by omega,by omega,?_⟩
              rw[hps]
              exact⟨[(50,.blk 50 0),(51,.blk 51 0),(52,.blk 52 0),(76,.blk 76 0),(77,.blk 77 0)],rfl,au0,au9,au10⟩
          · have e : k = al.length := by omega
            subst e
            simp(disch:=first|omega|(simp only[lenW]<;>omega)) only[hkl,wW,wV,simprocAttr]
            refine⟨(),?_⟩
            rw[hgs]
            exact⟨[(50,.blk 50 0),(51,.blk 51 0),(52,.blk 52 0),(76,.blk 76 0),(77,.blk 77 0)],rfl,au0,au9,au10⟩
        rintro _ _
        simp(disch:=first|omega|(simp only[lenW]<;>omega)) only[wW,wV,simprocAttr]
        refine⟨i+1,by omega,by omega,?_⟩
        rw[hM1]
        exact⟨[(50,.blk 50 0),(51,.blk 51 0),(52,.blk 52 0),(76,.blk 76 0),(77,.blk 77 0)],rfl,au0,au9,au10⟩
    · have e : i = n := by omega
      subst e
      simp(disch:=first|omega|(simp only[lenW]<;>omega)) only[hlt,wW,wV,simprocAttr]
      refine⟨(),[(51,.blk 51 0),(52,.blk 52 0)],rfl,RO.zero,?_,au10⟩
      refine RB.cells rfl rfl rfl (RnL.same rfl) (RB.cells rfl rfl rfl (RnL.cons (Rn.same (Qac _)) (RnL.cons (Rn.same rfl) (RnL.cons (Rn.fzm rfl rfl rfl rfl (by simp[ints]) (RnL.same (Qaa _))) (RnL.cons (Rn.fzm rfl rfl rfl rfl (QbN _) (RnL.same (Qad _))) RnL.nil)))) RB.nil)
  rintro _ _
  simp(disch:=first|omega|(simp only[lenW]<;>omega)) only[wW,wV,simprocAttr]
  refine cp hcan ?_
  generalize canon ⟨al,n,SD.part n mk,gPre al n T n⟩=C at*
  simp(disch:=first|omega|(simp only[lenW]<;>omega)) only[wW,wV,simprocAttr]
  exact⟨.inr trivial,_,rfl,Rn.same (Qcy _)⟩
end Go.AM.SE
namespace Go.AM.SO
open Go.Proofs Go.AM.SD Go.AM.SE
def mrg (k:Bool->Bool->Bool):List Nat->List Nat->List Nat
 |[],[]=>[]
 |a::A,[]=>(if k true false=true then[a]else[])++mrg k A []
 |[],b::B=>(if k false true=true then[b]else[])++mrg k [] B
 |a::A,b::B=>if a<b then(if k true false=true then[a]else[])++mrg k A (b::B)
  else if b<a then(if k false true=true then[b]else[])++mrg k (a::A) B
  else(if k true true=true then[a]else[])++mrg k A B
termination_by A B=>A.length+B.length
theorem Qbm {k : Bool -> Bool -> Bool} {x : Nat} : ∀ {A B : List Nat}, A.Pairwise (· < ·) -> B.Pairwise (· < ·) -> (x ∈ mrg k A B ↔ k (decide (x ∈ A)) (decide (x ∈ B)) = true /\ (x ∈ A \/ x ∈ B))
  |[],[],_,_=>by simp[mrg]
  | a :: A, [], hA, hB => by
    have ih:=Qbm (k:=k) (x:=x) (List.pairwise_cons.1 hA).2 hB
    have h1:=(List.pairwise_cons.1 hA).1
    rw[mrg,List.mem_append,ih]
    by_cases e:x=a
    · subst e
      have:x∉A:=fun h=>by have:=h1 x h;omega
      by_cases hk:k true false=true<;>simp[this,hk]
    · by_cases hk:k true false=true<;>simp[e,hk]
  | [], b :: B, hA, hB => by
    have ih:=Qbm (k:=k) (x:=x) hA (List.pairwise_cons.1 hB).2
    have h1:=(List.pairwise_cons.1 hB).1
    rw[mrg,List.mem_append,ih]
    by_cases e:x=b
    · subst e
      have:x∉B:=fun h=>by have:=h1 x h;omega
      by_cases hk:k false true=true<;>simp[this,hk]
    · by_cases hk:k false true=true<;>simp[e,hk]
  | a :: A, b :: B, hA, hB => by
    have hA1:=(List.pairwise_cons.1 hA).1
    have hB1:=(List.pairwise_cons.1 hB).1
    rw[mrg]
    by_cases h1:a<b
    · have ih := Qbm (k := k) (x := x) (List.pairwise_cons.1 hA).2 hB
      rw[if_pos h1,List.mem_append,ih]
      by_cases e:x=a
      · subst e
        have n1:x∉A:=fun h=>by have:=hA1 x h;omega
        have n2:x∉b::B:=fun h=>by
          rcases List.mem_cons.1 h with rfl|h
          · omega
          · have:=hB1 x h;omega
        by_cases hk:k true false=true<;>simp[n1,n2,hk]
      · by_cases hk:k true false=true<;>simp[e,hk]
    · rw [if_neg h1]
      by_cases h2:b<a
      · have ih := Qbm (k := k) (x := x) hA (List.pairwise_cons.1 hB).2
        rw[if_pos h2,List.mem_append,ih]
        by_cases e:x=b
        · subst e
          have n1:x∉B:=fun h=>by have:=hB1 x h;omega
          have n2:x∉a::A:=fun h=>by
            rcases List.mem_cons.1 h with rfl|h
            · omega
            · have:=hA1 x h;omega
          by_cases hk:k false true=true<;>simp[n1,n2,hk]
        · by_cases hk:k false true=true<;>simp[e,hk]
      · have e1 : a = b := by omega
        subst e1
        have ih:=Qbm (k:=k) (x:=x) (List.pairwise_cons.1 hA).2 (List.pairwise_cons.1 hB).2
        rw[if_neg h2,List.mem_append,ih]
        by_cases e:x=a
        · subst e
          have n1:x∉A:=fun h=>by have:=hA1 x h;omega
          have n2:x∉B:=fun h=>by have:=hB1 x h;omega
          by_cases hk:k true true=true<;>simp[n1,n2,hk]
        · by_cases hk:k true true=true<;>simp[e,hk]
termination_by A B=>A.length+B.length
theorem QbS {k:Bool->Bool->Bool}:∀{A B:List Nat},A.Pairwise (· < ·)->B.Pairwise (· < ·)->(mrg k A B).Pairwise (· < ·)
 |[],[],_,_=>by simp[mrg]
 |a::A,[],hA,hB=>by
  have ih:=QbS (k:=k) (List.pairwise_cons.1 hA).2 hB
  have h1:=(List.pairwise_cons.1 hA).1
  rw[mrg,List.pairwise_append]
  refine⟨by split<;>simp,ih,fun x hx y hy=>?_⟩
  have hx:x=a:=by split at hx<;>simp at hx;exact hx
  have:=(Qbm (List.pairwise_cons.1 hA).2 hB).1 hy
  subst hx
  rcases this.2 with h|h
  ·exact h1 y h
  ·cases h
 |[],b::B,hA,hB=>by
  have ih:=QbS (k:=k) hA (List.pairwise_cons.1 hB).2
  have h1:=(List.pairwise_cons.1 hB).1
  rw[mrg,List.pairwise_append]
  refine⟨by split<;>simp,ih,fun x hx y hy=>?_⟩
  have hx:x=b:=by split at hx<;>simp at hx;exact hx
  have:=(Qbm hA (List.pairwise_cons.1 hB).2).1 hy
  subst hx
  rcases this.2 with h|h
  ·cases h
  ·exact h1 y h
 | a :: A, b :: B, hA, hB => by
  have hA1:=(List.pairwise_cons.1 hA).1
  have hB1:=(List.pairwise_cons.1 hB).1
  rw[mrg]
  split
  ·rename_i h1
   rw[List.pairwise_append]
   refine⟨by split<;>simp,QbS (List.pairwise_cons.1 hA).2 hB,fun x hx y hy=>?_⟩
   have hx:x=a:=by split at hx<;>simp at hx;exact hx
   have:=(Qbm (List.pairwise_cons.1 hA).2 hB).1 hy
   subst hx
   rcases this.2 with h|h
   ·exact hA1 y h
   ·rcases List.mem_cons.1 h with rfl | h
    ·exact h1
    ·have:=hB1 y h;omega
  ·rename_i h1
   split
   ·rename_i h2
    rw[List.pairwise_append]
    refine⟨by split<;>simp,QbS hA (List.pairwise_cons.1 hB).2,fun x hx y hy=>?_⟩
    have hx:x=b:=by split at hx<;>simp at hx;exact hx
    have:=(Qbm hA (List.pairwise_cons.1 hB).2).1 hy
    subst hx
    rcases this.2 with h|h
    ·rcases List.mem_cons.1 h with rfl | h
     ·exact h2
     ·have:=hA1 y h;omega
    ·exact hB1 y h
   ·rename_i h2
    have e1:a=b:=by omega
    subst e1
    rw[List.pairwise_append]
    refine⟨by split<;>simp,QbS (List.pairwise_cons.1 hA).2 (List.pairwise_cons.1 hB).2,fun x hx y hy=>?_⟩
    have hx:x=a:=by split at hx<;>simp at hx;exact hx
    have:=(Qbm (List.pairwise_cons.1 hA).2 (List.pairwise_cons.1 hB).2).1 hy
    subst hx
    rcases this.2 with h|h
    ·exact hA1 y h
    ·exact hB1 y h
termination_by A B=>A.length+B.length
end Go.AM.SO
namespace Go.AM.SO
open Go.Proofs Go.AM.SD Go.AM.SE
theorem iaddr0 {a:Nat} {A:List Nat}:aIAddr none 1 (sliN (a::A)) (.int .i64 0)=some (.fptr (ints (nz (a::A)))):=by
 simp[aIAddr]
theorem head0 {a:Nat} {A:List Nat}:(ints (nz (a::A))).head?=some (.int .i64 (a:Int)):=rfl
theorem tk1 {b:Nat} {B1:List Nat}:List.take (B1.length+1-1) (List.drop 1 (ints (nz (b::B1))))=ints (nz B1):=by
 simp only[ints,nz,List.map_cons,List.drop_succ_cons,List.drop_zero]
 exact List.take_of_length_le (by simp)
theorem tk2 {b:Nat} {B1:List Nat}:List.take B1.length (List.drop 1 (ints (nz (b::B1))))=ints (nz B1):=by
 simp only[ints,nz,List.map_cons,List.drop_succ_cons,List.drop_zero]
 exact List.take_of_length_le (by simp)
theorem union169 (a b:Bool):PSpec Tryz.prog 169 [.bool a,.bool b] (.bool (a||b)):=by
  refine PSpec.Qaj 64 ok169 rfl rfl rfl ?_
  cases a
  · simp (disch := first | omega | (simp only [lenW] <;> omega)) only [s169, wV, simprocAttr]
    exact⟨.inr trivial,_,rfl,by simp[resOf,QaF]⟩
  · simp (disch := first | omega | (simp only [lenW] <;> omega)) only [s169, wV, simprocAttr]
    exact⟨.inr trivial,_,rfl,by simp[resOf,QaF]⟩
theorem minus242 (a b:Bool):PSpec Tryz.prog 242 [.bool a,.bool b] (.bool (a&& !b)):=by
  refine PSpec.Qaj 64 ok242 rfl rfl rfl ?_
  cases a
  · simp (disch := first | omega | (simp only [lenW] <;> omega)) only [s242, wV, simprocAttr]
    exact⟨.inr trivial,_,rfl,by simp[resOf,QaF]⟩
  · simp (disch := first | omega | (simp only [lenW] <;> omega)) only [s242, wV, simprocAttr]
    exact⟨.inr trivial,_,rfl,by simp[resOf,QaF]⟩
theorem merge168 (K : Nat) (k : Bool -> Bool -> Bool) (hk : ∀ a b, PSpec Tryz.prog K [.bool a, .bool b] (.bool (k a b))) (A B : List Nat) (hA : A.length <= 1000000) (hB : B.length <= 1000000) :
    PSpec Tryz.prog 168 [sliN A,sliN B,.fn K [] []] (sliN (mrg k A B)):=by
  refine PSpec.of_rn 64 ok168 rfl (by(try simp only[noRefs,Qaa,Qaf,Qad,Qag,Qae,noRef,Bool.and_self,Bool.and_true])<;>rfl) (Qac _) ?_
  simp(disch:=first|omega|(simp only[lenW]<;>omega)) only[s168,wV,simprocAttr]
  refine Qat 120 (fun t:List Nat×List Nat×List Nat=>[(0,sliN t.1),(1,sliN t.2.1),(2,.fn K [] []),(7,.sl 50 0 0 t.2.2.length 1)]) (fun t=>[(50,.cells 0 (ints (nz t.2.2)))]) (fun t=>mrg k A B=t.2.2++mrg k t.1 t.2.1/\t.1.length+t.2.1.length+t.2.2.length<=2000000) (fun t=>t.1.length+t.2.1.length) (A,B,[]) ⟨[(50,.nil)],rfl,au0,au1,au2⟩ ⟨by simp,by simp;omega⟩ ?_
  rintro⟨A',B',out⟩ ⟨hm,hl⟩
  dsimp only at hm hl
  rcases A' with _|⟨a,A1⟩<;>rcases B' with _|⟨b,B1⟩
  · simp (disch := first | omega | (simp only [lenW] <;> omega)) only [List.length_nil, List.map_nil, wV, simprocAttr]
    refine⟨.inr trivial,_,rfl,?_⟩
    rw[hm,mrg,List.append_nil]
    exact Rn.fz0 rfl (by simp[ints]) (RnL.same (Qaa _))
  · have h1 : (0 : Int) < (B1.length : Int) + 1 := by omega
    have h2:¬(B1.length:Int)+1=0:=by omega
    simp only[List.length_nil,List.length_cons]at hl
    simp(disch:=first|omega|(simp only[lenW]<;>omega)) only[List.length_nil,List.length_cons,h1,h2,iaddr0,tk1,tk2,head0,Nat.add_sub_cancel,wV,simprocAttr]
    refine cp (hk false true) ?_
    rw[mrg]at hm
    cases hkb:k false true
    · simp (disch := first | omega | (simp only [lenW] <;> omega)) only [wV, simprocAttr]
      rw[if_neg (by simp[hkb]),List.nil_append]at hm
      exact⟨(([]:List Nat),(B1:List Nat),out),by simp<;>omega,⟨hm,by simp;omega⟩,⟨[(50,.blk 50 0)],rfl,au0,au1,au2⟩⟩
    · simp (disch := first | omega | (simp only [lenW] <;> omega)) only [wV, simprocAttr]
      rw[if_pos hkb,<-List.append_assoc]at hm
      refine⟨(([]:List Nat),(B1:List Nat),out++[b]),by simp<;>omega,⟨hm,by simp;omega⟩,?_⟩
      rw[QaH,QaD,List.length_append]
      exact⟨[(50,.blk 50 1)],rfl,au0,au1,au2⟩
  · have h1 : (0 : Int) < (A1.length : Int) + 1 := by omega
    have h2:¬(A1.length:Int)+1=0:=by omega
    simp only[List.length_nil,List.length_cons]at hl
    simp(disch:=first|omega|(simp only[lenW]<;>omega)) only[List.length_nil,List.length_cons,h1,h2,iaddr0,tk1,tk2,head0,Nat.add_sub_cancel,wV,simprocAttr]
    refine cp (hk true false) ?_
    rw[mrg]at hm
    cases hkb:k true false
    · simp (disch := first | omega | (simp only [lenW] <;> omega)) only [wV, simprocAttr]
      rw[if_neg (by simp[hkb]),List.nil_append]at hm
      exact⟨((A1:List Nat),([]:List Nat),out),by simp<;>omega,⟨hm,by simp;omega⟩,⟨[(50,.blk 50 0)],rfl,au0,au1,au2⟩⟩
    · simp (disch := first | omega | (simp only [lenW] <;> omega)) only [wV, simprocAttr]
      rw[if_pos hkb,<-List.append_assoc]at hm
      refine⟨((A1:List Nat),([]:List Nat),out++[a]),by simp<;>omega,⟨hm,by simp;omega⟩,?_⟩
      rw[QaH,QaD,List.length_append]
      exact⟨[(50,.blk 50 1)],rfl,au0,au1,au2⟩
  · have h1 : (0 : Int) < (A1.length : Int) + 1 := by omega
    have h2:¬(A1.length:Int)+1=0:=by omega
    have h3:(0:Int)<(B1.length:Int)+1:=by omega
    have h4:¬(B1.length:Int)+1=0:=by omega
    by_cases hab:a<b
    · have h5 : (a : Int) <= (b : Int) := by omega
      have h6:¬(b:Int)<=(a:Int):=by omega
      simp only[List.length_nil,List.length_cons]at hl
      simp(disch:=first|omega|(simp only[lenW]<;>omega)) only[List.length_nil,List.length_cons,h1,h2,h3,h4,h5,h6,iaddr0,tk1,tk2,head0,Nat.add_sub_cancel,wV,simprocAttr]
      refine cp (hk true false) ?_
      rw[mrg,if_pos hab]at hm
      cases hkb:k true false
      · simp (disch := first | omega | (simp only [lenW] <;> omega)) only [wV, simprocAttr]
        rw[if_neg (by simp[hkb]),List.nil_append]at hm
        exact⟨((A1:List Nat),(b::B1:List Nat),out),by simp<;>omega,⟨hm,by simp;omega⟩,⟨[(50,.blk 50 0)],rfl,au0,au1,au2⟩⟩
      · simp (disch := first | omega | (simp only [lenW] <;> omega)) only [wV, simprocAttr]
        rw[if_pos hkb,<-List.append_assoc]at hm
        refine⟨((A1:List Nat),(b::B1:List Nat),out++[a]),by simp<;>omega,⟨hm,by simp;omega⟩,?_⟩
        rw[QaH,QaD,List.length_append]
        exact⟨[(50,.blk 50 1)],rfl,au0,au1,au2⟩
    · by_cases hba : b < a
      · have h5 : ¬ (a : Int) <= (b : Int) := by omega
        have h6:(b:Int)<=(a:Int):=by omega
        simp only[List.length_nil,List.length_cons]at hl
        simp(disch:=first|omega|(simp only[lenW]<;>omega)) only[List.length_nil,List.length_cons,h1,h2,h3,h4,h5,h6,iaddr0,tk1,tk2,head0,Nat.add_sub_cancel,wV,simprocAttr]
        refine cp (hk false true) ?_
        rw[mrg,if_neg hab,if_pos hba]at hm
        cases hkb:k false true
        · simp (disch := first | omega | (simp only [lenW] <;> omega)) only [wV, simprocAttr]
          rw[if_neg (by simp[hkb]),List.nil_append]at hm
          exact⟨((a::A1:List Nat),(B1:List Nat),out),by simp<;>omega,⟨hm,by simp;omega⟩,⟨[(50,.blk 50 0)],rfl,au0,au1,au2⟩⟩
        · simp (disch := first | omega | (simp only [lenW] <;> omega)) only [wV, simprocAttr]
          rw[if_pos hkb,<-List.append_assoc]at hm
          refine⟨((a::A1:List Nat),(B1:List Nat),out++[b]),by simp<;>omega,⟨hm,by simp;omega⟩,?_⟩
          rw[QaH,QaD,List.length_append]
          exact⟨[(50,.blk 50 1)],rfl,au0,au1,au2⟩
      · have e1 : a = b := by omega
        subst e1
        have h5:(a:Int)<=(a:Int):=by omega
        simp only[List.length_nil,List.length_cons]at hl
        simp(disch:=first|omega|(simp only[lenW]<;>omega)) only[List.length_nil,List.length_cons,h1,h2,h3,h4,h5,iaddr0,tk1,tk2,head0,Nat.add_sub_cancel,wV,simprocAttr]
        refine cp (hk true true) ?_
        rw[mrg,if_neg hab,if_neg hba]at hm
        cases hkb:k true true
        · simp (disch := first | omega | (simp only [lenW] <;> omega)) only [wV, simprocAttr]
          rw[if_neg (by simp[hkb]),List.nil_append]at hm
          exact⟨((A1:List Nat),(B1:List Nat),out),by simp<;>omega,⟨hm,by simp;omega⟩,⟨[(50,.blk 50 0)],rfl,au0,au1,au2⟩⟩
        · simp (disch := first | omega | (simp only [lenW] <;> omega)) only [wV, simprocAttr]
          rw[if_pos hkb,<-List.append_assoc]at hm
          refine⟨((A1:List Nat),(B1:List Nat),out++[a]),by simp<;>omega,⟨hm,by simp;omega⟩,?_⟩
          rw[QaH,QaD,List.length_append]
          exact⟨[(50,.blk 50 1)],rfl,au0,au1,au2⟩
theorem union84 (A B:List Nat) (hA:A.length<=1000000) (hB:B.length<=1000000):PSpec Tryz.prog 84 [sliN A,sliN B] (sliN (mrg (fun a b=>a||b) A B)):=by
 refine PSpec.of_rn 64 ok84 rfl (by(try simp only[noRefs,Qaa,Qaf,Qad,Qag,Qae,noRef,Bool.and_self,Bool.and_true])<;>rfl) (Qac _) ?_
 simp(disch:=first|omega|(simp only[lenW]<;>omega)) only[s84,wV,simprocAttr]
 refine cp (merge168 169 _ union169 A B hA hB) ?_
 simp(disch:=first|omega|(simp only[lenW]<;>omega)) only[wV,simprocAttr]
 exact⟨.inr trivial,_,rfl,Rn.same (Qac _)⟩
theorem minus219 (A B:List Nat) (hA:A.length<=1000000) (hB:B.length<=1000000):PSpec Tryz.prog 219 [sliN A,sliN B] (sliN (mrg (fun a b=>a&& !b) A B)):=by
 refine PSpec.of_rn 64 ok219 rfl (by(try simp only[noRefs,Qaa,Qaf,Qad,Qag,Qae,noRef,Bool.and_self,Bool.and_true])<;>rfl) (Qac _) ?_
 simp(disch:=first|omega|(simp only[lenW]<;>omega)) only[s219,wV,simprocAttr]
 refine cp (merge168 242 _ minus242 A B hA hB) ?_
 simp(disch:=first|omega|(simp only[lenW]<;>omega)) only[wV,simprocAttr]
 exact⟨.inr trivial,_,rfl,Rn.same (Qac _)⟩
theorem subset167 (A B:List Nat) (hA:A.length<=1000000) (hB:B.length<=1000000):PSpec Tryz.prog 167 [sliN A,sliN B] (.bool (decide ((mrg (fun a b=>a&& !b) A B).length=0))):=by
  refine PSpec.Qaj 64 ok167 rfl (by(try simp only[noRefs,Qaa,Qaf,Qad,Qag,Qae,noRef,Bool.and_self,Bool.and_true])<;>rfl) rfl ?_
  simp(disch:=first|omega|(simp only[lenW]<;>omega)) only[s167,wV,simprocAttr]
  refine cp (minus219 A B hA hB) ?_
  by_cases h:(mrg (fun a b=>a&& !b) A B).length=0
  · have h' : (((mrg (fun a b => a && !b) A B).length : Nat) : Int) = 0 := by omega
    simp(disch:=first|omega|(simp only[lenW]<;>omega)) only[h',wV,simprocAttr]
    exact⟨.inr trivial,_,rfl,by simp[resOf,QaF,h]⟩
  · have h' : ¬ (((mrg (fun a b => a && !b) A B).length : Nat) : Int) = 0 := by omega
    simp(disch:=first|omega|(simp only[lenW]<;>omega)) only[h',wV,simprocAttr]
    exact⟨.inr trivial,_,rfl,by simp[resOf,QaF,h]⟩
end Go.AM.SO
namespace Go.AM.SD
theorem Qgu {α : Type} (f : α -> Nat) : ∀ {l l' : List α}, l.Pairwise (fun a b => f a < f b) -> l'.Pairwise (fun a b => f a < f b) -> (∀ p, p ∈ l ↔ p ∈ l') -> l = l'
  |[],[],_,_,_=>rfl
  |[],y::l',_,_,hm=>absurd ((hm y).2 (by simp)) (by simp)
  |x::l,[],_,_,hm=>absurd ((hm x).1 (by simp)) (by simp)
  | x :: l, y :: l', h, h', hm => by
    rw[List.pairwise_cons]at h h'
    have hxy:x=y:=by
      rcases List.mem_cons.1 ((hm x).1 (by simp))with e|h1
      · exact e
      · rcases List.mem_cons.1 ((hm y).2 (by simp)) with e | h2
        · exact e.symm
        · have a:=h'.1 x h1;have b:=h.1 y h2;omega
    subst hxy
    have:l=l':=Qgu f h.2 h'.2 fun p=>by
      constructor
      · intro hp
        rcases List.mem_cons.1 ((hm p).1 (List.mem_cons_of_mem _ hp))with e|h1
        · subst e;have:=h.1 _ hp;omega
        · exact h1
      · intro hp
        rcases List.mem_cons.1 ((hm p).2 (List.mem_cons_of_mem _ hp))with e|h1
        · subst e;have:=h'.1 _ hp;omega
        · exact h1
    rw[this]
theorem uniqE {es:List Ed} (h:es.Pairwise fun x y=>x.1<y.1\/(x.1=y.1/\x.2.1<y.2.1)) {e e':Ed} (he:e∈es) (he':e'∈es) (h1:e.1=e'.1) (h2:e.2.1=e'.2.1):e=e':=by
 induction h with
 |nil=>cases he
 |cons hx _ ih=>
  rcases List.mem_cons.1 he with rfl|m1<;>rcases List.mem_cons.1 he' with rfl|m2
  ·rfl
  ·have:=hx _ m2;omega
  ·have:=hx _ m1;omega
  ·exact ih m1 m2
theorem QhF {es:List Ed} (h:es.Pairwise fun x y=>x.1<y.1\/(x.1=y.1/\x.2.1<y.2.1)) {v ev to:Nat}:stepA es v ev=some to↔((v,ev,to):Ed)∈es:=by
 unfold stepA
 constructor
 ·intro hs
  cases hf:es.find? fun e=>e.1==v&&e.2.1==ev with
  |none=>rw[hf]at hs;cases hs
  |some e=>
   rw[hf]at hs;cases hs
   have h1:=List.find?_some hf
   simp only[Bool.and_eq_true,beq_iff_eq]at h1
   have h2:=List.mem_of_find?_eq_some hf
   obtain⟨a,b,c⟩:=e
   obtain⟨rfl,rfl⟩:=h1
   exact h2
 ·intro hm
  cases hf:es.find? fun e=>e.1==v&&e.2.1==ev with
  |none=>
   rw[List.find?_eq_none]at hf
   exact absurd (by simp) (hf _ hm)
  |some e=>
   have h1:=List.find?_some hf
   simp only[Bool.and_eq_true,beq_iff_eq]at h1
   rw[uniqE h (List.mem_of_find?_eq_some hf) hm h1.1 h1.2];rfl
theorem Qks {a:Aut} (h:WfA a) (v:Nat):sOut a.es (fun _=>true) v=a.al.filterMap fun ev=>(stepA a.es v ev).map fun to=>((v,ev,to):Ed):=by
 refine Qgu (fun e:Ed=>e.2.1) ?_ ?_ fun e=>?_
 ·have h1 : (sOut a.es (fun _ => true) v).Pairwise fun x y => x.1 < y.1 \/ (x.1 = y.1 /\ x.2.1 < y.2.1) := h.es.filter _
  refine h1.imp_of_mem fun{x y} hx hy hr=>?_
  have h2:=(QaO.1 hx).2.1
  have h3:=(QaO.1 hy).2.1
  omega
 ·refine List.Pairwise.filterMap _ (R := (· < ·)) ?_ h.al
  intro x y hxy p hp q hq
  cases hs:stepA a.es v x with
  |none=>rw[hs]at hp;cases hp
  |some to=>
   cases hs2:stepA a.es v y with
   |none=>rw[hs2]at hq;cases hq
   |some to2=>rw[hs]at hp;rw[hs2]at hq;cases hp;cases hq;exact hxy
 ·rw [QaO, List.mem_filterMap]
  constructor
  ·rintro ⟨he, rfl, _⟩
   obtain⟨x,y,z⟩:=e
   exact⟨y,h.ev _ he,by rw[(QhF h.es).2 he];rfl⟩
  ·rintro ⟨ev, hev, hm⟩
   cases hs:stepA a.es v ev with
   |none=>rw[hs]at hm;cases hm
   |some to=>rw[hs]at hm;cases hm;exact⟨(QhF h.es).1 hs,rfl,rfl⟩
theorem Qm5 {a:Aut} (h:WfA a) (i v:Nat) (s:OE):(sRow a.es (fun _=>true) i v s).1=fRow a.al a.es v s.1:=by
 unfold sRow fRow
 rw[Qks h]
 have key:∀(al:List Nat) (s:OE),((al.filterMap fun ev=>(stepA a.es v ev).map fun to=>((v,ev,to):Ed)).foldl (sEd i) s).1=al.foldl (fEv a.es v) s.1:=by
  intro al
  induction al with
  |nil=>intro s;rfl
  | cons ev al ih =>
   intro s
   rw[List.filterMap_cons,List.foldl_cons]
   cases hs:stepA a.es v ev with
   |none=>
    have e:fEv a.es v s.1 ev=s.1:=by unfold fEv;rw[hs]
    rw[e];exact ih s
   |some to=>
    have e:fEv a.es v s.1 ev=if s.1.contains to then s.1 else s.1++[to]:=by unfold fEv;rw[hs]
    dsimp only[Option.map_some]
    rw[List.foldl_cons,ih,e]
    congr 1
    unfold sEd
    split<;>rfl
 exact key a.al s
theorem Qmd {a:Aut} (h:WfA a):∀(k i:Nat) (s:OE),(sQ a.es (fun _=>true) k i s).1=fQ a.al a.es k i s.1
 |0,_,_=>rfl
 |k+1,i,s=>by
  unfold sQ fQ
  cases s.1[i]? with
  |none=>rfl
  |some v=>dsimp only;rw[Qmd h k,Qm5 h]
theorem Qm6 {a:Aut} (h:WfA a):(sAll a fun _=>true).1=found a:=by
 unfold sAll found
 rw[Qmd h]
 by_cases h0:0<a.n
 ·rw[if_pos (by simp[h0]),if_pos h0]
 ·rw[if_neg (by simp[h0]),if_neg h0]
theorem QjF {a:Aut} (h:WfA a):canon a=restr a (fun _=>true):=by
 have hs:=(QeO (left:=fun _=>true) h).1
 have hf:=Qm6 h
 have he:(sAll a fun _=>true).2=cRows a (found a):=by
  rw[hs.ed,hf]
  unfold cRows
  rw[List.flatMap_def,List.flatMap_def]
  congr 1
  refine List.map_congr_left fun i _=>?_
  rw[Qks h]
  unfold cRow
  rw[List.map_filterMap]
  congr 1
  funext ev
  rw[Option.map_map];rfl
 unfold canon restr
 rw[he,hf]
end Go.AM.SD
namespace Go.AM.SE
open Go.Proofs Go.AM.SD
theorem shr1 {i j:Nat}:aBin .shr (.int .u64 ((i:Int)+(j:Int))) (.int .u64 1)=some (.int .u64 (((i+j)/2:Nat):Int)):=by
 have h:(((i:Int)+(j:Int)).fdiv (2^(min (1:Int).toNat 64)))=(((i+j)/2:Nat):Int):=by
  rw[show min (1:Int).toNat 64=1 from rfl,Int.fdiv_eq_ediv_of_nonneg _ (by decide)];omega
 show(if(1:Int)<0 then none else some (AV.int .u64 (((i:Int)+(j:Int)).fdiv (2^(min (1:Int).toNat 64)))))=_
 rw[if_neg (by decide),h]
def lbN (l:List Nat) (t:Nat):Nat:=l.countP fun x=>decide (x<t)
theorem lb_eq:∀{l:List Nat} {t i:Nat},i<=l.length->(∀j,j<i->l.getD j 0<t)->(∀j,i<=j->j<l.length->¬l.getD j 0<t)->lbN l t=i
 |[],t,i,hi,_,_=>by simp at hi;subst hi;rfl
 |x::l,t,0,_,_,h2=>by
  unfold lbN
  rw[List.countP_eq_zero]
  intro y hy
  obtain⟨q,hq,hql⟩:=QdO hy
  have:=h2 q (Nat.zero_le _) hql
  rw[List.getD_eq_getElem?_getD,hq]at this
  simpa using this
 |x::l,t,i+1,hi,h1,h2=>by
  have hx:x<t:=by have:=h1 0 (by omega);simpa using this
  have:=lb_eq (l:=l) (t:=t) (i:=i) (by simpa using hi) (fun j hj=>by have:=h1 (j+1) (by omega);simpa using this) (fun j hj hl=>by have:=h2 (j+1) (by omega) (by simpa using hl);simpa using this)
  unfold lbN at this⊢
  rw[List.countP_cons,this,if_pos (by simpa using hx)]
theorem lb_le {l:List Nat} {t:Nat}:lbN l t<=l.length:=List.countP_le_length
theorem QcA {l:List Nat} (h:l.Pairwise (· <= ·)) {p q:Nat} (hpq:p<=q) (hq:q<l.length):l.getD p 0<=l.getD q 0:=by
 rw[List.getD_eq_getElem?_getD,List.getD_eq_getElem?_getD,List.getElem?_eq_getElem (by omega),List.getElem?_eq_getElem hq]
 rcases Nat.lt_or_eq_of_le hpq with h1|h1
 ·exact List.pairwise_iff_getElem.1 h p q (by omega) hq h1
 ·subst h1;exact Nat.le_refl _
theorem Qi4 {l:List Nat} (h:l.Pairwise (· <= ·)) {t i:Nat} (h1:∀j,j<i->l.getD j 0<t) (h2:∀j,i<=j->j<l.length->¬l.getD j 0<t):l.contains t=decide (i<l.length/\l.getD i 0=t):=by
 rw[Bool.eq_iff_iff,decide_eq_true_iff,List.contains_iff_mem]
 constructor
 ·intro hm
  obtain⟨q,hq,hql⟩:=QdO hm
  have hqd:l.getD q 0=t:=by rw[List.getD_eq_getElem?_getD,hq];rfl
  have hiq:i<=q:=by
   refine Nat.le_of_not_lt fun h3=>?_
   have:=h1 q h3;omega
  have h4:=QcA h hiq hql
  have h5:=h2 i (Nat.le_refl _) (by omega)
  exact⟨by omega,by omega⟩
 ·rintro ⟨hi, e⟩
  rw[<-e,List.getD_eq_getElem?_getD,List.getElem?_eq_getElem hi]
  exact List.getElem_mem hi
theorem nan81 (x:Int):PSpec Tryz.prog 227 [.int .i64 x] (.bool false):=by
 refine PSpec.Qaj 64 ok227 rfl (by(try simp only[noRefs,Qar,Qam,Qap,Qaa,Qaf,Qad,Qag,Qas,Qae,noRef,Bool.and_self,Bool.and_true])<;>rfl) rfl ?_
 simp(disch:=first|omega|(simp only[lenW]<;>omega)) only[s227,wW,wV,simprocAttr]
 exact⟨.inr trivial,_,rfl,rfl⟩
theorem nan66 (x:Int):PSpec Tryz.prog 198 [.int .i64 x] (.bool false):=by
 refine PSpec.Qaj 64 ok198 rfl (by(try simp only[noRefs,Qar,Qam,Qap,Qaa,Qaf,Qad,Qag,Qas,Qae,noRef,Bool.and_self,Bool.and_true])<;>rfl) rfl ?_
 simp(disch:=first|omega|(simp only[lenW]<;>omega)) only[s198,wW,wV,simprocAttr]
 exact⟨.inr trivial,_,rfl,rfl⟩
theorem less65 (x y:Int):PSpec Tryz.prog 197 [.int .i64 x,.int .i64 y] (.bool (decide (x<y))):=by
 refine PSpec.Qaj 64 ok197 rfl (by(try simp only[noRefs,Qar,Qam,Qap,Qaa,Qaf,Qad,Qag,Qas,Qae,noRef,Bool.and_self,Bool.and_true])<;>rfl) rfl ?_
 simp(disch:=first|omega|(simp only[lenW]<;>omega)) only[s197,wW,wV,simprocAttr]
 refine cp (nan81 x) ?_
 simp(disch:=first|omega|(simp only[lenW]<;>omega)) only[wW,wV,simprocAttr]
 exact⟨.inr trivial,_,rfl,rfl⟩
theorem find57 (l : List Nat) (t : Nat) (hs : l.Pairwise (· <= ·)) (hl : l.length <= 1000000) : PSpec Tryz.prog 144 [sliN l, .int .i64 (t : Int)] (.tup [.int .i64 (lbN l t : Int), .bool (l.contains t)]) := by
  refine PSpec.Qaj 64 ok144 rfl (by(try simp only[noRefs,Qar,Qam,Qap,Qaa,Qaf,Qad,Qag,Qas,Qae,noRef,Bool.and_self,Bool.and_true])<;>rfl) rfl ?_
  simp(disch:=first|omega|(simp only[lenW]<;>omega)) only[s144,wW,wV,simprocAttr]
  refine Qax 100 (fun p:Nat×Nat=>[(0,sliN l),(1,.int .i64 (t:Int)),(6,.int .i64 l.length),(7,.int .i64 p.1),(8,.int .i64 p.2)]) (fun _=>[])
    (fun p=>p.1<=p.2/\p.2<=l.length/\(∀q,q<p.1->l.getD q 0<t)/\∀q,p.2<=q->q<l.length->¬l.getD q 0<t) (fun p=>p.2-p.1) (0,l.length) 0 140
    (fun i:Nat=>[(0,sliN l),(1,.int .i64 (t:Int)),(6,.int .i64 l.length),(7,.int .i64 i)]) (fun _=>[])
    (fun i=>i<=l.length/\(∀q,q<i->l.getD q 0<t)/\∀q,i<=q->q<l.length->¬l.getD q 0<t) ?_ ⟨Nat.zero_le _,Nat.le_refl _,fun q hq=>absurd hq (Nat.not_lt_zero _),fun q h1 h2=>by omega⟩ ?_ ?_
  · exact⟨[],rfl,au0,au9,au10⟩
  · rintro ⟨i, j⟩ ⟨hij, hj, h1, h2⟩
    dsimp only at hij hj h1 h2⊢
    by_cases hlt:i<j
    · obtain ⟨k, hk, hk1, hk2⟩ : ∃ k : Nat, aBin .shr (.int .u64 ((i : Int) + (j : Int))) (.int .u64 1) = some (.int .u64 (k : Int)) /\ i <= k /\ k < j := ⟨(i + j) / 2, shr1, by omega, by omega⟩
      have hkl:k<l.length:=by omega
      have hkx:l[k]?=some (l.getD k 0):=by rw[List.getElem?_eq_getElem hkl];simp[hkl]
      simp(disch:=first|omega|(simp only[lenW]<;>omega)) only[hlt,hk,hkl,QaL hkx,wW,wV,simprocAttr]
      refine cp (less65 _ _) ?_
      by_cases hc:l.getD k 0<t
      · rw [decide_eq_true (by omega)]
        simp(disch:=first|omega|(simp only[lenW]<;>omega)) only[wW,wV,simprocAttr]
        refine⟨(k+1,j),by dsimp only;omega,⟨by dsimp only;omega,hj,fun q hq=>?_,h2⟩,⟨[],rfl,au0,au9,au10⟩⟩
        have:=QcA hs (p:=q) (q:=k) (by dsimp only at hq;omega) hkl
        omega
      · rw [decide_eq_false (by omega)]
        simp(disch:=first|omega|(simp only[lenW]<;>omega)) only[wW,wV,simprocAttr]
        refine⟨(i,k),by dsimp only;omega,⟨hk1,by dsimp only;omega,h1,fun q hq hql=>?_⟩,⟨[],rfl,au0,au9,au10⟩⟩
        have:=QcA hs (p:=k) (q:=q) hq hql
        omega
    · have e : i = j := by omega
      subst e
      simp(disch:=first|omega|(simp only[lenW]<;>omega)) only[hlt,wW,wV,simprocAttr]
      exact⟨i,⟨hj,h1,h2⟩,⟨[],rfl,au0,au9,au10⟩⟩
  rintro i ⟨hi,h1,h2⟩
  rw[lb_eq hi h1 h2,Qi4 hs h1 h2]
  by_cases hlt:i<l.length
  · have hx : l[i]? = some (l.getD i 0) := by rw [List.getElem?_eq_getElem hlt]; simp [hlt]
    by_cases he:l.getD i 0=t
    · rw [decide_eq_true ⟨hlt, he⟩]
      rw[he]at hx
      simp(disch:=first|omega|(simp only[lenW]<;>omega)) only[hlt,QaL hx,wW,wV,simprocAttr]
      exact⟨.inr trivial,_,rfl,rfl⟩
    · rw [decide_eq_false fun h => he h.2]
      generalize l.getD i 0=y at*
      have he':¬(y:Int)=(t:Int):=by omega
      simp(disch:=first|omega|(simp only[lenW]<;>omega)) only[hlt,QaL hx,he',wW,wV,simprocAttr]
      refine cp (nan66 _) ?_
      simp(disch:=first|omega|(simp only[lenW]<;>omega)) only[wW,wV,simprocAttr]
      exact⟨.inr trivial,_,rfl,rfl⟩
  · rw [decide_eq_false fun h => hlt h.1]
    simp(disch:=first|omega|(simp only[lenW]<;>omega)) only[hlt,wW,wV,simprocAttr]
    exact⟨.inr trivial,_,rfl,rfl⟩
end Go.AM.SE
namespace Go.AM.SE
open Go.Proofs Go.AM.SD
abbrev edV (e:Ed):AV:= .agg [.int .i64 (e.1:Int),.int .i64 (e.2.1:Int),.int .i64 (e.2.2:Int)]
theorem Qme (x y:Ed):aEq (.flat true [.i,.i,.i]) true (edV x) (edV y)=some (.bool (!decide (x=y))):=by
 have:∀n m:Nat,decide ((n:Int)=(m:Int))=decide (n=m):=fun n m=>decide_eq_decide.2 (by omega)
 obtain⟨a,b,c⟩:=x
 obtain⟨a',b',c'⟩:=y
 simp only[aEq,eqCells,eqCell,if_true]
 simp only[Prod.mk.injEq,Bool.decide_and,this]
 cases decide (a=a')<;>cases decide (b=b')<;>cases decide (c=c')<;>rfl
theorem eq41 (a b : List Int) (hl : b.length <= 1000000) : PSpec Tryz.prog 31 [sli a, sli b] (.bool (decide (a = b))) := by
  refine PSpec.Qaj 64 ok31 rfl (by(try simp only[noRefs,Qar,Qam,Qap,Qaa,Qaf,Qad,Qag,Qas,Qae,noRef,Bool.and_self,Bool.and_true])<;>rfl) rfl ?_
  by_cases hab:a.length=b.length
  · simp (disch := first | omega | (simp only [lenW] <;> omega)) only [s31, hab, wW, wV, simprocAttr]
    refine Qat 100 (fun i:Nat=>[(0,sli a),(1,sli b),(12,.int .i64 b.length),(13,.int .i64 i)]) (fun _=>[]) (fun i=>i<=b.length/\∀j,j<i->a[j]?=b[j]?) (fun i=>b.length-i) 0 ⟨[],rfl,au0,au9,au10⟩ ⟨Nat.zero_le _,fun j hj=>absurd hj (Nat.not_lt_zero _)⟩ ?_
    rintro i ⟨hi,hb⟩
    by_cases hlt:i<b.length
    · obtain ⟨x, hx⟩ := Qak (l := a) (i := i) (by omega)
      obtain⟨y,hy⟩:=Qak (l:=b) (i:=i) (by omega)
      have hlt2:i<a.length:=by omega
      by_cases h0:x=y
      · have hq : True := by trivial
        simp(disch:=first|omega|(simp only[lenW]<;>omega)) only[hlt,hlt2,QaW hx,QaW hy,h0,hq,wW,wV,simprocAttr]
        refine⟨i+1,by omega,⟨by omega,fun j hj=>?_⟩,⟨[],rfl,au0,au9,au10⟩⟩
        by_cases e:j=i
        · subst e;rw[hx,hy,h0]
        · exact hb j (by omega)
      · have hq : True := by trivial
        simp(disch:=first|omega|(simp only[lenW]<;>omega)) only[hlt,hlt2,QaW hx,QaW hy,h0,hq,wW,wV,simprocAttr]
        refine⟨.inr trivial,_,rfl,?_⟩
        have:a≠b:=fun e=>by subst e;rw[hx]at hy;cases hy;exact h0 rfl
        simp[resOf,QaF,this]
    · have : a = b := List.ext_getElem? fun j => by
        by_cases hj:j<i
        · exact hb j hj
        · rw[List.getElem?_eq_none (by omega),List.getElem?_eq_none (by omega)]
      simp(disch:=first|omega|(simp only[lenW]<;>omega)) only[hlt,wW,wV,simprocAttr]
      exact⟨.inr trivial,_,rfl,by simp[resOf,QaF,this]⟩
  · simp (disch := first | omega | (simp only [lenW] <;> omega)) only [s31, hab, wW, wV, simprocAttr]
    have:a≠b:=fun e=>hab (by rw[e])
    exact⟨.inr trivial,_,rfl,by simp[resOf,QaF,this]⟩
theorem eq55 (a b : List Ed) (hl : b.length <= 10000000) : PSpec Tryz.prog 106 [egsN a, egsN b] (.bool (decide (a = b))) := by
  refine PSpec.Qaj 64 ok106 rfl (by(try simp only[noRefs,Qar,Qam,Qap,Qaa,Qaf,Qad,Qag,Qas,Qae,noRef,Bool.and_self,Bool.and_true])<;>rfl) rfl ?_
  by_cases hab:a.length=b.length
  · simp (disch := first | omega | (simp only [lenW] <;> omega)) only [s106, hab, wW, wV, simprocAttr]
    refine Qat 100 (fun i:Nat=>[(0,egsN a),(1,egsN b),(12,.int .i64 b.length),(13,.int .i64 i)]) (fun _=>[]) (fun i=>i<=b.length/\∀j,j<i->a[j]?=b[j]?) (fun i=>b.length-i) 0 ⟨[],rfl,au0,au9,au10⟩ ⟨Nat.zero_le _,fun j hj=>absurd hj (Nat.not_lt_zero _)⟩ ?_
    rintro i ⟨hi,hb⟩
    by_cases hlt:i<b.length
    · obtain ⟨x, hx⟩ := Qak (l := a) (i := i) (by omega)
      obtain⟨y,hy⟩:=Qak (l:=b) (i:=i) (by omega)
      have hlt2:i<a.length:=by omega
      by_cases h0:x=y
      · have hq : aEq (.flat true [.i, .i, .i]) true (edV y) (edV y) = some (.bool false) := by rw [Qme]; simp
        simp(disch:=first|omega|(simp only[lenW]<;>omega)) only[hlt,hlt2,QaQ hx,QaQ hy,h0,hq,wW,wV,simprocAttr]
        refine⟨i+1,by omega,⟨by omega,fun j hj=>?_⟩,⟨[],rfl,au0,au9,au10⟩⟩
        by_cases e:j=i
        · subst e;rw[hx,hy,h0]
        · exact hb j (by omega)
      · have hq : aEq (.flat true [.i, .i, .i]) true (edV x) (edV y) = some (.bool true) := by rw [Qme]; simp [h0]
        simp(disch:=first|omega|(simp only[lenW]<;>omega)) only[hlt,hlt2,QaQ hx,QaQ hy,h0,hq,wW,wV,simprocAttr]
        refine⟨.inr trivial,_,rfl,?_⟩
        have:a≠b:=fun e=>by subst e;rw[hx]at hy;cases hy;exact h0 rfl
        simp[resOf,QaF,this]
    · have : a = b := List.ext_getElem? fun j => by
        by_cases hj:j<i
        · exact hb j hj
        · rw[List.getElem?_eq_none (by omega),List.getElem?_eq_none (by omega)]
      simp(disch:=first|omega|(simp only[lenW]<;>omega)) only[hlt,wW,wV,simprocAttr]
      exact⟨.inr trivial,_,rfl,by simp[resOf,QaF,this]⟩
  · simp (disch := first | omega | (simp only [lenW] <;> omega)) only [s106, hab, wW, wV, simprocAttr]
    have:a≠b:=fun e=>hab (by rw[e])
    exact⟨.inr trivial,_,rfl,by simp[resOf,QaF,this]⟩
theorem Qoe {a b : List Nat} : decide (nz a = nz b) = decide (a = b) := by
  refine decide_eq_decide.2 ⟨fun h=>?_,fun h=>by rw[h]⟩
  have:∀a b:List Nat,nz a=nz b->a=b:=by
    intro a
    induction a with
    | nil => intro b h; cases b with
      |nil=>rfl
      |cons=>simp at h
    | cons x a ih => intro b h; cases b with
      |nil=>simp at h
      | cons y b =>
        simp only[nz,List.map_cons,List.cons.injEq]at h
        rw[ih b h.2,show x=y by omega]
  exact this a b h
theorem eq41N (a b:List Nat) (hl:b.length<=1000000):PSpec Tryz.prog 31 [sliN a,sliN b] (.bool (decide (a=b))):=by
 have:=eq41 (nz a) (nz b) (by simpa using hl)
 rw[QbU,QbU,Qoe]at this;exact this
def autB (x y:Aut):Bool:=decide (x.n=y.n)&&(decide (x.al=y.al)&&(decide (x.ms=y.ms)&&decide (x.es=y.es)))
structure AOk (r:Aut):Prop where
 al:r.al.length<=1000000
 ms:r.ms.length<=1000000
 es:r.es.length<=10000000
theorem eq43 (x y:Aut) (hx:AOk x) (hy:AOk y):PSpec Tryz.prog 33 [aV x,aV y] (.bool (autB x y)):=by
 refine PSpec.Qaj 64 ok33 rfl (by(try simp only[noRefs,Qar,Qam,Qap,Qaa,Qaf,Qad,Qag,Qas,Qae,noRef,Bool.and_self,Bool.and_true])<;>rfl) rfl ?_
 have c1:=eq41N x.al y.al hy.al
 have c2:=eq41N x.ms y.ms hy.ms
 have c3:=eq55 x.es y.es hy.es
 unfold autB
 by_cases h1:x.n=y.n
 ·rw [decide_eq_true h1, Bool.true_and]
  generalize decide (x.al=y.al)=b1 at*
  generalize decide (x.ms=y.ms)=b2 at*
  generalize decide (x.es=y.es)=b3 at*
  simp(disch:=first|omega|(simp only[lenW]<;>omega)) only[s33,h1,wW,wV,simprocAttr]
  refine cp c1 ?_
  cases b1 with
  |false=>
   simp(disch:=first|omega|(simp only[lenW]<;>omega)) only[wW,wV,simprocAttr]
   exact⟨.inr trivial,_,rfl,rfl⟩
  | true =>
   simp(disch:=first|omega|(simp only[lenW]<;>omega)) only[wW,wV,simprocAttr]
   refine cp c2 ?_
   cases b2 with
   |false=>
    simp(disch:=first|omega|(simp only[lenW]<;>omega)) only[wW,wV,simprocAttr]
    exact⟨.inr trivial,_,rfl,rfl⟩
   |true=>
    simp(disch:=first|omega|(simp only[lenW]<;>omega)) only[wW,wV,simprocAttr]
    refine cp c3 ?_
    simp(disch:=first|omega|(simp only[lenW]<;>omega)) only[wW,wV,simprocAttr]
    exact⟨.inr trivial,_,rfl,rfl⟩
 ·rw [decide_eq_false h1, Bool.false_and]
  simp(disch:=first|omega|(simp only[lenW]<;>omega)) only[s33,h1,wW,wV,simprocAttr]
  exact⟨.inr trivial,_,rfl,rfl⟩
theorem Qmf (x:Aut):autB x x=true:=by simp[autB]
end Go.AM.SE
namespace Go.AM.SE
open Go.Proofs Go.AM.SD
abbrev froms (es:List Ed):List Nat:=es.map (·.1)
theorem QhG:∀(l:List Ed) (i:Nat),(l.flatMap edC).drop (i*3)=(l.drop i).flatMap edC
 |l,0=>by simp
 |[],i+1=>by simp
 |e::l,i+1=>by
  rw[List.flatMap_cons,Nat.succ_mul,List.drop_succ_cons]
  show List.drop (i*3+3) (_::_::_::l.flatMap edC)=_
  rw[List.drop_succ_cons,List.drop_succ_cons,List.drop_succ_cons]
  exact QhG l i
theorem QhH:∀(l:List Ed) (i:Nat),(l.flatMap edC).take (i*3)=(l.take i).flatMap edC
 |l,0=>by simp
 |[],i+1=>by simp
 |e::l,i+1=>by
  rw[List.flatMap_cons,Nat.succ_mul,List.take_succ_cons,List.flatMap_cons]
  show List.take (i*3+3) (_::_::_::l.flatMap edC)=_
  rw[List.take_succ_cons,List.take_succ_cons,List.take_succ_cons,QhH l i];rfl
theorem Qkt {x t:Nat} {l:List Nat}:lbN (x::l) t=lbN l t+if x<t then 1 else 0:=by
 unfold lbN;rw[List.countP_cons];simp
theorem QgK {l:List Nat} {t:Nat} (h:∀x∈l,t<=x):lbN l t=0:=by
 unfold lbN
 rw[List.countP_eq_zero]
 intro x hx;have:=h x hx;simp;omega
theorem Qmg:∀{es:List Ed},es.Pairwise (fun a b=>a.1<=b.1)->∀v:Nat,(es.drop (lbN (froms es) v)).take (lbN (froms es) (v+1)-lbN (froms es) v)=sOut es (fun _=>true) v
 |[],_,_=>by simp[sOut]
 | e :: es, h, v => by
  rw[List.pairwise_cons]at h
  have ih:=Qmg h.2 v
  have ef:froms (e::es)=e.1::froms es:=rfl
  have so:sOut (e::es) (fun _=>true) v=if e.1=v then e::sOut es (fun _=>true) v else sOut es (fun _=>true) v:=by
   unfold sOut;rw[List.filter_cons];simp
  rw[ef,Qkt,Qkt,so]
  rcases Nat.lt_trichotomy e.1 v with h1|h1|h1
  ·rw[if_pos h1,if_pos (by omega),if_neg (by omega),List.drop_succ_cons,Nat.add_sub_add_right,ih]
  ·have hz : lbN (froms es) v = 0 := QgK fun x hx => by
    obtain⟨y,hy,rfl⟩:=List.mem_map.1 hx
    have:=h.1 y hy;omega
   rw[hz]at ih⊢
   have i1:¬e.1<v:=by omega
   have i2:e.1<v+1:=by omega
   simp only[if_neg i1,if_pos i2,if_pos h1,Nat.add_zero,List.drop_zero,Nat.sub_zero,List.take_succ_cons]
   rw[List.drop_zero,Nat.sub_zero]at ih
   rw[ih]
  ·have hz : lbN (froms es) v = 0 := QgK fun x hx => by
    obtain⟨y,hy,rfl⟩:=List.mem_map.1 hx
    have:=h.1 y hy;omega
   have hz2:lbN (froms es) (v+1)=0:=QgK fun x hx=>by
    obtain⟨y,hy,rfl⟩:=List.mem_map.1 hx
    have:=h.1 y hy;omega
   rw[hz,hz2]at ih⊢
   rw[if_neg (by omega),if_neg (by omega),if_neg (by omega)]
   simpa using ih
theorem sub229 (e:Ed) (t:Nat) (he:e.1<=1000000) (ht:t<=1000000):PSpec Tryz.prog 229 [edV e,.int .i64 (t:Int)] (.int .i64 ((e.1:Int)-(t:Int))):=by
 refine PSpec.Qaj 64 ok229 rfl (by(try simp only[noRefs,Qar,Qam,Qap,Qaa,Qaf,Qad,Qag,Qas,Qae,noRef,Bool.and_self,Bool.and_true])<;>rfl) rfl ?_
 simp(disch:=first|omega|(simp only[lenW]<;>omega)) only[s229,wW,wV,simprocAttr]
 exact⟨.inr trivial,_,rfl,rfl⟩
theorem sub230 (e:Ed) (t:Nat) (he:e.1<=1000000) (ht:t<=1000000):PSpec Tryz.prog 230 [edV e,.int .i64 (t:Int)] (.int .i64 ((e.1:Int)-(t:Int))):=by
 refine PSpec.Qaj 64 ok230 rfl (by(try simp only[noRefs,Qar,Qam,Qap,Qaa,Qaf,Qad,Qag,Qas,Qae,noRef,Bool.and_self,Bool.and_true])<;>rfl) rfl ?_
 simp(disch:=first|omega|(simp only[lenW]<;>omega)) only[s230,wW,wV,simprocAttr]
 exact⟨.inr trivial,_,rfl,rfl⟩
theorem find67 (es : List Ed) (t : Nat) (hs : (froms es).Pairwise (· <= ·)) (hb : ∀ e ∈ es, e.1 <= 1000000) (ht : t <= 1000000) (hl : es.length <= 1000000) : PSpec Tryz.prog 228 [egsN es, .int .i64 (t : Int), .fn 229 [] []] (.tup [.int .i64 (lbN (froms es) t : Int), .bool ((froms es).contains t)]) := by
  refine PSpec.Qaj 64 ok228 rfl (by(try simp only[noRefs,Qar,Qam,Qap,Qaa,Qaf,Qad,Qag,Qas,Qae,noRef,Bool.and_self,Bool.and_true])<;>rfl) rfl ?_
  have hfl:(froms es).length=es.length:=by simp
  simp(disch:=first|omega|(simp only[lenW]<;>omega)) only[s228,wW,wV,simprocAttr]
  refine Qax 100 (fun p:Nat×Nat=>[(0,egsN es),(1,.int .i64 (t:Int)),(2,.fn 229 [] []),(8,.int .i64 es.length),(9,.int .i64 p.1),(10,.int .i64 p.2)]) (fun _=>[])
    (fun p=>p.1<=p.2/\p.2<=es.length/\(∀q,q<p.1->(froms es).getD q 0<t)/\∀q,p.2<=q->q<es.length->¬(froms es).getD q 0<t) (fun p=>p.2-p.1) (0,es.length) 0 140
    (fun i:Nat=>[(0,egsN es),(1,.int .i64 (t:Int)),(2,.fn 229 [] []),(8,.int .i64 es.length),(9,.int .i64 i)]) (fun _=>[])
    (fun i=>i<=es.length/\(∀q,q<i->(froms es).getD q 0<t)/\∀q,i<=q->q<es.length->¬(froms es).getD q 0<t) ?_ ⟨Nat.zero_le _,Nat.le_refl _,fun q hq=>absurd hq (Nat.not_lt_zero _),fun q h1 h2=>by omega⟩ ?_ ?_
  · exact⟨[],rfl,au0,au9,au10⟩
  · rintro ⟨i, j⟩ ⟨hij, hj, h1, h2⟩
    dsimp only at hij hj h1 h2⊢
    by_cases hlt:i<j
    · obtain ⟨k, hk, hk1, hk2⟩ : ∃ k : Nat, aBin .shr (.int .u64 ((i : Int) + (j : Int))) (.int .u64 1) = some (.int .u64 (k : Int)) /\ i <= k /\ k < j := ⟨(i + j) / 2, shr1, by omega, by omega⟩
      have hkl:k<es.length:=by omega
      obtain⟨e,he⟩:=Qak hkl
      have hke:(froms es).getD k 0=e.1:=by rw[List.getD_eq_getElem?_getD,List.getElem?_map,he];rfl
      have heb:=hb e (List.mem_of_getElem? he)
      simp(disch:=first|omega|(simp only[lenW]<;>omega)) only[hlt,hk,hkl,QaQ he,wW,wV,simprocAttr]
      refine cp (sub229 e t heb ht) ?_
      by_cases hc:e.1<t
      · have hc' : (e.1 : Int) - (t : Int) < 0 := by omega
        simp(disch:=first|omega|(simp only[lenW]<;>omega)) only[hc',wW,wV,simprocAttr]
        refine⟨(k+1,j),by dsimp only;omega,⟨by dsimp only;omega,hj,fun q hq=>?_,h2⟩,⟨[],rfl,au0,au9,au10⟩⟩
        have:=QcA hs (p:=q) (q:=k) (by dsimp only at hq;omega) (by omega)
        omega
      · have hc' : ¬ (e.1 : Int) - (t : Int) < 0 := by omega
        simp(disch:=first|omega|(simp only[lenW]<;>omega)) only[hc',wW,wV,simprocAttr]
        refine⟨(i,k),by dsimp only;omega,⟨hk1,by dsimp only;omega,h1,fun q hq hql=>?_⟩,⟨[],rfl,au0,au9,au10⟩⟩
        have:=QcA hs (p:=k) (q:=q) hq (by omega)
        omega
    · have e : i = j := by omega
      subst e
      simp(disch:=first|omega|(simp only[lenW]<;>omega)) only[hlt,wW,wV,simprocAttr]
      exact⟨i,⟨hj,h1,h2⟩,⟨[],rfl,au0,au9,au10⟩⟩
  rintro i ⟨hi,h1,h2⟩
  rw[lb_eq (by omega) h1 fun q a b=>h2 q a (by omega),Qi4 hs h1 fun q a b=>h2 q a (by omega)]
  by_cases hlt:i<es.length
  · obtain ⟨e, he⟩ := Qak hlt
    have hke:(froms es).getD i 0=e.1:=by rw[List.getD_eq_getElem?_getD,List.getElem?_map,he];rfl
    have heb:=hb e (List.mem_of_getElem? he)
    rw[hke]
    by_cases hc:e.1=t
    · rw [decide_eq_true ⟨by omega, hc⟩]
      have hc':(e.1:Int)-(t:Int)=0:=by omega
      simp(disch:=first|omega|(simp only[lenW]<;>omega)) only[hlt,QaQ he,wW,wV,simprocAttr]
      refine cp (sub229 e t heb ht) ?_
      simp(disch:=first|omega|(simp only[lenW]<;>omega)) only[hc',wW,wV,simprocAttr]
      exact⟨.inr trivial,_,rfl,rfl⟩
    · rw [decide_eq_false fun h => hc h.2]
      have hc':¬(e.1:Int)-(t:Int)=0:=by omega
      simp(disch:=first|omega|(simp only[lenW]<;>omega)) only[hlt,QaQ he,wW,wV,simprocAttr]
      refine cp (sub229 e t heb ht) ?_
      simp(disch:=first|omega|(simp only[lenW]<;>omega)) only[hc',wW,wV,simprocAttr]
      exact⟨.inr trivial,_,rfl,rfl⟩
  · rw [decide_eq_false fun h => hlt (by omega)]
    simp(disch:=first|omega|(simp only[lenW]<;>omega)) only[hlt,wW,wV,simprocAttr]
    exact⟨.inr trivial,_,rfl,rfl⟩
theorem find67b (es : List Ed) (t : Nat) (hs : (froms es).Pairwise (· <= ·)) (hb : ∀ e ∈ es, e.1 <= 1000000) (ht : t <= 1000000) (hl : es.length <= 1000000) : PSpec Tryz.prog 228 [egsN es, .int .i64 (t : Int), .fn 230 [] []] (.tup [.int .i64 (lbN (froms es) t : Int), .bool ((froms es).contains t)]) := by
  refine PSpec.Qaj 64 ok228 rfl (by(try simp only[noRefs,Qar,Qam,Qap,Qaa,Qaf,Qad,Qag,Qas,Qae,noRef,Bool.and_self,Bool.and_true])<;>rfl) rfl ?_
  have hfl:(froms es).length=es.length:=by simp
  simp(disch:=first|omega|(simp only[lenW]<;>omega)) only[s228,wW,wV,simprocAttr]
  refine Qax 100 (fun p:Nat×Nat=>[(0,egsN es),(1,.int .i64 (t:Int)),(2,.fn 230 [] []),(8,.int .i64 es.length),(9,.int .i64 p.1),(10,.int .i64 p.2)]) (fun _=>[])
    (fun p=>p.1<=p.2/\p.2<=es.length/\(∀q,q<p.1->(froms es).getD q 0<t)/\∀q,p.2<=q->q<es.length->¬(froms es).getD q 0<t) (fun p=>p.2-p.1) (0,es.length) 0 140
    (fun i:Nat=>[(0,egsN es),(1,.int .i64 (t:Int)),(2,.fn 230 [] []),(8,.int .i64 es.length),(9,.int .i64 i)]) (fun _=>[])
    (fun i=>i<=es.length/\(∀q,q<i->(froms es).getD q 0<t)/\∀q,i<=q->q<es.length->¬(froms es).getD q 0<t) ?_ ⟨Nat.zero_le _,Nat.le_refl _,fun q hq=>absurd hq (Nat.not_lt_zero _),fun q h1 h2=>by omega⟩ ?_ ?_
  · exact⟨[],rfl,au0,au9,au10⟩
  · rintro ⟨i, j⟩ ⟨hij, hj, h1, h2⟩
    dsimp only at hij hj h1 h2⊢
    by_cases hlt:i<j
    · obtain ⟨k, hk, hk1, hk2⟩ : ∃ k : Nat, aBin .shr (.int .u64 ((i : Int) + (j : Int))) (.int .u64 1) = some (.int .u64 (k : Int)) /\ i <= k /\ k < j := ⟨(i + j) / 2, shr1, by omega, by omega⟩
      have hkl:k<es.length:=by omega
      obtain⟨e,he⟩:=Qak hkl
      have hke:(froms es).getD k 0=e.1:=by rw[List.getD_eq_getElem?_getD,List.getElem?_map,he];rfl
      have heb:=hb e (List.mem_of_getElem? he)
      simp(disch:=first|omega|(simp only[lenW]<;>omega)) only[hlt,hk,hkl,QaQ he,wW,wV,simprocAttr]
      refine cp (sub230 e t heb ht) ?_
      by_cases hc:e.1<t
      · have hc' : (e.1 : Int) - (t : Int) < 0 := by omega
        simp(disch:=first|omega|(simp only[lenW]<;>omega)) only[hc',wW,wV,simprocAttr]
        refine⟨(k+1,j),by dsimp only;omega,⟨by dsimp only;omega,hj,fun q hq=>?_,h2⟩,⟨[],rfl,au0,au9,au10⟩⟩
        have:=QcA hs (p:=q) (q:=k) (by dsimp only at hq;omega) (by omega)
        omega
      · have hc' : ¬ (e.1 : Int) - (t : Int) < 0 := by omega
        simp(disch:=first|omega|(simp only[lenW]<;>omega)) only[hc',wW,wV,simprocAttr]
        refine⟨(i,k),by dsimp only;omega,⟨hk1,by dsimp only;omega,h1,fun q hq hql=>?_⟩,⟨[],rfl,au0,au9,au10⟩⟩
        have:=QcA hs (p:=k) (q:=q) hq (by omega)
        omega
    · have e : i = j := by omega
      subst e
      simp(disch:=first|omega|(simp only[lenW]<;>omega)) only[hlt,wW,wV,simprocAttr]
      exact⟨i,⟨hj,h1,h2⟩,⟨[],rfl,au0,au9,au10⟩⟩
  rintro i ⟨hi,h1,h2⟩
  rw[lb_eq (by omega) h1 fun q a b=>h2 q a (by omega),Qi4 hs h1 fun q a b=>h2 q a (by omega)]
  by_cases hlt:i<es.length
  · obtain ⟨e, he⟩ := Qak hlt
    have hke:(froms es).getD i 0=e.1:=by rw[List.getD_eq_getElem?_getD,List.getElem?_map,he];rfl
    have heb:=hb e (List.mem_of_getElem? he)
    rw[hke]
    by_cases hc:e.1=t
    · rw [decide_eq_true ⟨by omega, hc⟩]
      have hc':(e.1:Int)-(t:Int)=0:=by omega
      simp(disch:=first|omega|(simp only[lenW]<;>omega)) only[hlt,QaQ he,wW,wV,simprocAttr]
      refine cp (sub230 e t heb ht) ?_
      simp(disch:=first|omega|(simp only[lenW]<;>omega)) only[hc',wW,wV,simprocAttr]
      exact⟨.inr trivial,_,rfl,rfl⟩
    · rw [decide_eq_false fun h => hc h.2]
      have hc':¬(e.1:Int)-(t:Int)=0:=by omega
      simp(disch:=first|omega|(simp only[lenW]<;>omega)) only[hlt,QaQ he,wW,wV,simprocAttr]
      refine cp (sub230 e t heb ht) ?_
      simp(disch:=first|omega|(simp only[lenW]<;>omega)) only[hc',wW,wV,simprocAttr]
      exact⟨.inr trivial,_,rfl,rfl⟩
  · rw [decide_eq_false fun h => hlt (by omega)]
    simp(disch:=first|omega|(simp only[lenW]<;>omega)) only[hlt,wW,wV,simprocAttr]
    exact⟨.inr trivial,_,rfl,rfl⟩
theorem out58 (a:Aut) (v:Nat) (h:WfA a) (hel:a.es.length<=1000000) (hv:v<=1000):PSpec Tryz.prog 199 [aV a,.int .i64 (v:Int)] (egsN (sOut a.es (fun _=>true) v)):=by
 have hs:(froms a.es).Pairwise (· <= ·):=by rw[List.pairwise_map];exact h.srt
 have hb:∀e∈a.es,e.1<=1000000:=fun e he=>by have:=(h.esn e he).1;have:=h.n5;omega
 have f1:=find67 a.es v hs hb (by omega) hel
 have f2:=find67b a.es (v+1) hs hb (by omega) hel
 have e1:((v+1:Nat):Int)=(v:Int)+1:=by omega
 rw[e1]at f2
 have ho:=Qmg h.srt v
 have l1:=lb_le (l:=froms a.es) (t:=v+1)
 rw[List.length_map]at l1
 have hm:lbN (froms a.es) v<=lbN (froms a.es) (v+1):=List.countP_mono_left fun x _ hx=>by simp at hx⊢;omega
 generalize (froms a.es).contains v=b1 at*
 generalize (froms a.es).contains (v+1)=b2 at*
 generalize lbN (froms a.es) v=p at*
 generalize lbN (froms a.es) (v+1)=q at*
 have hlen:q-p=(sOut a.es (fun _=>true) v).length:=by rw[<-ho,List.length_take,List.length_drop];omega
 have hpq:(p:Int)<=(q:Int):=by omega
 have hql:(q:Int)<=(a.es.length:Int):=by omega
 refine PSpec.of_rn 64 ok199 rfl (by(try simp only[noRefs,Qar,Qam,Qap,Qaa,Qaf,Qad,Qag,Qas,Qae,noRef,Bool.and_self,Bool.and_true])<;>rfl) (QaI _) ?_
 simp(disch:=first|omega|(simp only[lenW]<;>omega)) only[s199,wW,wV,simprocAttr]
 refine cp f1 ?_
 simp(disch:=first|omega|(simp only[lenW]<;>omega)) only[wW,wV,simprocAttr]
 refine cp f2 ?_
 simp(disch:=first|omega|(simp only[lenW]<;>omega)) only[hpq,hql,wW,wV,simprocAttr]
 refine⟨.inr trivial,_,rfl,?_⟩
 rw[QhG,QhH,ho,hlen]
 exact Rn.same (QaI _)
end Go.AM.SE
namespace Go.AM.SE
open Go.Proofs Go.AM.SD
abbrev rsA (a:Aut):List AV:=[sliN a.al,.int .i64 (a.n:Int),sliN a.ms,egsN a.es]
abbrev rsN:List AV:=[.nilsl,.int .i64 0,.nilsl,.nilsl]
end Go.AM.SE
namespace Go.AM.SE
open Go.Proofs Go.AM.SD
def pl (n:Nat) (o:List Nat):List Int:=(List.range n).map fun x=>if o.contains x then((SD.idx o x:Nat):Int)else-1
theorem Qgv {n:Nat} {o:List Nat}:(pl n o).length=n:=by simp[pl]
theorem Qgw {n:Nat} {o:List Nat} {x:Nat} (hx:x<n):(pl n o).getD x 0=if o.contains x then((SD.idx o x:Nat):Int)else-1:=by
 unfold pl;rw[List.getD_eq_getElem?_getD,List.getElem?_map,List.getElem?_range hx];rfl
theorem Qmh {n:Nat} {o:List Nat} {x:Nat} (hx:x∉o):(pl n o).set x (o.length:Int)=pl n (o++[x]):=by
 refine List.ext_getElem (by simp[pl]) fun j h1 h2=>?_
 have hj:j<n:=by simpa[pl]using h2
 rw[List.getElem_set]
 simp only[pl,List.getElem_map,List.getElem_range]
 by_cases e:x=j
 ·subst e
  rw[if_pos rfl,if_pos (by simp),SD.QdM hx]
 ·rw [if_neg e]
  by_cases hm:j∈o
  ·rw[if_pos (by simpa using hm),if_pos (by simp[hm]),SD.Qc2 hm]
  ·have e2 : ¬ j = x := fun h => e h.symm
   rw[if_neg (by simpa using hm),if_neg (by simp[hm,e2])]
theorem Qm7 {n:Nat} (h0:0<n):(List.replicate n (-1:Int)).set 0 0=pl n [0]:=by
 refine List.ext_getElem (by simp[pl]) fun j h1 h2=>?_
 have hj:j<n:=by simpa[pl]using h2
 rw[List.getElem_set]
 simp only[pl,List.getElem_map,List.getElem_range,List.getElem_replicate]
 by_cases e:0=j
 ·subst e;rw[if_pos rfl,if_pos (by simp)];rfl
 ·have e2 : ¬ j = 0 := fun h => e h.symm
  rw[if_neg e,if_neg (by simp[e2])]
abbrev cnB (a:Aut) (m e:Nat):List AV:=[.sl 83 0 0 a.al.length 1,.int .i64 0,.sl 77 0 0 m 1,.sl 76 0 0 e 3]
abbrev tru:Nat->Bool:=fun _=>true
theorem canonical44 (a : Aut) (h : WfA a) (hel : a.es.length <= 1000000) : PSpec Tryz.prog 150 [aV a] (aV (restr a tru)) := by
  have hn5:=h.n5
  have hal:a.al.length<=5:=QaM 5 a.al (by rw[List.nodup_iff_pairwise_ne];exact h.al.imp fun h=>by omega) h.al5
  have hml:a.ms.length<=a.n:=QaM a.n a.ms h.nd h.msn
  have hmsP:a.ms.Pairwise (· <= ·):=h.ms.imp fun h=>by omega
  have hn':(a.n:Int)<=1099511627776:=by omega
  have hn8:(8:Int)*(a.n:Int)<=1099511627776:=by omega
  refine PSpec.of_rn 40 ok150 rfl (by(try simp only[noRefs,Qar,Qam,Qap,Qaa,Qaf,Qad,Qag,Qas,Qae,noRef,Bool.and_self,Bool.and_true])<;>rfl) (Qcy _) ?_
  simp(disch:=first|omega|(simp only[lenW]<;>omega)) only[s150,wW,wV,simprocAttr]
  refine ch (HSpec.of_O (b:=83) (by(try simp only[noRefs,Qar,Qam,Qap,Qaa,Qaf,Qad,Qag,Qas,Qae,noRef,Bool.and_self,Bool.and_true])<;>rfl) (clone56 a.al (by omega)) (by repeat (first|exact Fresh.e|exact Fresh.le (by assumption) (by omega)|refine Fresh.set ?_ (by omega) (by omega))) rfl) ?_
  by_cases h0:a.n=0
  · have h0' : (a.n : Int) = 0 := by omega
    have e:sAll a tru=([],[]):=by unfold sAll;rw[h0];rfl
    have hr:restr a tru=⟨a.al,0,[],[]⟩:=by unfold restr;rw[e];rfl
    simp(disch:=first|omega|(simp only[lenW]<;>omega)) only[h0',wW,wV,simprocAttr]
    refine⟨.inr trivial,_,rfl,?_⟩
    rw[hr]
    exact Rn.agg (RnL.cons (Rn.fz0 (g:=0) rfl (by simp[ints]) (RnL.same (Qaa _))) (RnL.cons (Rn.same rfl) (RnL.cons Rn.nilK (RnL.cons Rn.nilK RnL.nil))))
  have h0':¬(a.n:Int)=0:=by omega
  have h0p:0<a.n:=by omega
  have h0n:(0:Int)<(a.n:Int):=by omega
  simp(disch:=first|omega|(simp only[lenW]<;>omega)) only[h0',hn',hn8,Qm0,wW,wV,simprocAttr]
  refine Qax 100 (fun i:Nat=>[(1,.ptr 50 0 0),(2,.ptr 60 0 0),(3,.ptr 69 0 0),(4,.sl 78 0 0 a.n 1),(24,.int .i64 a.n),(25,.int .i64 i)])
    (fun i=>[(50,.cells 0 (rsA a)),(60,.cells 0 rsN),(69,.cells 0 [.sl 83 0 0 a.al.length 1,.int .i64 0,.nilsl,.nilsl]),(83,.cells 0 (ints (nz a.al))),(78,.cells 0 (ints (List.replicate i (-1)++List.replicate (a.n-i) 0)))])
    (fun i=>i<=a.n) (fun i=>a.n-i) 0 0 120
    (fun _:Unit=>[(1,.ptr 50 0 0),(2,.ptr 60 0 0),(3,.ptr 69 0 0),(4,.sl 78 0 0 a.n 1)])
    (fun _=>[(50,.cells 0 (rsA a)),(60,.cells 0 rsN),(69,.cells 0 [.sl 83 0 0 a.al.length 1,.int .i64 0,.nilsl,.nilsl]),(83,.cells 0 (ints (nz a.al))),(78,.cells 0 (ints (List.replicate a.n (-1))))]) (fun _=>True) ?_ (Nat.zero_le _) ?_ ?_
  · exact⟨[(50,.blk 40 0),(60,.blk 41 0),(69,.blk 46 0),(83,.blk 83 0),(78,.blk 53 0)],rfl,au0,au9,au10⟩
  · rintro i hi
    by_cases hlt:i<a.n
    · have h1 : i + 1 <= i + (a.n - i) := by omega
      simp(disch:=first|omega|(simp only[lenW]<;>omega)) only[hlt,h1,Qd9,Ql6 hlt,wW,wV,simprocAttr]
      exact⟨i+1,by omega,by omega,⟨[(50,.blk 50 0),(60,.blk 60 0),(69,.blk 69 0),(83,.blk 83 0),(78,.blk 78 0)],rfl,au0,au9,au10⟩⟩
    · have e : i = a.n := by omega
      subst e
      have e2:List.replicate a.n (-1:Int)++List.replicate (a.n-a.n) 0=List.replicate a.n (-1):=by simp
      simp(disch:=first|omega|(simp only[lenW]<;>omega)) only[hlt,wW,wV,simprocAttr]
      refine⟨(),?_⟩
      rw[e2]
      exact⟨[(50,.blk 50 0),(60,.blk 60 0),(69,.blk 69 0),(83,.blk 83 0),(78,.blk 78 0)],rfl,au0,au9,au10⟩
  rintro _ _
  have hp1:1<=a.n:=h0p
  have hps:=Qm7 h0p
  simp(disch:=first|omega|(simp only[lenW]<;>omega)) only[h0n,hp1,Qd9,hps,wW,wV,simprocAttr]
  have hsi:SI a.n a.es tru 0 (([0],[]):OE):=⟨⟨by simp,fun x hx=>by simp at hx;omega⟩,fun _ _=>rfl,Nat.zero_le _,fun j v hj=>by omega,by simp⟩
  have hq0:sQ a.es tru (a.n+1) 0 ([0],[])=sAll a tru:=by
    unfold sAll;rw[if_pos (by simp[h0p])]
  refine Qax 180 (fun t:Nat×OE=>[(1,.ptr 50 0 0),(2,.ptr 60 0 0),(3,.ptr 69 0 0),(4,.sl 78 0 0 a.n 1),(6,.sl 75 0 0 t.2.1.length 1),(7,.int .i64 t.1)])
    (fun t=>[(50,.cells 0 (rsA a)),(60,.cells 0 rsN),(69,.cells 0 (cnB a (mks a t.1 t.2.1).length t.2.2.length)),(83,.cells 0 (ints (nz a.al))),(78,.cells 0 (ints (pl a.n t.2.1))),(75,.cells 0 (ints (nz t.2.1))),(76,.cells 0 (t.2.2.flatMap edC)),(77,.cells 0 (ints (nz (mks a t.1 t.2.1))))])
    (fun t=>t.1<=a.n/\SI a.n a.es tru t.1 t.2/\t.2.2.length<=t.1*1000000/\sQ a.es tru (a.n+1-t.1) t.1 t.2=sAll a tru) (fun t=>a.n+1-t.1) (0,([0],[])) 2 260
    (fun _:Unit=>[(2,.ptr 60 0 0),(3,.ptr 69 0 0),(6,.sl 75 0 0 (sAll a tru).1.length 1)])
    (fun _=>[(60,.cells 0 rsN),(69,.cells 0 (cnB a (restr a tru).ms.length (restr a tru).es.length)),(83,.cells 0 (ints (nz a.al))),(75,.cells 0 (ints (nz (sAll a tru).1))),(76,.cells 0 ((restr a tru).es.flatMap edC)),(77,.cells 0 (ints (nz (restr a tru).ms)))]) (fun _=>True) ?_ ⟨Nat.zero_le _,hsi,Nat.zero_le _,hq0⟩ ?_ ?_
  · dsimp only
    have hms0:mks a 0 [0]=[]:=rfl
    rw[hms0]
    exact⟨[(50,.blk 50 0),(60,.blk 60 0),(69,.blk 69 0),(83,.blk 83 0),(78,.blk 78 0),(75,.blk 123 0),(76,.nil),(77,.nil)],rfl,au0,au9,au10⟩
  · rintro ⟨i, s⟩ ⟨hi, hsi, hsl, hq⟩
    dsimp only at hi hsi hsl hq⊢
    have hfl:=hsi.fi.len
    have hile:=hsi.le
    by_cases hlt:i<s.1.length
    · obtain ⟨v, hv⟩ := Qak hlt
      have hvn:=hsi.fi.lt v (List.mem_of_getElem? hv)
      have hin':i<a.n:=by omega
      have hsi':=hsi.step h.esn hv
      have hq':sQ a.es tru (a.n+1-(i+1)) (i+1) (sRow a.es tru i v s)=sAll a tru:=by
        rw[<-hq,show a.n+1-i=(a.n+1-(i+1))+1 by omega]
        simp only[sQ,hv]
      have hrow:=fun j=>Qdn (n:=a.n) (left:=tru) i ((sOut a.es tru v).take j) s (fun e he=>⟨(h.esn e (QaO.1 (List.mem_of_mem_take he)).1).2,rfl⟩) hsi.fi hsi.lft
      have hol:=QfT a.es tru v
      have hmn:=Qi2 (a:=a) hv
      have hmsl:=@Qkr a i s.1
      have hmapp:mks a (i+1) (sRow a.es tru i v s).1=mks a (i+1) s.1:=by
        obtain⟨_,_,⟨t,ht⟩,_⟩:=Qdn (n:=a.n) (left:=tru) i (sOut a.es tru v) s (fun e he=>⟨(h.esn e (QaO.1 he).1).2,rfl⟩) hsi.fi hsi.lft
        have ht:(sRow a.es tru i v s).1=s.1++t:=ht
        rw[ht,QnF (by omega)]
      have hc:=find57 a.ms v hmsP (by omega)
      have ho:=out58 a v h hel (by omega)
      generalize hM0:mks a i s.1=M0 at*
      generalize hM:mks a (i+1) s.1=M at*
      simp(disch:=first|omega|(simp only[lenW]<;>omega)) only[hlt,Qdo (nz_at hv),wW,wV,simprocAttr]
      refine cp hc ?_
      by_cases hmv:a.ms.contains v=true
      · rw [if_pos hmv] at hmn
        rw[hmv]
        simp(disch:=first|omega|(simp only[lenW]<;>omega)) only[hlt,Qdo (nz_at hv),wW,wV,simprocAttr]
        refine cp ho ?_
        simp(disch:=first|omega|(simp only[lenW]<;>omega)) only[wW,wV,simprocAttr]
        refine Qax 300 (fun j:Nat=>[(1,.ptr 50 0 0),(2,.ptr 60 0 0),(3,.ptr 69 0 0),(4,.sl 78 0 0 a.n 1),(6,.sl 75 0 0 (((sOut a.es tru v).take j).foldl (sEd i) s).1.length 1),(7,.int .i64 i),(63,egsN (sOut a.es tru v)),(64,.int .i64 (sOut a.es tru v).length),(65,.int .i64 j)])
          (fun j=>[(50,.cells 0 (rsA a)),(60,.cells 0 rsN),(69,.cells 0 (cnB a M.length (((sOut a.es tru v).take j).foldl (sEd i) s).2.length)),(83,.cells 0 (ints (nz a.al))),(78,.cells 0 (ints (pl a.n (((sOut a.es tru v).take j).foldl (sEd i) s).1))),(75,.cells 0 (ints (nz (((sOut a.es tru v).take j).foldl (sEd i) s).1))),(76,.cells 0 ((((sOut a.es tru v).take j).foldl (sEd i) s).2.flatMap edC)),(77,.cells 0 (ints (nz M)))])
          (fun j=>j<=(sOut a.es tru v).length) (fun j=>(sOut a.es tru v).length-j) 0 4 400
          (fun _:Unit=>[(1,.ptr 50 0 0),(2,.ptr 60 0 0),(3,.ptr 69 0 0),(4,.sl 78 0 0 a.n 1),(6,.sl 75 0 0 (sRow a.es tru i v s).1.length 1),(7,.int .i64 i)])
          (fun _=>[(50,.cells 0 (rsA a)),(60,.cells 0 rsN),(69,.cells 0 (cnB a M.length (sRow a.es tru i v s).2.length)),(83,.cells 0 (ints (nz a.al))),(78,.cells 0 (ints (pl a.n (sRow a.es tru i v s).1))),(75,.cells 0 (ints (nz (sRow a.es tru i v s).1))),(76,.cells 0 ((sRow a.es tru i v s).2.flatMap edC)),(77,.cells 0 (ints (nz M)))]) (fun _=>True) ?_ (Nat.zero_le _) ?_ ?_
        · rw [hmn, List.length_append, QaH, QaD]
          exact⟨[(50,.blk 50 0),(60,.blk 60 0),(69,.blk 69 0),(83,.blk 83 0),(78,.blk 78 0),(75,.blk 75 0),(76,.blk 76 0),(77,.blk 77 1)],rfl,au0,au9,au10⟩
        · rintro j hj
          by_cases hjl:j<(sOut a.es tru v).length
          · obtain ⟨e, he⟩ := Qak hjl
            have hem:=QaO.1 (List.mem_of_getElem? he)
            have hto:=(h.esn e hem.1).2
            obtain⟨k1,_,_,_,_⟩:=hrow j
            have hfi:=k1.len
            have hstep:=QhB (i:=i) (s:=s) he
            have hsl2:=Qdp (i:=i) ((sOut a.es tru v).take j) s
            rw[List.length_take]at hsl2
            generalize (((sOut a.es tru v).take j).foldl (sEd i) s)=t at*
            have hel2:=QbN t.2
            have hpl:=Qgv (n:=a.n) (o:=t.1)
            have hpg:=Qgw (o:=t.1) hto
            have hpt:e.2.2<(pl a.n t.1).length:=by omega
            have hp1:e.2.2+1<=(pl a.n t.1).length:=by omega
            by_cases hc:e.2.2∈t.1
            · have h2 : sEd i t e = (t.1, t.2 ++ [(i, e.2.1, SD.idx t.1 e.2.2)]) := if_pos (by simpa using hc)
              rw[h2]at hstep
              rw[if_pos (by simpa using hc)]at hpg
              have h3:¬((SD.idx t.1 e.2.2:Nat):Int)<0:=by omega
              generalize SD.idx t.1 e.2.2=q at*
              simp(disch:=first|omega|(simp only[lenW]<;>omega)) only[hjl,QaQ he,hto,Qcc hpt,hpg,h3,hel2,wW,wV,simprocAttr]
              refine⟨j+1,by omega,by omega,?_⟩
              rw[hstep,List.flatMap_append,List.length_append]
              exact⟨[(50,.blk 50 0),(60,.blk 60 0),(69,.blk 69 0),(83,.blk 83 0),(78,.blk 78 0),(75,.blk 75 0),(76,.blk 76 1),(77,.blk 77 0)],rfl,au0,au9,au10⟩
            · have h2 : sEd i t e = (t.1 ++ [e.2.2], t.2 ++ [(i, e.2.1, t.1.length)]) := if_neg (by simpa using hc)
              rw[h2]at hstep
              rw[if_neg (by simpa using hc)]at hpg
              have hps:=Qmh (n:=a.n) hc
              have h3:(-1:Int)<0:=by decide
              have hpl2:e.2.2<(pl a.n (t.1++[e.2.2])).length:=by rw[Qgv];exact hto
              have hpg2:(pl a.n (t.1++[e.2.2])).getD e.2.2 0=(t.1.length:Int):=by
                rw[Qgw hto,if_pos (by simp),SD.QdM hc]
              simp(disch:=first|omega|(simp only[lenW]<;>omega)) only[hjl,QaQ he,hto,Qcc hpt,hpg,h3,hel2,hp1,Qd9,hps,Qcc hpl2,hpg2,wW,wV,simprocAttr]
              refine⟨j+1,by omega,by omega,?_⟩
              rw[hstep,List.flatMap_append,List.length_append]
              dsimp only
              rw[List.length_append,QaH,QaD]
              exact⟨[(50,.blk 50 0),(60,.blk 60 0),(69,.blk 69 0),(83,.blk 83 0),(78,.blk 78 0),(75,.blk 75 1),(76,.blk 76 1),(77,.blk 77 0)],rfl,au0,au9,au10⟩
          · have e : j = (sOut a.es tru v).length := by omega
            subst e
            simp(disch:=first|omega|(simp only[lenW]<;>omega)) only[hjl,wW,wV,simprocAttr]
            refine⟨(),?_⟩
            exact⟨[(50,.blk 50 0),(60,.blk 60 0),(69,.blk 69 0),(83,.blk 83 0),(78,.blk 78 0),(75,.blk 75 0),(76,.blk 76 0),(77,.blk 77 0)],rfl,au0,au9,au10⟩
        rintro _ _
        have hsl3:(sRow a.es tru i v s).2.length=s.2.length+(sOut a.es tru v).length:=Qdp _ _
        have hol3:=QfT a.es tru v
        simp(disch:=first|omega|(simp only[lenW]<;>omega)) only[wW,wV,simprocAttr]
        refine⟨(i+1,sRow a.es tru i v s),by dsimp only;omega,⟨hin',hsi',by dsimp only;omega,hq'⟩,?_⟩
        dsimp only
        rw[hmapp]
        exact⟨[(50,.blk 50 0),(60,.blk 60 0),(69,.blk 69 0),(83,.blk 83 0),(78,.blk 78 0),(75,.blk 75 0),(76,.blk 76 0),(77,.blk 77 0)],rfl,au0,au9,au10⟩
      · rw [if_neg hmv, List.append_nil] at hmn
        rw[Bool.not_eq_true]at hmv
        rw[hmv]
        simp(disch:=first|omega|(simp only[lenW]<;>omega)) only[hlt,Qdo (nz_at hv),wW,wV,simprocAttr]
        refine cp ho ?_
        simp(disch:=first|omega|(simp only[lenW]<;>omega)) only[wW,wV,simprocAttr]
        refine Qax 300 (fun j:Nat=>[(1,.ptr 50 0 0),(2,.ptr 60 0 0),(3,.ptr 69 0 0),(4,.sl 78 0 0 a.n 1),(6,.sl 75 0 0 (((sOut a.es tru v).take j).foldl (sEd i) s).1.length 1),(7,.int .i64 i),(63,egsN (sOut a.es tru v)),(64,.int .i64 (sOut a.es tru v).length),(65,.int .i64 j)])
          (fun j=>[(50,.cells 0 (rsA a)),(60,.cells 0 rsN),(69,.cells 0 (cnB a M.length (((sOut a.es tru v).take j).foldl (sEd i) s).2.length)),(83,.cells 0 (ints (nz a.al))),(78,.cells 0 (ints (pl a.n (((sOut a.es tru v).take j).foldl (sEd i) s).1))),(75,.cells 0 (ints (nz (((sOut a.es tru v).take j).foldl (sEd i) s).1))),(76,.cells 0 ((((sOut a.es tru v).take j).foldl (sEd i) s).2.flatMap edC)),(77,.cells 0 (ints (nz M)))])
          (fun j=>j<=(sOut a.es tru v).length) (fun j=>(sOut a.es tru v).length-j) 0 4 400
          (fun _:Unit=>[(1,.ptr 50 0 0),(2,.ptr 60 0 0),(3,.ptr 69 0 0),(4,.sl 78 0 0 a.n 1),(6,.sl 75 0 0 (sRow a.es tru i v s).1.length 1),(7,.int .i64 i)])
          (fun _=>[(50,.cells 0 (rsA a)),(60,.cells 0 rsN),(69,.cells 0 (cnB a M.length (sRow a.es tru i v s).2.length)),(83,.cells 0 (ints (nz a.al))),(78,.cells 0 (ints (pl a.n (sRow a.es tru i v s).1))),(75,.cells 0 (ints (nz (sRow a.es tru i v s).1))),(76,.cells 0 ((sRow a.es tru i v s).2.flatMap edC)),(77,.cells 0 (ints (nz M)))]) (fun _=>True) ?_ (Nat.zero_le _) ?_ ?_
        · rw [hmn]
          exact⟨[(50,.blk 50 0),(60,.blk 60 0),(69,.blk 69 0),(83,.blk 83 0),(78,.blk 78 0),(75,.blk 75 0),(76,.blk 76 0),(77,.blk 77 0)],rfl,au0,au9,au10⟩
        · rintro j hj
          by_cases hjl:j<(sOut a.es tru v).length
          · obtain ⟨e, he⟩ := Qak hjl
            have hem:=QaO.1 (List.mem_of_getElem? he)
            have hto:=(h.esn e hem.1).2
            obtain⟨k1,_,_,_,_⟩:=hrow j
            have hfi:=k1.len
            have hstep:=QhB (i:=i) (s:=s) he
            have hsl2:=Qdp (i:=i) ((sOut a.es tru v).take j) s
            rw[List.length_take]at hsl2
            generalize (((sOut a.es tru v).take j).foldl (sEd i) s)=t at*
            have hel2:=QbN t.2
            have hpl:=Qgv (n:=a.n) (o:=t.1)
            have hpg:=Qgw (o:=t.1) hto
            have hpt:e.2.2<(pl a.n t.1).length:=by omega
            have hp1:e.2.2+1<=(pl a.n t.1).length:=by omega
            by_cases hc:e.2.2∈t.1
            · have h2 : sEd i t e = (t.1, t.2 ++ [(i, e.2.1, SD.idx t.1 e.2.2)]) := if_pos (by simpa using hc)
              rw[h2]at hstep
              rw[if_pos (by simpa using hc)]at hpg
              have h3:¬((SD.idx t.1 e.2.2:Nat):Int)<0:=by omega
              generalize SD.idx t.1 e.2.2=q at*
              simp(disch:=first|omega|(simp only[lenW]<;>omega)) only[hjl,QaQ he,hto,Qcc hpt,hpg,h3,hel2,wW,wV,simprocAttr]
              refine⟨j+1,by omega,by omega,?_⟩
              rw[hstep,List.flatMap_append,List.length_append]
              exact⟨[(50,.blk 50 0),(60,.blk 60 0),(69,.blk 69 0),(83,.blk 83 0),(78,.blk 78 0),(75,.blk 75 0),(76,.blk 76 1),(77,.blk 77 0)],rfl,au0,au9,au10⟩
            · have h2 : sEd i t e = (t.1 ++ [e.2.2], t.2 ++ [(i, e.2.1, t.1.length)]) := if_neg (by simpa using hc)
              rw[h2]at hstep
              rw[if_neg (by simpa using hc)]at hpg
              have hps:=Qmh (n:=a.n) hc
              have h3:(-1:Int)<0:=by decide
              have hpl2:e.2.2<(pl a.n (t.1++[e.2.2])).length:=by rw[Qgv];exact hto
              have hpg2:(pl a.n (t.1++[e.2.2])).getD e.2.2 0=(t.1.length:Int):=by
                rw[Qgw hto,if_pos (by simp),SD.QdM hc]
              simp(disch:=first|omega|(simp only[lenW]<;>omega)) only[hjl,QaQ he,hto,Qcc hpt,hpg,h3,hel2,hp1,Qd9,hps,Qcc hpl2,hpg2,wW,wV,simprocAttr]
              refine⟨j+1,by omega,by omega,?_⟩
              rw[hstep,List.flatMap_append,List.length_append]
              dsimp only
              rw[List.length_append,QaH,QaD]
              exact⟨[(50,.blk 50 0),(60,.blk 60 0),(69,.blk 69 0),(83,.blk 83 0),(78,.blk 78 0),(75,.blk 75 1),(76,.blk 76 1),(77,.blk 77 0)],rfl,au0,au9,au10⟩
          · have e : j = (sOut a.es tru v).length := by omega
            subst e
            simp(disch:=first|omega|(simp only[lenW]<;>omega)) only[hjl,wW,wV,simprocAttr]
            refine⟨(),?_⟩
            exact⟨[(50,.blk 50 0),(60,.blk 60 0),(69,.blk 69 0),(83,.blk 83 0),(78,.blk 78 0),(75,.blk 75 0),(76,.blk 76 0),(77,.blk 77 0)],rfl,au0,au9,au10⟩
        rintro _ _
        have hsl3:(sRow a.es tru i v s).2.length=s.2.length+(sOut a.es tru v).length:=Qdp _ _
        have hol3:=QfT a.es tru v
        simp(disch:=first|omega|(simp only[lenW]<;>omega)) only[wW,wV,simprocAttr]
        refine⟨(i+1,sRow a.es tru i v s),by dsimp only;omega,⟨hin',hsi',by dsimp only;omega,hq'⟩,?_⟩
        dsimp only
        rw[hmapp]
        exact⟨[(50,.blk 50 0),(60,.blk 60 0),(69,.blk 69 0),(83,.blk 83 0),(78,.blk 78 0),(75,.blk 75 0),(76,.blk 76 0),(77,.blk 77 0)],rfl,au0,au9,au10⟩
    · have hv : s.1[i]? = none := List.getElem?_eq_none (by omega)
      have hqf:s=sAll a tru:=by
        rw[<-hq,show a.n+1-i=(a.n-i)+1 by omega]
        simp only[sQ,hv]
      have hil:i=s.1.length:=by omega
      have hmf:mks a i s.1=(restr a tru).ms:=by rw[hil,hqf];rfl
      have hef:s.2=(restr a tru).es:=by rw[hqf];rfl
      simp(disch:=first|omega|(simp only[lenW]<;>omega)) only[hlt,wW,wV,simprocAttr]
      refine⟨(),?_⟩
      rw[hmf,hef,<-hqf]
      exact⟨[(60,.blk 60 0),(69,.blk 69 0),(83,.blk 83 0),(75,.blk 75 0),(76,.blk 76 0),(77,.blk 77 0)],rfl,au0,au9,au10⟩
  rintro _ _
  have hra:(restr a tru).al=a.al:=rfl
  have hrn2:(restr a tru).n=(sAll a tru).1.length:=rfl
  simp(disch:=first|omega|(simp only[lenW]<;>omega)) only[wW,wV,simprocAttr]
  refine⟨.inr trivial,_,rfl,?_⟩
  exact Rn.agg (RnL.cons (Rn.fz0 (g:=0) rfl (by simp[ints,hra]) (RnL.same (Qaa _))) (RnL.cons (Rn.same rfl) (RnL.cons (Rn.fz0 (g:=0) rfl (by simp[ints]) (RnL.same (Qaa _))) (RnL.cons (Rn.fz0 (g:=0) rfl (QbN _) (RnL.same (Qad _))) RnL.nil))))
end Go.AM.SE
namespace Go.AM.SO
open Go.Proofs Go.AM.SD Go.AM.SE
theorem check112 (a:Aut) (h:WfA a) (hel:a.es.length<=1000000):PSpec Tryz.prog 112 [aV a] (.int .i64 0):=by
 have:=check37 (au a) (WfA.auOk h hel)
 rwa [Qoc]at this
theorem isCanon60 (a:Aut) (h:WfA a) (hel:a.es.length<=1000000) (hc:restr a (fun _=>true)=a):PSpec Tryz.prog 60 [aV a] (.bool true):=by
 have h1:=canonical44 a h hel
 have hc':restr a tru=a:=hc
 rw[hc']at h1
 have hn5:=h.n5
 have hal:a.al.length<=5:=QaM 5 a.al (by rw[List.nodup_iff_pairwise_ne];exact h.al.imp fun h=>by omega) h.al5
 have hml:a.ms.length<=a.n:=QaM a.n a.ms h.nd h.msn
 have ho:AOk a:=⟨by omega,by omega,by omega⟩
 have h2:=eq43 a a ho ho
 rw[Qmf]at h2
 refine PSpec.Qaj 64 ok60 rfl (by(try simp only[noRefs,Qaa,Qaf,Qad,Qag,Qae,noRef,Bool.and_self,Bool.and_true])<;>rfl) rfl ?_
 simp(disch:=first|omega|(simp only[lenW]<;>omega)) only[s60,wV,simprocAttr]
 refine cp (check112 a h hel) ?_
 simp(disch:=first|omega|(simp only[lenW]<;>omega)) only[wV,simprocAttr]
 refine cp h1 ?_
 simp(disch:=first|omega|(simp only[lenW]<;>omega)) only[wV,simprocAttr]
 refine cp h2 ?_
 simp(disch:=first|omega|(simp only[lenW]<;>omega)) only[wV,simprocAttr]
 exact⟨.inr trivial,_,rfl,rfl⟩
end Go.AM.SO
namespace Go.AM.SP
open Go.Proofs
noncomputable section
def isTrue:AV->Bool| .bool true=>true|_=>false
theorem Qmi:∀u,isTrue u=true->u= .bool true:=by
 intro u h
 unfold isTrue at h
 split at h
 ·rfl
 ·cases h
def nameB (s:List UInt8):Bool:=callR ansB noOrc SK.ft.get (exR ansB noOrc SK.ft.get 1000) (.c .pure) 135 [.str s] .e 64 (fun u _ _=>isTrue u)
theorem QbG {s:List UInt8} (h:nameB s=true):PSpec Tryz.prog 135 [.str s] (.bool true):=
 QbA (t:=SK.ft) SK.ft_ok Qdm (d:=1000) isTrue Qmi h
theorem Qof:PSpec Tryz.prog 135 [.str [97]] (.bool true):=QbG (by kernel_rfl)
theorem Qog:PSpec Tryz.prog 135 [.str [98]] (.bool true):=QbG (by kernel_rfl)
theorem Qi5:PSpec Tryz.prog 135 [.str [99]] (.bool true):=QbG (by kernel_rfl)
theorem Qoh:PSpec Tryz.prog 135 [.str [100]] (.bool true):=QbG (by kernel_rfl)
theorem Qoi:PSpec Tryz.prog 135 [.str [101]] (.bool true):=QbG (by kernel_rfl)
theorem QnH:PSpec Tryz.prog 135 [.str [99,48]] (.bool true):=QbG (by kernel_rfl)
theorem QnI:PSpec Tryz.prog 135 [.str [99,49]] (.bool true):=QbG (by kernel_rfl)
theorem QnJ:PSpec Tryz.prog 135 [.str [99,50]] (.bool true):=QbG (by kernel_rfl)
theorem QnK:PSpec Tryz.prog 135 [.str [114,48]] (.bool true):=QbG (by kernel_rfl)
theorem QnL:PSpec Tryz.prog 135 [.str [114,49]] (.bool true):=QbG (by kernel_rfl)
end
end Go.AM.SP
namespace Go.AM.SO
open Go.Proofs Go.AM.SD Go.AM.SE
structure Evt where
 c:Bool
 o:Bool
 f:Bool
 flt:Nat
def Evt.Ok (e:Evt):Prop:=e.flt<=4/\(e.flt≠0->e.c=false/\e.o=false)
def evC (i:Nat) (e:Evt):List AV:=[.str [UInt8.ofNat (97+i)],.bool e.c,.bool e.o,.bool e.f,.int .i64 (e.flt:Int)]
abbrev evsC (e:Nat->Evt):List AV:=evC 0 (e 0)++evC 1 (e 1)++evC 2 (e 2)++evC 3 (e 3)++evC 4 (e 4)
abbrev evsV (e:Nat->Evt):AV:= .fsl (evsC e) 5 5
theorem Qoj (e:Nat->Evt) {i:Nat} (hi:i<5):((evsC e).drop (i*5)).take 5=evC i (e i):=by
 have:i=0\/i=1\/i=2\/i=3\/i=4:=by omega
 rcases this with rfl|rfl|rfl|rfl|rfl<;>rfl
theorem QnM (e:Nat->Evt):(evsC e).length=25:=rfl
theorem QnN {i:Nat} (hi:i<5):PSpec Tryz.prog 135 [.str [UInt8.ofNat (97+i)]] (.bool true):=by
 have:i=0\/i=1\/i=2\/i=3\/i=4:=by omega
 rcases this with rfl|rfl|rfl|rfl|rfl
 ·exact SP.Qof
 ·exact SP.Qog
 ·exact SP.Qi5
 ·exact SP.Qoh
 ·exact SP.Qoi
end Go.AM.SO
namespace Go.AM
variable {P:Program}
def mapS (f:List UInt8->AV) (l:List (List UInt8)):List (AV×AV):=l.map fun x=>(.str x,f x)
def updS (f:List UInt8->AV) (x:List UInt8) (v:AV):List UInt8->AV:=fun y=>if y=x then v else f y
theorem QhI {x y:List UInt8}:keyEq false [.s] (.str x) (.str y)=some (decide (x=y)):=by
 by_cases e:x=y
 ·subst e;simp[keyEq,eqCells,eqCell]
 ·simp[keyEq,eqCells,eqCell,e]
theorem Qeb {f:List UInt8->AV} {x:List UInt8}:∀(l:List (List UInt8)) (i:Nat),x∉l->aFind false [.s] (.str x) (mapS f l) i=some none
 |[],_,_=>rfl
 |y::l,i,hx=>by
  simp only[List.mem_cons,not_or]at hx
  show(match keyEq false [.s] (.str x) (.str y)with|some true=>_|some false=>_|none=>_)=_
  rw[QhI,decide_eq_false hx.1]
  exact Qeb l (i+1) hx.2
theorem Qm8 {f:List UInt8->AV} {x:List UInt8} {v:AV} {l:List (List UInt8)} (hx:x∉l):mapS f l++[(.str x,v)]=mapS (updS f x v) (l++[x]):=by
 have:mapS f l=mapS (updS f x v) l:=List.map_congr_left fun z hz=>by
  have:z≠x:=fun h=>hx (h▸hz)
  simp[updS,this]
 rw[this]
 simp[mapS,updS]
theorem QhJ {x:List UInt8}:keyOK false [.s] (.str x)=true:=by unfold keyOK;rw[QhI]
section
variable {N:NM} {d:Option Nat} {r:List SOper} {dead:List Nat} {fs:List Fr} {n:Nat} {T:Tmps} {h:Heap} {Q:QC}
theorem QeL {f:List UInt8->AV} {x:List UInt8} {l:List (List UInt8)} {b g:Nat} {z:AV} {ok:Bool} (hb:h.get b=some (.map g (mapS f l))) (hx:x∉l)
  (hk:wR P N r dead fs (n+1) (putD T d (if ok then .tup [z,.bool false]else z)) h Q):wM P N (aLookup false [.s] z ok (.map b g) (.str x)) d r dead fs n T h Q:=by
 refine⟨_,h,?_,hk⟩
 have hg:Nat.beq g g=true:=by simp
 unfold aLookup
 rw[if_pos QhJ]
 simp only[HM.entries,HM.run,hb,hg,cond_true,Qeb l 0 hx]
theorem Qdq {f:List UInt8->AV} {x:List UInt8} {l:List (List UInt8)} {b g:Nat} {v:AV} (hb:h.get b=some (.map g (mapS f l))) (hx:x∉l) (hl:b<1099511627775)
  (hk:wR P N r dead fs (n+1) (putD T d .any) (h.set b (.map g (mapS (updS f x v) (l++[x])))) Q):wM P N (aMapUpd false [.s] (.map b g) (.str x) v) d r dead fs n T h Q:=by
 refine⟨_,_,?_,hk⟩
 have hg:Nat.beq g g=true:=by simp
 have hl':Nat.blt b lim=true:=by simp[Nat.blt];exact hl
 unfold aMapUpd
 rw[if_pos QhJ]
 simp only[HM.entries,HM.run,hb,hg,cond_true,Qeb l 0 hx,hl',Qm8 hx]
end
theorem RnM.mapS {m:Nat} {π:Nat->Option Src} {h:Heap} {f g:List UInt8->AV}:∀{l:List (List UInt8)},(∀x∈l,Rn m π h (f x) (g x))->RnM m π h (mapS f l) (mapS g l)
 |[],_=>trivial
 |x::l,hf=>⟨⟨Rn.same rfl,hf x (by simp)⟩,RnM.mapS (l:=l) fun y hy=>hf y (by simp[hy])⟩
end Go.AM
namespace Go.AM.SO
open Go.Proofs Go.AM.SD Go.AM.SE
def nmL (i:Nat):List (List UInt8):=(List.range i).map fun j=>[UInt8.ofNat (97+j)]
theorem Qm9 {i:Nat}:nmL (i+1)=nmL i++[[UInt8.ofNat (97+i)]]:=by
 unfold nmL
 rw[List.range_succ,List.map_append];rfl
theorem QnO {i:Nat} (hi:i<5):[UInt8.ofNat (97+i)]∉nmL i:=by
 have:i=0\/i=1\/i=2\/i=3\/i=4:=by omega
 rcases this with rfl|rfl|rfl|rfl|rfl<;>decide
abbrev yes:List UInt8->AV:=fun _=> .bool true
theorem QfX {x:List UInt8}:updS yes x (.bool true)=yes:=by
 funext y;simp[updS]
theorem Qmj (e:Nat->Evt):noRefs [evsV e]=true:=rfl
theorem check82 (e:Nat->Evt) (he:∀i,i<5->(e i).Ok):PSpec Tryz.prog 82 [evsV e] (.int .i64 0):=by
  refine PSpec.Qaj 64 ok82 rfl (Qmj e) rfl ?_
  simp(disch:=first|omega|(simp only[lenW]<;>omega)) only[s82,wW,wV,simprocAttr]
  refine Qat 100 (fun i:Nat=>[(10,evsV e),(11,.int .i64 5),(12,.int .i64 i),(3,.map 68 0)]) (fun i=>[(68,.map 0 (mapS yes (nmL i)))]) (fun i=>i<=5) (fun i=>5-i) 0 ⟨[(68,.blk 68 0)],rfl,au0,?_,au4⟩ (Nat.zero_le _) ?_
  · exact RB.map rfl rfl rfl trivial RB.nil
  rintro i hi
  by_cases hlt:i<5
  · have hlt2 : (i : Int) < 5 := by omega
    have hat:=Qoj e hlt
    have hln:5<=(List.drop (i*5) (evsC e)).length:=by rw[List.length_drop,QnM];omega
    have hev:evC i (e i)=[.str [UInt8.ofNat (97+i)],.bool (e i).c,.bool (e i).o,.bool (e i).f,.int .i64 ((e i).flt:Int)]:=rfl
    obtain⟨h4,hc⟩:=he i hlt
    generalize e i=ei at hat hev h4 hc
    obtain⟨ec,eo,ef,efl⟩:=ei
    dsimp only at hat hev h4 hc
    have hnm:=QnO hlt
    have hs:=@Qm9 i
    have hne:=QnN hlt
    generalize UInt8.ofNat (97+i)=ch at hev hnm hs hne
    simp(disch:=first|omega|(simp only[lenW]<;>omega)) only[hlt2,hat,hln,hev,wW,wV,simprocAttr]
    refine cp hne ?_
    simp(disch:=first|omega|(simp only[lenW]<;>omega)) only[wW,wV,simprocAttr]
    refine QeL rfl hnm ?_
    have k1:¬(efl:Int)<0:=by omega
    have k2:¬4<(efl:Int):=by omega
    by_cases h0:efl=0
    · have k3 : (efl : Int) = 0 := by omega
      simp(disch:=first|omega|(simp only[lenW]<;>omega)) only[k1,k2,k3,wW,wV,simprocAttr]
      refine Qdq gg hnm (by omega) ?_
      simp(disch:=first|omega|(simp only[lenW]<;>omega)) only[QfX,wW,wV,simprocAttr]
      refine⟨i+1,by omega,by omega,?_⟩
      rw[hs]
      refine⟨[(68,.blk 68 0)],rfl,au0,?_,au4⟩
      exact RB.map rfl rfl gg (RnM.mapS fun _ _=>Rn.same rfl) RB.nil
    · have k3 : ¬ (efl : Int) = 0 := by omega
      obtain⟨rfl,rfl⟩:=hc h0
      simp(disch:=first|omega|(simp only[lenW]<;>omega)) only[k1,k2,k3,wW,wV,simprocAttr]
      refine Qdq gg hnm (by omega) ?_
      simp(disch:=first|omega|(simp only[lenW]<;>omega)) only[QfX,wW,wV,simprocAttr]
      refine⟨i+1,by omega,by omega,?_⟩
      rw[hs]
      refine⟨[(68,.blk 68 0)],rfl,au0,?_,au4⟩
      exact RB.map rfl rfl gg (RnM.mapS fun _ _=>Rn.same rfl) RB.nil
  · have hlt2 : ¬ (i : Int) < 5 := by omega
    simp(disch:=first|omega|(simp only[lenW]<;>omega)) only[hlt2,wW,wV,simprocAttr]
    exact⟨.inr trivial,_,rfl,rfl⟩
end Go.AM.SO
namespace Go.AM.SO
open Go.Proofs Go.AM.SD Go.AM.SE
def evOf (b:Nat):Evt:=if 48<=b/\b<52 then⟨false,false,false,b-47⟩else⟨decide (b&&&1=1),decide (b&&&2=2),decide (b&&&4=4),0⟩
theorem QnP (b:Nat):(evOf b).Ok:=by
 unfold evOf
 split
 ·exact⟨by dsimp only;omega,fun _=>⟨rfl,rfl⟩⟩
 ·exact⟨by dsimp only;omega,fun h=>absurd rfl h⟩
theorem andN (b m:Nat) (hb:b<256) (hm:m<256):(BitVec.ofInt 8 (b:Int)&&&BitVec.ofInt 8 (m:Int)).toNat=b&&&m:=by
 rw[BitVec.toNat_and,BitVec.toNat_ofInt,BitVec.toNat_ofInt]
 have h1:((b:Int) % ((2^8:Nat):Int)).toNat=b:=by omega
 have h2:((m:Int) % ((2^8:Nat):Int)).toNat=m:=by omega
 rw[h1,h2]
theorem Qi6 (b m:Nat) (hm:m<256):b&&&m<256:=Nat.lt_of_le_of_lt Nat.and_le_right hm
theorem Qmk {b:Nat} (hb:b<256):aBin .and (.int .u8 (b:Int)) (.int .u8 1)=some (.int .u8 ((b&&&1:Nat):Int)):=by
 have:=andN b 1 hb (by omega)
 have h2:=Qi6 b 1 (by omega)
 simp only[aBin,if_true]
 rw[show IntKind.u8.bits=8 from rfl,show(1:Int)=((1:Nat):Int) from rfl,this,wr_u8 (by omega) (by omega)]
theorem Qml {b:Nat} (hb:b<256):aBin .and (.int .u8 (b:Int)) (.int .u8 2)=some (.int .u8 ((b&&&2:Nat):Int)):=by
 have:=andN b 2 hb (by omega)
 have h2:=Qi6 b 2 (by omega)
 simp only[aBin,if_true]
 rw[show IntKind.u8.bits=8 from rfl,show(2:Int)=((2:Nat):Int) from rfl,this,wr_u8 (by omega) (by omega)]
theorem Qmm {b:Nat} (hb:b<256):aBin .and (.int .u8 (b:Int)) (.int .u8 4)=some (.int .u8 ((b&&&4:Nat):Int)):=by
 have:=andN b 4 hb (by omega)
 have h2:=Qi6 b 4 (by omega)
 simp only[aBin,if_true]
 rw[show IntKind.u8.bits=8 from rfl,show(4:Int)=((4:Nat):Int) from rfl,this,wr_u8 (by omega) (by omega)]
def evP (F:List Nat) (i:Nat):List AV:=(List.range i).flatMap fun j=>evC j (evOf (F.getD j 0))
theorem Qi7 {F:List Nat} {i:Nat}:evP F (i+1)=evP F i++evC i (evOf (F.getD i 0)):=by
 unfold evP
 rw[List.range_succ,List.flatMap_append];simp
theorem QgL {F:List Nat}:∀{i:Nat},(evP F i).length=i*5
 |0=>rfl
 |i+1=>by rw[Qi7,List.length_append,QgL];simp[evC];omega
end Go.AM.SO
namespace Go.AM.SO
open Go.Proofs Go.AM.SD Go.AM.SE
structure Cel where
 ev:Nat->Evt
 cs:List (Nat×Aut)
 rs:List (Nat×Aut)
 xs:List (Nat×List (Nat×Nat))
 ks:List (List (Nat×Int)×Int)
def itC (ch:UInt8) (x:Nat×Aut):List AV:=[.str [ch,UInt8.ofNat (48+x.1)],sliN x.2.al,.int .i64 (x.2.n:Int),sliN x.2.ms,egsN x.2.es]
def loC (x:Nat×Nat):List AV:=[.int .i64 (x.1:Int),.int .i64 (x.2:Int)]
abbrev los (l:List (Nat×Nat)):AV:= .fsl (l.flatMap loC) l.length 2
def exC (x:Nat×List (Nat×Nat)):List AV:=[.str [101,UInt8.ofNat (48+x.1)],los x.2]
def teC (x:Nat×Int):List AV:=[.int .i64 (x.1:Int),.int .i64 x.2]
abbrev tes (l:List (Nat×Int)):AV:= .fsl (l.flatMap teC) l.length 2
def coC (x:List (Nat×Int)×Int):List AV:=[.str [107],tes x.1,.int .i64 x.2]
abbrev its (ch:UInt8) (l:List (Nat×Aut)):AV:= .fsl (l.flatMap (itC ch)) l.length 5
abbrev exs (l:List (Nat×List (Nat×Nat))):AV:= .fsl (l.flatMap exC) l.length 2
abbrev cos (l:List (List (Nat×Int)×Int)):AV:= .fsl (l.flatMap coC) l.length 3
abbrev celV (c:Cel):AV:= .agg [evsV c.ev,its 99 c.cs,its 114 c.rs,exs c.xs,cos c.ks]
structure WfI (a:Aut):Prop where
 wf:WfA a
 pos:0<a.n
 n3:a.n<=3
 can:restr a (fun _=>true)=a
 el:a.es.length<=25
structure WfCel (c:Cel):Prop where
 ev:∀i,i<5->(c.ev i).Ok
 c0:0<c.cs.length
 c3:c.cs.length<=3
 r2:c.rs.length<=2
 x2:c.xs.length<=2
 k1:c.ks.length<=1
 cn:c.cs.map (·.1)=List.range c.cs.length
 rn:c.rs.map (·.1)=List.range c.rs.length
 xn:(c.xs.map (·.1)).Pairwise (· < ·)/\∀x∈c.xs,x.1<2
 ca:∀x∈c.cs,WfI x.2
 ra:∀x∈c.rs,WfI x.2
 rsub:∀x∈c.rs,∀e∈x.2.al,∃y∈c.cs,e∈y.2.al
 xl:∀x∈c.xs,x.2≠[]/\(x.2.map (·.1)).Pairwise (· < ·)/\∀l∈x.2,∃y,c.cs[l.1]?=some y/\l.2<y.2.n
 kl:∀x∈c.ks,x.1≠[]/\(x.1.map (·.1)).Pairwise (· < ·)/\(∀t∈x.1,t.1<c.cs.length/\t.2≠0/\ -4<t.2/\t.2<4)/\ -8<x.2/\x.2<8
theorem Qk6 {l:List Nat} (h:l.Pairwise (· < ·)) {p q:Nat} (hpq:p<q) (hq:q<l.length):l.getD p 0<l.getD q 0:=by
 rw[List.getD_eq_getElem?_getD,List.getD_eq_getElem?_getD,List.getElem?_eq_getElem (by omega),List.getElem?_eq_getElem hq]
 exact List.pairwise_iff_getElem.1 h p q (by omega) hq hpq
theorem partLt {n b:Nat}:∀x∈SD.part n b,x<n:=fun x hx=>(QiK.1 hx).1
theorem QnQ {al:List Nat} {st mk:Nat} {T:List Nat} (hs:al.Pairwise (· < ·)) (h5:∀x∈al,x<5):WfA (gRaw al st mk T):=by
 have hr:=Qea (st:=st) (mk:=mk) (T:=T) (Qcn hs h5)
 have hesn:=hr.esn
 have hn5:=hr.n5
 unfold gRaw at hesn hn5⊢
 split
 ·exact⟨hs,h5,by simp,by simp,by simp,by simp,by simp,by simp⟩
 ·rename_i hst
  rw[if_neg hst]at hesn hn5
  have hev:∀i,∀e∈gRow al (1+st % 5) T i al.length,e.1=i/\∃j,j<al.length/\e.2.1=al.getD j 0:=fun i e he=>by
   unfold gRow at he
   obtain⟨j,hj,hm⟩:=List.mem_filterMap.1 he
   unfold gEd at hm
   split at hm
   ·cases hm;exact⟨rfl,j,List.mem_range.1 hj,rfl⟩
   ·cases hm
  refine⟨hs,h5,hn5,QcG _ _,partLt,?_,hesn,fun e he=>?_⟩
  ·show (gPre _ _ _ _).Pairwise _
   unfold gPre
   refine QbZ (fun i _=>?_) (List.pairwise_lt_range.imp fun hij x hx y hy=> .inl ?_)
   ·unfold gRow
    refine List.Pairwise.filterMap _ (R:=fun j j'=>j<j'/\j'<al.length) ?_ (List.pairwise_lt_range.imp_of_mem fun _ hb h=>⟨h,List.mem_range.1 hb⟩)
    rintro x y ⟨hxy,hy⟩ p hp q hq
    unfold gEd at hp hq
    split at hp
    ·split at hq
     ·cases hp;cases hq;exact .inr ⟨rfl,Qk6 hs hxy hy⟩
     ·cases hq
    ·cases hp
   ·rw[(hev _ x hx).1,(hev _ y hy).1];exact hij
  ·unfold gPre at he
   obtain⟨i,_,he⟩:=List.mem_flatMap.1 he
   obtain⟨_,j,hj,hje⟩:=hev i e he
   show e.2.1∈al
   rw[hje,List.getD_eq_getElem?_getD,List.getElem?_eq_getElem hj]
   exact List.getElem_mem hj
theorem QnR {al:List Nat} {st mk:Nat} {T:List Nat} (hs:al.Pairwise (· < ·)) (h5:∀x∈al,x<5):restr (mkA al st mk T) (fun _=>true)=mkA al st mk T:=by
 have h:=QnQ (st:=st) (mk:=mk) (T:=T) hs h5
 show restr (canon _) _=canon _
 rw[QjF h];exact QjC h
theorem Qi8 {es:List Ed} {s:Nat}:∀{L:List Nat} {out:List Nat},out.length<=(L.foldl (fEv es s) out).length
 |[],out=>Nat.le_refl _
 | e :: L, out => by
  rw[List.foldl_cons]
  refine Nat.le_trans ?_ (Qi8 (L:=L))
  unfold fEv
  split
  ·split
   ·exact Nat.le_refl _
   ·simp
  ·exact Nat.le_refl _
theorem Qmn {al:List Nat} {es:List Ed}:∀(k i:Nat) (out:List Nat),out.length<=(fQ al es k i out).length
 |0,_,_=>Nat.le_refl _
 |k+1,i,out=>by
  unfold fQ
  split
  ·exact Nat.le_trans Qi8 (Qmn k (i+1) _)
  ·exact Nat.le_refl _
theorem Qku {al:List Nat} {st mk:Nat} {T:List Nat} (hs:al.Pairwise (· < ·)) (h5:∀x∈al,x<5) (h3:st<3):WfI (mkA al st mk T):=by
 have hr:=Qea (st:=st) (mk:=mk) (T:=T) (Qcn hs h5)
 have e:gRaw al st mk T=⟨al,1+st % 5,SD.part (1+st % 5) mk,gPre al (1+st % 5) T (1+st % 5)⟩:=if_neg (by omega)
 have hn:(gRaw al st mk T).n<=3:=by rw[e];dsimp only;omega
 have hf:(found (gRaw al st mk T)).length<=(gRaw al st mk T).n:=QaM _ _ (Qd5 hr.esn).1.nd (Qd5 hr.esn).1.lt
 have h1:=QfU (gRaw al st mk T) (found (gRaw al st mk T)) (found (gRaw al st mk T)).length
 refine⟨Qod hs h5,?_,Nat.le_trans hf hn,QnR hs h5,?_⟩
 ·show 0 < (found (gRaw al st mk T)).length
  have h0:0<(gRaw al st mk T).n:=by rw[e];dsimp only;omega
  unfold found
  rw[if_pos h0]
  exact Nat.lt_of_lt_of_le (by simp) (Qmn _ _ _)
 ·have h2 : (mkA al st mk T).es.length = (cPre (gRaw al st mk T) (found (gRaw al st mk T)) (found (gRaw al st mk T)).length).length := rfl
  rw[h2]
  have h4:(gRaw al st mk T).al.length<=5:=by rw[e];exact Qcn hs h5
  refine Nat.le_trans h1 (Nat.le_trans (Nat.mul_le_mul (Nat.le_trans hf hn) h4) (by decide))
structure Pln where
 L:List Nat
 X:List Nat
 xn:Nat
 f0:Int
 f1:Int
 f2:Int
 bd:Int
structure POk (p:Pln):Prop where
 L:p.L.length=147
 L8:∀x∈p.L,x<256
 X:p.X.length=p.xn*4
 X8:∀x∈p.X,x<256
 f0: -128<=p.f0/\p.f0<128
 f1: -128<=p.f1/\p.f1<128
 f2: -128<=p.f2/\p.f2<128
 bd: -128<=p.bd/\p.bd<128
abbrev plnC (p:Pln):List AV:=u8s p.L++[.fsl (u8s p.X) p.xn 4,.int .i8 p.f0,.int .i8 p.f1,.int .i8 p.f2,.int .i8 p.bd]
abbrev plnV (p:Pln):AV:= .agg (plnC p)
variable (p:Pln)
def pN:Nat:=1+p.L.getD 5 0 % 3
def pM:Nat:=p.L.getD 90 0 % 3
def pA (i:Nat):Aut:=mkA (SD.part 5 (p.L.getD (6+i) 0)) (p.L.getD (9+i*27) 0 % 3) (p.L.getD (9+i*27+1) 0) ((p.L.drop (9+i*27+2)).take 25)
def pAll:Nat->Nat
 |0=>0
 |i+1=>pAll i|||p.L.getD (6+i) 0 % 32
def pW (i:Nat):List Nat:=(SD.part 5 (p.L.getD (91+i) 0)).filter fun x=>(pAll p (pN p)).testBit x
def pR (i:Nat):Aut:=mkA (pW p i) (p.L.getD (93+i*27) 0 % 3) (p.L.getD (93+i*27+1) 0) ((p.L.drop (93+i*27+2)).take 25)
def pCs (n:Nat):List (Nat×Aut):=(List.range n).map fun i=>(i,pA p i)
def pRs (n:Nat):List (Nat×Aut):=(List.range n).map fun i=>(i,pR p i)
def pLo (i:Nat):Nat->List (Nat×Nat)
 |0=>[]
 |k+1=>if p.X.getD (i*4+k) 0 % ((pA p k).n+2)<(pA p k).n then pLo i k++[(k,p.X.getD (i*4+k) 0 % ((pA p k).n+2))]else pLo i k
def pXs:Nat->List (Nat×List (Nat×Nat))
 |0=>[]
 |i+1=>if 0<(pLo p i (pN p)).length then pXs i++[(i,pLo p i (pN p))]else pXs i
def pF (i:Nat):Int:=if i=0 then p.f0 else if i=1 then p.f1 else p.f2
def pT:Nat->List (Nat×Int)
 |0=>[]
 |i+1=>if pF p i=0 then pT i else pT i++[(i,(pF p i).tmod 4)]
def pT0:List (Nat×Int):=(pT p (pN p)).filter fun t=> !(decide (t.2=0))
def pKs:List (List (Nat×Int)×Int):=if 0<(pT0 p).length then[(pT0 p,p.bd.tmod 8)]else[]
def mkC:Cel:=⟨fun i=>evOf ((p.L.take 5).getD i 0),pCs p (pN p),pRs p (pM p),pXs p (min p.xn 2),pKs p⟩
variable {p}
theorem pN_le:1<=pN p/\pN p<=3:=by unfold pN;omega
theorem pM_le:pM p<=2:=by unfold pM;omega
theorem QhK (i:Nat):(pW p i).Pairwise (· < ·):=(QcG _ _).filter _
theorem pW_lt (i:Nat):∀x∈pW p i,x<5:=fun x hx=>partLt x (List.mem_filter.1 hx).1
theorem pA_wf (i:Nat):WfI (pA p i):=Qku (QcG _ _) partLt (by omega)
theorem pR_wf (i:Nat):WfI (pR p i):=Qku (QhK i) (pW_lt i) (by omega)
theorem Qmo {al:List Nat} {st mk:Nat} {T:List Nat}:(mkA al st mk T).al=al:=by
 show(gRaw al st mk T).al=al
 unfold gRaw;split<;>rfl
theorem Qgx {i:Nat}:∀{n:Nat},∀x∈pLo p i n,x.1<n/\x.2<(pA p x.1).n
 |0,x,h=>by cases h
 | n + 1, x, h => by
  unfold pLo at h
  split at h
  ·rename_i hc
   rcases List.mem_append.1 h with h|h
   ·have:=Qgx x h;exact⟨by omega,this.2⟩
   ·simp at h;subst h;exact⟨Nat.lt_succ_self _,hc⟩
  ·have:=Qgx x h;exact⟨by omega,this.2⟩
theorem Qec {i:Nat}:∀{n:Nat},((pLo p i n).map (·.1)).Pairwise (· < ·)
 |0=>by simp[pLo]
 | n + 1 => by
  unfold pLo
  split
  ·rw [List.map_append, List.pairwise_append]
   refine⟨Qec,by simp,fun x hx y hy=>?_⟩
   simp at hy;subst hy
   obtain⟨z,hz,rfl⟩:=List.mem_map.1 hx
   exact(Qgx z hz).1
  ·exact Qec
theorem QeM:∀{n:Nat},∀x∈pXs p n,x.1<n/\x.2=pLo p x.1 (pN p)/\x.2≠[]
 |0,x,h=>by cases h
 | n + 1, x, h => by
  unfold pXs at h
  split at h
  ·rename_i hc
   rcases List.mem_append.1 h with h|h
   ·have:=QeM x h;exact⟨by omega,this.2⟩
   ·simp at h;subst h;exact⟨Nat.lt_succ_self _,rfl,List.ne_nil_of_length_pos hc⟩
  ·have:=QeM x h;exact⟨by omega,this.2⟩
theorem Qed:∀{n:Nat},((pXs p n).map (·.1)).Pairwise (· < ·)
 |0=>by simp[pXs]
 | n + 1 => by
  unfold pXs
  split
  ·rw [List.map_append, List.pairwise_append]
   refine⟨Qed,by simp,fun x hx y hy=>?_⟩
   simp at hy;subst hy
   obtain⟨z,hz,rfl⟩:=List.mem_map.1 hx
   exact(QeM z hz).1
  ·exact Qed
theorem QgM:∀{n:Nat},(pXs p n).length<=n
 |0=>by simp[pXs]
 |n+1=>by
  have:=@QgM n
  unfold pXs
  split
  ·simp;omega
  ·omega
theorem QgN {i:Nat}:∀{n:Nat},(pLo p i n).length<=n
 |0=>by simp[pLo]
 |n+1=>by
  have:=@QgN i n
  unfold pLo
  split
  ·simp;omega
  ·omega
theorem Qi9:∀{n:Nat},(pT p n).length<=n
 |0=>by simp[pT]
 |n+1=>by
  have:=@Qi9 n
  unfold pT
  split
  ·omega
  ·simp;omega
theorem pT_lt:∀{n:Nat},∀x∈pT p n,x.1<n/\ -4<x.2/\x.2<4
 |0,x,h=>by cases h
 | n + 1, x, h => by
  unfold pT at h
  split at h
  ·have:=pT_lt x h;exact⟨by omega,this.2⟩
  ·rcases List.mem_append.1 h with h | h
   ·have:=pT_lt x h;exact⟨by omega,this.2⟩
   ·simp at h; subst h
    refine⟨Nat.lt_succ_self _,?_,?_⟩
    ·have:=Int.lt_tmod_of_pos (pF p n) (show(0:Int)<4 by decide);dsimp only;omega
    ·exact Int.tmod_lt_of_pos (pF p n) (show(0:Int)<4 by decide)
theorem QeN:∀{n:Nat},((pT p n).map (·.1)).Pairwise (· < ·)
 |0=>by simp[pT]
 | n + 1 => by
  unfold pT
  split
  ·exact QeN
  ·rw [List.map_append, List.pairwise_append]
   refine⟨QeN,by simp,fun x hx y hy=>?_⟩
   simp at hy;subst hy
   obtain⟨z,hz,rfl⟩:=List.mem_map.1 hx
   exact(pT_lt z hz).1
theorem Qja {e:Nat}:∀{n:Nat},(pAll p n).testBit e=true->e<5->∃i,i<n/\(p.L.getD (6+i) 0).testBit e=true
 |0,h,_=>by simp[pAll]at h
 | n + 1, h, h5 => by
  unfold pAll at h
  rw[Nat.testBit_or,Bool.or_eq_true]at h
  rcases h with h|h
  ·obtain⟨i,hi,h⟩:=Qja h h5;exact⟨i,by omega,h⟩
  ·rw [show 32 = 2 ^ 5 from rfl, Nat.testBit_mod_two_pow] at h
   simp at h
   exact⟨n,Nat.lt_succ_self _,h.2⟩
theorem Qmp {n i:Nat} (h:i<n):(pCs p n)[i]?=some (i,pA p i):=by
 unfold pCs
 rw[List.getElem?_map,List.getElem?_range h];rfl
theorem Qmq:WfCel (mkC p):=by
 have h1:=@pN_le p
 have h2:=@pM_le p
 have hc:(pCs p (pN p)).length=pN p:=by simp[pCs]
 have hr:(pRs p (pM p)).length=pM p:=by simp[pRs]
 have hx:=@QgM p (min p.xn 2)
 refine⟨fun i _=>QnP _,?_,?_,?_,?_,?_,?_,?_,⟨Qed,fun x hx=>?_⟩,fun x hx=>?_,fun x hx=>?_,fun x hx e he=>?_,fun x hx=>?_,fun x hx=>?_⟩
 ·show 0 < (pCs p (pN p)).length
  omega
 ·show (pCs p (pN p)).length <= 3
  omega
 ·show (pRs p (pM p)).length <= 2
  omega
 ·show (pXs p _).length <= 2
  omega
 ·show (pKs p).length <= 1
  unfold pKs;split<;>simp
 ·show (pCs p (pN p)).map (·.1) = List.range (pCs p (pN p)).length
  rw[hc]
  simp[pCs,List.map_map,Function.comp_def]
 ·show (pRs p (pM p)).map (·.1) = List.range (pRs p (pM p)).length
  rw[hr]
  simp[pRs,List.map_map,Function.comp_def]
 ·have:=(QeM x hx).1;omega
 ·obtain ⟨i, _, rfl⟩ := List.mem_map.1 (show x ∈ pCs p (pN p) from hx)
  exact pA_wf i
 ·obtain ⟨i, _, rfl⟩ := List.mem_map.1 (show x ∈ pRs p (pM p) from hx)
  exact pR_wf i
 ·obtain ⟨i, _, rfl⟩ := List.mem_map.1 (show x ∈ pRs p (pM p) from hx)
  dsimp only at he
  rw[show(pR p i).al=pW p i from Qmo]at he
  obtain⟨h5,hb⟩:=List.mem_filter.1 he
  obtain⟨j,hj,hb⟩:=Qja hb (partLt e h5)
  refine⟨(j,pA p j),List.mem_map.2 ⟨j,List.mem_range.2 hj,rfl⟩,?_⟩
  dsimp only
  rw[show(pA p j).al=SD.part 5 (p.L.getD (6+j) 0) from Qmo]
  exact QiK.2 ⟨partLt e h5,hb⟩
 ·obtain ⟨_, h4, h5⟩ := QeM x hx
  refine⟨h5,by rw[h4];exact Qec,fun l hl=>?_⟩
  rw[h4]at hl
  obtain⟨h6,h7⟩:=Qgx l hl
  exact⟨_,Qmp h6,h7⟩
 ·have hx' : x ∈ pKs p := hx
  unfold pKs at hx'
  split at hx'
  ·rename_i h0
   simp at hx';subst hx'
   refine⟨List.ne_nil_of_length_pos h0,?_,fun t ht=>?_,?_,?_⟩
   ·exact(QeN (n:=pN p)).sublist (List.Sublist.map _ (List.filter_sublist))
   ·obtain ⟨h3, h4⟩ := List.mem_filter.1 (show t ∈ pT0 p from ht)
    have h5:=pT_lt t h3
    have h6:(mkC p).cs.length=pN p:=hc
    exact⟨by omega,by simpa using h4,h5.2⟩
   ·have:=Int.lt_tmod_of_pos p.bd (show(0:Int)<8 by decide);dsimp only;omega
   ·exact Int.tmod_lt_of_pos p.bd (show(0:Int)<8 by decide)
  ·cases hx'
end Go.AM.SO
namespace Go.AM.SU
open Go.Proofs Go.AM.SD Go.AM.SE Go.AM.SO
theorem Qay (l:List (Nat×Int)):noRefs (l.flatMap teC)=true:=QaK (fun _=>rfl) l
theorem QbV (l:List (Nat×Int)):(l.flatMap teC).length=l.length*2:=QbM (k:=2) (fun _=>rfl) l
theorem Qcd {l:List (Nat×Int)} {i:Nat} {x:Nat×Int} (h:l[i]?=some x):(l.flatMap teC).drop (i*2)= .int .i64 (x.1:Int):: .int .i64 x.2::(l.drop (i+1)).flatMap teC:=Qbh (f:=teC) (k:=2) (fun _=>rfl) h
theorem Qmr {x:Nat×Int}:∀{l:List (Nat×Int)} {i:Nat},i<l.length->(l.flatMap teC).take (i*2)++[.int .i64 (x.1:Int),.int .i64 x.2]++(l.flatMap teC).drop (i*2+2)=(l.set i x).flatMap teC
 |[],i,h=>by simp at h
 |a::l,0,h=>by simp[List.flatMap_cons,teC]
 |a::l,i+1,h=>by
  have:=Qmr (x:=x) (l:=l) (i:=i) (by simpa using h)
  rw[List.set_cons_succ,List.flatMap_cons,List.flatMap_cons,<-this]
  rw[show(i+1)*2=i*2+2 by omega]
  simp[teC]
abbrev teV (x:Nat×Int):AV:= .agg [.int .i64 (x.1:Int),.int .i64 x.2]
theorem zero94 (x:Nat×Int):PSpec Tryz.prog 94 [teV x] (.bool (decide (x.2=0))):=by
 refine PSpec.Qaj 64 ok94 rfl rfl rfl ?_
 simp(disch:=first|omega|(simp only[lenW]<;>omega)) only[s94,Bool.not_eq_true,wW,wV,simprocAttr]
 exact⟨.inr trivial,_,rfl,rfl⟩
def fst0 (l:List (Nat×Int)):Int:=if l.all (fun x=> !decide (x.2=0))then-1 else(l.findIdx (fun x=>decide (x.2=0)):Int)
theorem _root_.Go.AM.au11 {p:Prop} (h:p:=by repeat' (first|exact RB.nil|(refine RnL.same ?_;first|rfl|(simp only[noRef,noRefs,Qah,Bool.and_self,Bool.and_true,Bool.true_and,Qaa,Qaw,Qac,Qay];done))|exact RnM.keyM rfl|exact RnL.nil|exact(True.intro:RnM _ _ _ [] [])|refine RnL.cons ?_ ?_|(refine Rn.same ?_;first|rfl|(simp only[noRef,noRefs,Qah,Bool.and_self,Bool.and_true,Bool.true_and,Qaa,Qaw,Qac,Qay];done))|exact Rn.x1 rfl rfl|exact Rn.x2 rfl rfl|exact Rn.x3 rfl rfl|exact Rn.x4 rfl rfl|exact Rn.x5 rfl|exact Rn.x6 rfl|exact Rn.x7 rfl|refine RB.newnil rfl rfl ?_|refine RB.cells rfl rfl rfl ?_ ?_|refine RB.map rfl rfl rfl ?_ ?_|refine RB.cellsB rfl rfl ?_ ?_|refine RB.mapB rfl rfl ?_ ?_)):p:=h
theorem _root_.Go.AM.au12 {p:Prop} (h:p:=by repeat (first|exact RT.nil|(refine RT.cons ?_ ?_; · (first|exact Rn.any|exact Rn.x1 rfl rfl|exact Rn.x2 rfl rfl|exact Rn.x3 rfl rfl|exact Rn.x4 rfl rfl|exact Rn.x5 rfl|exact Rn.x6 rfl|exact Rn.x7 rfl|(refine Rn.slot ?_ ?_;(first|rfl|(rw[Int.natCast_add];rfl));(first|rfl|(simp only[noRef,noRefs,Qah,Bool.and_self,Bool.and_true,Bool.true_and,Qaa,Qaw,Qac,Qay];done)))|(refine Rn.fn ?_ ?_<;>(repeat' (first|exact RnL.nil|refine RnL.cons ?_ ?_|exact Rn.same rfl|exact Rn.x6 rfl|exact Rn.x2 rfl rfl|exact Rn.x5 rfl|exact Rn.x1 rfl rfl))))))):p:=h
theorem index186 (l : List (Nat × Int)) (hl : l.length <= 1000000) : PSpec Tryz.prog 186 [tes l, .fn 94 [] []] (.int .i64 (fst0 l)) := by
  refine PSpec.Qaj 64 ok186 rfl (by simp only[noRefs,noRef,Qay];rfl) rfl ?_
  have hln:=QbV l
  simp(disch:=first|omega|(simp only[lenW]<;>omega)) only[s186,Bool.not_eq_true,wW,wV,simprocAttr]
  refine Qat 100 (fun i:Nat=>[(0,tes l),(1,.fn 94 [] []),(7,.int .i64 l.length),(8,.int .i64 i)]) (fun _=>[]) (fun i=>i<=l.length/\∀(j:Nat) y,j<i->l[j]?=some y->y.2≠0) (fun i=>l.length-i) 0 ⟨[],rfl,au0,au11,au12⟩ ⟨Nat.zero_le _,fun j y hj=>absurd hj (Nat.not_lt_zero _)⟩ ?_
  rintro i ⟨hi,hb⟩
  by_cases hlt:i<l.length
  · obtain ⟨x, hx⟩ := Qak hlt
    have hn:=zero94 x
    by_cases h0:x.2=0
    · have e : decide (x.2 = 0) = true := by simp [h0]
      rw[e]at hn
      simp(disch:=first|omega|(simp only[lenW]<;>omega)) only[hlt,Qcd hx,Bool.not_eq_true,wW,wV,simprocAttr]
      refine cpc hn ?_
      simp(disch:=first|omega|(simp only[lenW]<;>omega)) only[Bool.not_eq_true,wW,wV,simprocAttr]
      refine⟨.inr trivial,_,rfl,?_⟩
      have h1:¬l.all (fun x=> !decide (x.2=0))=true:=by
        intro h;have:=List.all_eq_true.1 h x (List.mem_of_getElem? hx);simp[h0]at this
      have h2:l.findIdx (fun x=>decide (x.2=0))=i:=by
        rw[List.findIdx_eq hlt]
        refine⟨by rw[List.getElem?_eq_getElem hlt]at hx;cases hx;simp[h0],fun j hj=>?_⟩
        have:=hb j l[j] hj (List.getElem?_eq_getElem (by omega))
        simpa using this
      unfold fst0
      rw[if_neg h1,h2];rfl
    · have e : decide (x.2 = 0) = false := by simp [h0]
      rw[e]at hn
      simp(disch:=first|omega|(simp only[lenW]<;>omega)) only[hlt,Qcd hx,Bool.not_eq_true,wW,wV,simprocAttr]
      refine cpc hn ?_
      simp(disch:=first|omega|(simp only[lenW]<;>omega)) only[Bool.not_eq_true,wW,wV,simprocAttr]
      refine⟨i+1,by omega,⟨by omega,fun j y hj hy=>?_⟩,⟨[],rfl,au0,au11,au12⟩⟩
      by_cases e:j=i
      · subst e;rw[hx]at hy;cases hy;exact h0
      · exact hb j y (by omega) hy
  · have h1 : l.all (fun x => !decide (x.2 = 0)) = true := by
      rw[List.all_eq_true]
      intro x hx
      obtain⟨j,hj,hjl⟩:=List.getElem_of_mem hx
      simpa using hb j x (by omega) (by rw[List.getElem?_eq_getElem hj,hjl])
    simp(disch:=first|omega|(simp only[lenW]<;>omega)) only[hlt,Bool.not_eq_true,wW,wV,simprocAttr]
    refine⟨.inr trivial,_,rfl,?_⟩
    unfold fst0
    rw[if_pos h1];rfl
def flt0 (l:List (Nat×Int)):List (Nat×Int):=l.filter fun t=> !(decide (t.2=0))
theorem QhL {l:List (Nat×Int)} {j:Nat} {v:Nat×Int} (h:l[j]?=some v):flt0 (l.take (j+1))=if v.2=0 then flt0 (l.take j)else flt0 (l.take j)++[v]:=by
 unfold flt0
 rw[List.take_add_one,h,Option.toList,List.filter_append]
 by_cases hv:v.2=0<;>simp[hv]
def delT (l:List (Nat×Int)):List (Nat×Int):=flt0 l++List.replicate (l.length-(flt0 l).length) (0,0)
theorem Qna {l:List (Nat×Int)} (h:l.all (fun x=> !decide (x.2=0))=true):flt0 l=l:=by
 unfold flt0
 exact List.filter_eq_self.2 fun x hx=>List.all_eq_true.1 h x hx
theorem Qms {k:Nat}:(List.replicate k [AV.int .i64 0,AV.int .i64 0]).flatten=(List.replicate k ((0,0):Nat×Int)).flatMap teC:=by
 induction k with
 |zero=>rfl
 |succ k ih=>rw[List.replicate_succ,List.flatten_cons,ih];rfl
theorem QgO:∀{l:List (Nat×Int)} {i:Nat},(l.flatMap teC).take (i*2)=(l.take i).flatMap teC
 |[],i=>by simp
 |a::l,0=>by simp
 |a::l,i+1=>by
  rw[List.flatMap_cons,List.take_succ_cons,List.flatMap_cons,<-QgO,Nat.succ_mul]
  simp[teC]
theorem del93 (l : List (Nat × Int)) (hl : l.length <= 1000000) :
    HSpec Tryz.prog 93 [.sl 97 0 0 l.length 2,.fn 94 [] []] (hp [(97,.cells 0 (l.flatMap teC))]) (.sl 97 0 0 (flt0 l).length 2) (hp [(97,.cells 0 ((delT l).flatMap teC))]):=by
  refine HSpec.Qkp (m:=98) 100 ok93 rfl rfl ?_
  have hn:=QbV l
  simp(disch:=first|omega|(simp only[lenW]<;>omega)) only[s93,Bool.not_eq_true,wW,wV,simprocAttr]
  refine chc (HSpec.lend (FrzL.cons (FrzTo.all gg hn) (FrzL.cons (FrzTo.same _) FrzL.nil)) (index186 l hl) rfl) ?_
  by_cases hall:l.all (fun x=> !decide (x.2=0))=true
  · have e1 : fst0 l = -1 := if_pos hall
    simp(disch:=first|omega|(simp only[lenW]<;>omega)) only[e1,Bool.not_eq_true,wW,wV,simprocAttr]
    refine⟨.inr trivial,_,rfl,?_⟩
    unfold delT;rw[Qna hall,Nat.sub_self,List.replicate_zero,List.append_nil]
    exact⟨[(97,.nil)],rfl,au0,au11,au12⟩
  have e1:fst0 l=(l.findIdx (fun x=>decide (x.2=0)):Int):=if_neg hall
  have hex:∃x∈l,decide (x.2=0)=true:=by
    have:¬∀x∈l,(!decide (x.2=0))=true:=fun h=>hall (List.all_eq_true.2 h)
    obtain⟨x,hx⟩:=Classical.not_forall.1 this
    obtain⟨hx,hy⟩:=Classical.not_imp.1 hx
    exact⟨x,hx,by simpa using hy⟩
  have hi0:l.findIdx (fun x=>decide (x.2=0))<l.length:=List.findIdx_lt_length_of_exists hex
  obtain⟨i0,hI⟩:∃i0,i0=l.findIdx (fun x=>decide (x.2=0)):=⟨_,rfl⟩
  rw[<-hI]at e1 hi0
  have hv0:(l[i0]).2=0:=by
    have:=List.findIdx_getElem (w:=by rw[<-hI];exact hi0) (xs:=l) (p:=fun x=>decide (x.2=0))
    simp only[<-hI]at this
    simpa using this
  have hlow:flt0 (l.take i0)=l.take i0:=by
    unfold flt0
    refine List.filter_eq_self.2 fun x hx=>?_
    obtain⟨j,hj,rfl⟩:=List.getElem_of_mem hx
    rw[List.length_take]at hj
    have:=List.not_of_lt_findIdx (xs:=l) (p:=fun x=>decide (x.2=0)) (i:=j) (by rw[<-hI];omega)
    rw[List.getElem_take]
    simpa using this
  have hst:flt0 (l.take (i0+1))=l.take i0:=by
    rw[QhL (List.getElem?_eq_getElem hi0),if_pos hv0,hlow]
  have hne:¬(i0:Int)= -1:=by omega
  simp(disch:=first|omega|(simp only[lenW]<;>omega)) only[e1,hne,Bool.not_eq_true,wW,wV,simprocAttr]
  refine Qat 110 (fun t:Nat×Nat×List (Nat×Int)=>[(0,.sl 97 0 0 l.length 2),(1,.fn 94 [] []),(5,.int .i64 t.2.1),(6,.int .i64 t.1)])
    (fun t=>[(97,.cells 0 (t.2.2.flatMap teC))]) (fun t=>t.1<=l.length/\t.2.1<t.1/\t.2.2.length=l.length/\t.2.2.take t.2.1=flt0 (l.take t.1)/\t.2.2.drop t.1=l.drop t.1) (fun t=>l.length-t.1)
    (i0+1,i0,l) ⟨[(97,.nil)],rfl,au0,au11,au12⟩ ⟨by dsimp only;omega,by dsimp only;omega,rfl,hst.symm,rfl⟩ ?_
  rintro⟨j,i,C⟩ ⟨hj,hij,hC,hT,hD⟩
  dsimp only at hj hij hC hT hD⊢
  have hCl:=QbV C
  by_cases hlt:j<l.length
  · obtain ⟨v, hv⟩ := Qak hlt
    have hvC:C[j]?=some v:=by
      have:(C.drop j)[0]?=(l.drop j)[0]?:=by rw[hD]
      simpa[hv]using this
    have hs:=QhL hv
    have hn2:=zero94 v
    have g1:j*2+2<=l.length*2:=by omega
    have g2:i*2+2<=l.length*2:=by omega
    by_cases hm:v.2=0
    · have e2 : decide (v.2 = 0) = true := by simp [hm]
      rw[e2]at hn2
      rw[if_pos hm]at hs
      simp(disch:=first|omega|(simp only[lenW]<;>omega)) only[hlt,hC,hCl,g1,Qcd hvC,Bool.not_eq_true,wW,wV,simprocAttr]
      refine chc (hn2.toH _) ?_
      simp(disch:=first|omega|(simp only[lenW]<;>omega)) only[Bool.not_eq_true,wW,wV,simprocAttr]
      refine⟨(j+1,i,C),by dsimp only;omega,⟨by dsimp only;omega,by dsimp only;omega,hC,by rw[hs];exact hT,?_⟩,?_⟩
      · dsimp only
        have:=congrArg (List.drop 1) hD
        simpa[List.drop_drop]using this
      · exact⟨[(97,.nil)],rfl,au0,au11,au12⟩
    · have e2 : decide (v.2 = 0) = false := by simp [hm]
      rw[e2]at hn2
      rw[if_neg hm]at hs
      simp(disch:=first|omega|(simp only[lenW]<;>omega)) only[hlt,hC,hCl,g1,Qcd hvC,Bool.not_eq_true,wW,wV,simprocAttr]
      refine chc (hn2.toH _) ?_
      have hil:i<l.length:=by omega
      simp(disch:=first|omega|(simp only[lenW]<;>omega)) only[hil,hC,hCl,g2,Qmr (l:=C) (i:=i) (x:=v) (by omega),Bool.not_eq_true,wW,wV,simprocAttr]
      refine⟨(j+1,i+1,C.set i v),by dsimp only;omega,⟨by dsimp only;omega,by dsimp only;omega,by simp[hC],?_,?_⟩,?_⟩
      · dsimp only
        rw[hs,<-hT,List.take_add_one,List.getElem?_set_self (by omega),List.take_set,List.set_eq_of_length_le (by rw[List.length_take];omega)];rfl
      · dsimp only
        rw[List.drop_set_of_lt (by omega)]
        have:=congrArg (List.drop 1) hD
        simpa[List.drop_drop]using this
      · exact⟨[(97,.nil)],rfl,au0,au11,au12⟩
  · have ej : j = l.length := by omega
    subst ej
    rw[List.take_length]at hT
    have hil:(i:Int)<=(l.length:Int):=by omega
    simp(disch:=first|omega|(simp only[lenW]<;>omega)) only[hlt,hil,Bool.not_eq_true,wW,wV,simprocAttr]
    refine Qi0 gg (by omega) (by rw[hCl,hC];omega) rfl (by decide) (by decide) ?_
    simp(disch:=first|omega|(simp only[lenW]<;>omega)) only[hil,Bool.not_eq_true,wW,wV,simprocAttr]
    refine⟨.inr trivial,_,rfl,?_⟩
    have hfl:(flt0 l).length=i:=by rw[<-hT,List.length_take];omega
    have hput:putR (C.flatMap teC) (i*2) (List.replicate (l.length-i) [AV.int .i64 0,AV.int .i64 0]).flatten=(delT l).flatMap teC:=by
      rw[QdE (by rw[hCl,hC];omega),Qms,QgO,hT]
      unfold delT
      rw[hfl,List.flatMap_append,List.drop_of_length_le (by rw[hCl,hC,QbV,List.length_replicate];omega),List.append_nil]
    rw[hfl,hput]
    exact⟨[(97,.nil)],rfl,au0,au11,au12⟩
end Go.AM.SU
namespace Go.AM.SO
open Go.Proofs Go.AM.SD Go.AM.SE
theorem convB1 {P:Program} {N:NM} {d:Option Nat} {r:List SOper} {dead:List Nat} {fs:List Fr} {n:Nat} {T:Tmps} {h:Heap} {Q:QC} {b g x:Nat} (hb:h.get b=some (.cells g [.int .u8 (x:Int)]))
  (hk:wR P N r dead fs (n+1) (putD T d (.str [UInt8.ofNat x])) h Q):wM P N (aConvB (.sl b g 0 1 1)) d r dead fs n T h Q:=by
 refine⟨_,h,?_,hk⟩
 have hg:Nat.beq g g=true:=by simp
 simp[aConvB,aSrc,HM.cells,HM.run,hb,hg,bytesOf]
theorem Qco (F:List Nat) (i:Nat):noRefs (evP F i)=true:=by
 unfold evP
 exact QaK (fun j=>rfl) _
theorem _root_.Go.AM.au13 {p:Prop} (h:p:=by repeat (first|exact RT.nil|(refine RT.cons ?_ ?_; · (first|exact Rn.any|exact Rn.x1 rfl rfl|exact Rn.x2 rfl rfl|exact Rn.x3 rfl rfl|exact Rn.x4 rfl rfl|exact Rn.x5 rfl|exact Rn.x6 rfl|exact Rn.x7 rfl|(refine Rn.slot ?_ ?_;(first|rfl|(rw[Int.natCast_add];rfl));(first|rfl|(simp only[noRef,noRefs,Qah,Bool.and_self,Bool.and_true,Bool.true_and,Qaa,Qaw,Qac,Qar];done)))|(refine Rn.fn ?_ ?_<;>(repeat' (first|exact RnL.nil|refine RnL.cons ?_ ?_|exact Rn.same rfl|exact Rn.x6 rfl|exact Rn.x2 rfl rfl|exact Rn.x5 rfl|exact Rn.x1 rfl rfl))))))):p:=h
theorem events88 (F : List Nat) (hF : F.length = 5) (h256 : ∀ i, F.getD i 0 < 256) : PSpec Tryz.prog 88 [.agg (u8s F)] (.fsl (evP F 5) 5 5) := by
  refine PSpec.of_rn 64 ok88 rfl (by simp only[noRefs,noRef,Qar];rfl) (by simp only[noRef];exact Qco _ _) ?_
  simp(disch:=first|omega|exact PairsOK.mk rfl|(simp only[lenW]<;>omega)) only[s88,wW,wV,simprocAttr]
  refine Qat 100 (fun i:Nat=>[(1,.ptr 64 0 0),(3,.sl 50 0 0 i 5),(4,.int .i64 i)]) (fun i=>[(50,.cells 0 (evP F i)),(64,.cells 0 (u8s F))]) (fun i=>i<=5) (fun i=>5-i) 0 ⟨[(50,.nil),(64,.blk 64 0)],rfl,au0,?_,au13⟩ (Nat.zero_le _) ?_
  · exact RB.newnil rfl rfl (RB.cells rfl rfl rfl (RnL.same (Qar _)) RB.nil)
  rintro i hi
  by_cases hlt:i<5
  · have hlt2 : (i : Int) < 5 := by omega
    have hu:(u8s F)[i]?=some (.int .u8 ((F.getD i 0:Nat):Int)):=Qgt (by rw[List.getElem?_eq_getElem (by omega)];simp[List.getD,List.getElem?_eq_getElem (show i<F.length by omega)])
    have hb:=h256 i
    have hs:=@Qi7 F i
    have hl:=@QgL F i
    generalize F.getD i 0=b at hu hb hs
    have e97:wr .u8 ((97:Int)+(i:Int))=((97+i:Nat):Int):=by rw[wr_u8 (by omega) (by omega)];omega
    simp(disch:=first|omega|exact PairsOK.mk rfl|(simp only[lenW]<;>omega)) only[hlt2,hu,hl,e97,QmP,wW,wV,simprocAttr]
    refine convB1 gg ?_
    have k1:((97+i:Nat):Int)=((97+i:Nat):Int):=rfl
    by_cases h48:48<=b/\b<52
    · have k2 : (48 : Int) <= (b : Int) := by omega
      have k3:(b:Int)<52:=by omega
      have k4:(b:Int)-47=((b-47:Nat):Int):=by omega
      have ev:evP F i++[.str [UInt8.ofNat (97+i)],.bool false,.bool false,.bool false,.int .i64 ((b-47:Nat):Int)]=evP F (i+1):=by
        rw[hs];simp[evC,evOf,h48]
      simp(disch:=first|omega|exact PairsOK.mk rfl|(simp only[lenW]<;>omega)) only[hlt2,hu,hl,k2,k3,k4,wW,wV,simprocAttr]
      refine⟨i+1,by omega,by omega,?_⟩
      rw[ev]
      refine⟨[(50,.blk 50 1),(64,.blk 64 0)],rfl,au0,?_,au13⟩
      exact RB.cells rfl rfl gg (RnL.same (Qco _ _)) (RB.cells rfl rfl gg (RnL.same (Qar _)) RB.nil)
    · have ev : evP F i ++ [.str [UInt8.ofNat (97 + i)], .bool (decide (b &&& 1 = 1)), .bool (decide (b &&& 2 = 2)), .bool (decide (b &&& 4 = 4)), .int .i64 0] = evP F (i + 1) := by
        rw[hs];simp[evC,evOf,h48]
      have d1:decide (((b&&&1:Nat):Int)=1)=decide (b&&&1=1):=decide_eq_decide.2 (by omega)
      have d2:decide (((b&&&2:Nat):Int)=2)=decide (b&&&2=2):=decide_eq_decide.2 (by omega)
      have d4:decide (((b&&&4:Nat):Int)=4)=decide (b&&&4=4):=decide_eq_decide.2 (by omega)
      have a1:=Qmk hb
      have a2:=Qml hb
      have a4:=Qmm hb
      by_cases h5:48<=b
      · have k3 : (48 : Int) <= (b : Int) := by omega
        have k4:¬(b:Int)<52:=by omega
        simp(disch:=first|omega|exact PairsOK.mk rfl|(simp only[lenW]<;>omega)) only[hlt2,hu,hl,k3,k4,a1,a2,a4,d1,d2,d4,wW,wV,simprocAttr]
        refine⟨i+1,by omega,by omega,?_⟩
        rw[ev]
        refine⟨[(50,.blk 50 1),(64,.blk 64 0)],rfl,au0,?_,au13⟩
        exact RB.cells rfl rfl gg (RnL.same (Qco _ _)) (RB.cells rfl rfl gg (RnL.same (Qar _)) RB.nil)
      · have k3 : ¬ (48 : Int) <= (b : Int) := by omega
        simp(disch:=first|omega|exact PairsOK.mk rfl|(simp only[lenW]<;>omega)) only[hlt2,hu,hl,k3,a1,a2,a4,d1,d2,d4,wW,wV,simprocAttr]
        refine⟨i+1,by omega,by omega,?_⟩
        rw[ev]
        refine⟨[(50,.blk 50 1),(64,.blk 64 0)],rfl,au0,?_,au13⟩
        exact RB.cells rfl rfl gg (RnL.same (Qco _ _)) (RB.cells rfl rfl gg (RnL.same (Qar _)) RB.nil)
  · have hlt2 : ¬ (i : Int) < 5 := by omega
    have e:i=5:=by omega
    subst e
    simp(disch:=first|omega|exact PairsOK.mk rfl|(simp only[lenW]<;>omega)) only[hlt2,wW,wV,simprocAttr]
    refine⟨.inr trivial,_,rfl,?_⟩
    exact Rn.fz0 rfl QgL (RnL.same (Qco _ _))
end Go.AM.SO
namespace Go.AM.ST
open Go.Proofs Go.AM.SD
noncomputable section
def bitsL (s:Nat):List Nat:=(List.range 5).filter fun i=>s.testBit i
def isV (v:AV) (u:AV):Bool:=eqAV u v
theorem Qmt {v:AV}:∀u,isV v u=true->u=v:=fun u h=>QcZ _ _ h
def unionB (a b:Nat):Bool:=callR ansB noOrc SK.ft.get (exR ansB noOrc SK.ft.get 1000) (.c .pure) 90 [sliN (bitsL a),sliN (bitsL b)] .e 64 (fun u _ _=>isV (sliN (bitsL (a|||b))) u)
theorem Qnb {a b:Nat} (h:unionB a b=true):PSpec Tryz.prog 90 [sliN (bitsL a),sliN (bitsL b)] (sliN (bitsL (a|||b))):=
 QbA (t:=SK.ft) SK.ft_ok Qdm (d:=1000) (isV _) Qmt h
end
end Go.AM.ST
namespace Go.AM.ST
open Go.Proofs Go.AM.SD
noncomputable section
def rowB (a n:Nat):Bool:=@Nat.rec (fun _=>Bool) true (fun b ih=>ifB (unionB a b) ih false) n
theorem row_1:rowB 1 32=true:=by kernel_rfl
theorem row_2:rowB 2 32=true:=by kernel_rfl
theorem row_3:rowB 3 32=true:=by kernel_rfl
theorem row_4:rowB 4 32=true:=by kernel_rfl
theorem row_5:rowB 5 32=true:=by kernel_rfl
theorem row_6:rowB 6 32=true:=by kernel_rfl
theorem row_7:rowB 7 32=true:=by kernel_rfl
theorem row_8:rowB 8 32=true:=by kernel_rfl
theorem row_9:rowB 9 32=true:=by kernel_rfl
theorem Qok:rowB 10 32=true:=by kernel_rfl
theorem Qol:rowB 11 32=true:=by kernel_rfl
theorem Qom:rowB 12 32=true:=by kernel_rfl
theorem Qon:rowB 13 32=true:=by kernel_rfl
theorem Qoo:rowB 14 32=true:=by kernel_rfl
theorem Qop:rowB 15 32=true:=by kernel_rfl
theorem Qoq:rowB 16 32=true:=by kernel_rfl
theorem Qor:rowB 17 32=true:=by kernel_rfl
theorem Qos:rowB 18 32=true:=by kernel_rfl
theorem Qot:rowB 19 32=true:=by kernel_rfl
theorem Qou:rowB 20 32=true:=by kernel_rfl
theorem Qov:rowB 21 32=true:=by kernel_rfl
theorem Qow:rowB 22 32=true:=by kernel_rfl
theorem Qox:rowB 23 32=true:=by kernel_rfl
theorem Qoy:rowB 24 32=true:=by kernel_rfl
theorem Qoz:rowB 25 32=true:=by kernel_rfl
theorem QoA:rowB 26 32=true:=by kernel_rfl
theorem QoB:rowB 27 32=true:=by kernel_rfl
theorem QoC:rowB 28 32=true:=by kernel_rfl
theorem QoD:rowB 29 32=true:=by kernel_rfl
theorem QoE:rowB 30 32=true:=by kernel_rfl
theorem QoF:rowB 31 32=true:=by kernel_rfl
theorem Qmu {a:Nat}:∀{n b:Nat},rowB a n=true->b<n->unionB a b=true
 |0,_,_,h=>absurd h (Nat.not_lt_zero _)
 | n + 1, b, hr, hb => by
  have e:rowB a (n+1)=ifB (unionB a n) (rowB a n) false:=rfl
  rw[e,Qan]at hr
  split at hr
  ·rename_i h
   rcases Nat.lt_succ_iff_lt_or_eq.1 hb with h1|rfl
   ·exact Qmu hr h1
   ·exact h
  ·cases hr
theorem Qk7 {a b:Nat} (ha:0<a) (ha2:a<32) (hb:b<32):PSpec Tryz.prog 90 [sliN (bitsL a),sliN (bitsL b)] (sliN (bitsL (a|||b))):=by
 have h:rowB a 32=true:=by
  have:a=1\/a=2\/a=3\/a=4\/a=5\/a=6\/a=7\/a=8\/a=9\/a=10\/a=11\/a=12\/a=13\/a=14\/a=15\/a=16\/a=17\/a=18\/a=19\/a=20\/a=21\/a=22\/a=23\/a=24\/a=25\/a=26\/a=27\/a=28\/a=29\/a=30\/a=31:=by omega
  rcases this with rfl|rfl|rfl|rfl|rfl|rfl|rfl|rfl|rfl|rfl|rfl|rfl|rfl|rfl|rfl|rfl|rfl|rfl|rfl|rfl|rfl|rfl|rfl|rfl|rfl|rfl|rfl|rfl|rfl|rfl|rfl
  ·exact row_1
  ·exact row_2
  ·exact row_3
  ·exact row_4
  ·exact row_5
  ·exact row_6
  ·exact row_7
  ·exact row_8
  ·exact row_9
  ·exact Qok
  ·exact Qol
  ·exact Qom
  ·exact Qon
  ·exact Qoo
  ·exact Qop
  ·exact Qoq
  ·exact Qor
  ·exact Qos
  ·exact Qot
  ·exact Qou
  ·exact Qov
  ·exact Qow
  ·exact Qox
  ·exact Qoy
  ·exact Qoz
  ·exact QoA
  ·exact QoB
  ·exact QoC
  ·exact QoD
  ·exact QoE
  ·exact QoF
 exact Qnb (Qmu h hb)
end
end Go.AM.ST
namespace Go.AM.ST
open Go.Proofs Go.AM.SD Go.AM.SE
noncomputable section
def allV (a:Nat):AV:=if a=0 then .nilsl else sliN (bitsL a)
def unionN (b:Nat):Bool:=callR ansB noOrc SK.ft.get (exR ansB noOrc SK.ft.get 1000) (.c .pure) 90 [.nilsl,sliN (bitsL b)] .e 64 (fun u _ _=>isV (allV b) u)
theorem Qmv {b:Nat} (h:unionN b=true):PSpec Tryz.prog 90 [.nilsl,sliN (bitsL b)] (allV b):=
 QbA (t:=SK.ft) SK.ft_ok Qdm (d:=1000) (isV _) Qmt h
def rowN (n:Nat):Bool:=@Nat.rec (fun _=>Bool) true (fun b ih=>ifB (unionN b) ih false) n
theorem Qnc:rowN 32=true:=by kernel_rfl
theorem Qkv:∀{n b:Nat},rowN n=true->b<n->unionN b=true
 |0,_,_,h=>absurd h (Nat.not_lt_zero _)
 | n + 1, b, hr, hb => by
  have e:rowN (n+1)=ifB (unionN n) (rowN n) false:=rfl
  rw[e,Qan]at hr
  split at hr
  ·rename_i h
   rcases Nat.lt_succ_iff_lt_or_eq.1 hb with h1|rfl
   ·exact Qkv hr h1
   ·exact h
  ·cases hr
theorem Qmw (b:Nat):SD.part 5 b=bitsL (b % 32):=by
 unfold bitsL SD.part
 apply List.filter_congr
 intro x hx
 have:=List.mem_range.1 hx
 rw[show 32=2^5 from rfl,Nat.testBit_mod_two_pow]
 simp[this]
theorem union90 {a b:Nat} (ha:a<32):PSpec Tryz.prog 90 [allV a,sliN (SD.part 5 b)] (allV (a|||b % 32)):=by
 rw[Qmw]
 have hb:b % 32<32:=Nat.mod_lt _ (by decide)
 by_cases h0:a=0
 ·subst h0
  rw[Nat.zero_or]
  exact Qmv (Qkv Qnc hb)
 ·have h1 : ¬ (a ||| b % 32) = 0 := fun e => h0 (Nat.or_eq_zero_iff.1 e).1
  unfold allV
  rw[if_neg h0,if_neg h1]
  exact Qk7 (by omega) ha hb
end
end Go.AM.ST
namespace Go.AM.SU
open Go.Proofs Go.AM.SD Go.AM.SE Go.AM.SO
theorem Qce (l:List Nat):(u8s l).length=l.length:=by simp[u8s]
theorem graph91 (al:List Nat) (st mk:Nat) (T:List Nat) (hs:al.Pairwise (· < ·)) (h5:∀x∈al,x<5) (hst:st<256) (hmk:mk<256) (hT:T.length=25) (hT8:∀x∈T,x<256):
  PSpec Tryz.prog 91 [sliN al,grV st mk T,.int .i64 3] (aV (mkA al (st % 3) mk T)):=by
 refine PSpec.of_rn 40 ok91 rfl (by(try simp only[noRefs,Qaa,Qar,noRef,noRefs,Qac,Qay,Bool.and_self,Bool.and_true])<;>rfl) (Qcy _) ?_
 have hM:=Make32 al (st % 3) mk T hs h5 (by omega) hmk hT hT8
 have hlu:(u8s T).length=25:=by rw[Qce,hT]
 have htk:(u8s T).take 25=u8s T:=by rw[<-hlu,List.take_length]
 have htm:(st:Int).tmod 3=((st % 3:Nat):Int):=by rw[Int.tmod_eq_emod_of_nonneg (Int.natCast_nonneg _)];norm_cast
 have hone:(u8s T).all AV.one=true:=by
  have:∀l:List Nat,(u8s l).all AV.one=true:=fun l=>by
   induction l with
   |nil=>rfl
   |cons x l ih=>show(AV.one _&&(u8s l).all AV.one)=true;rw[ih];rfl
  exact this T
 simp(disch:=first|omega|(simp only[lenW]<;>omega)) only[s91,hlu,htk,htm,hone,Bool.not_eq_true,wW,wV,simprocAttr]
 refine cp hM ?_
 generalize mkA al (st % 3) mk T=A at*
 simp(disch:=first|omega|(simp only[lenW]<;>omega)) only[hone,hlu,Bool.not_eq_true,wW,wV,simprocAttr]
 refine⟨.inr trivial,_,rfl,?_⟩
 exact Rn.same (Qcy _)
theorem Qee {i:Nat} (hi:i<10):aConvS (.int .i32 (48+(i:Int)))=some (.str [UInt8.ofNat (48+i)]):=by
 have:i=0\/i=1\/i=2\/i=3\/i=4\/i=5\/i=6\/i=7\/i=8\/i=9:=by omega
 rcases this with rfl|rfl|rfl|rfl|rfl|rfl|rfl|rfl|rfl|rfl<;>rfl
theorem _root_.Go.AM.au14 {p:Prop} (h:p:=by repeat' (first|exact RB.nil|(refine RnL.same ?_;first|rfl|(simp only[noRef,noRefs,Qah,Bool.and_self,Bool.and_true,Bool.true_and,Qaa,Qar,Qaw,Qac,Qay];done))|exact RnM.keyM rfl|exact RnL.nil|exact(True.intro:RnM _ _ _ [] [])|refine RnL.cons ?_ ?_|(refine Rn.same ?_;first|rfl|(simp only[noRef,noRefs,Qah,Bool.and_self,Bool.and_true,Bool.true_and,Qaa,Qar,Qaw,Qac,Qay];done))|exact Rn.x1 rfl rfl|exact Rn.x2 rfl rfl|exact Rn.x3 rfl rfl|exact Rn.x4 rfl rfl|exact Rn.x5 rfl|exact Rn.x6 rfl|exact Rn.x7 rfl|refine RB.newnil rfl rfl ?_|refine RB.cells rfl rfl rfl ?_ ?_|refine RB.map rfl rfl rfl ?_ ?_|refine RB.cellsB rfl rfl ?_ ?_|refine RB.mapB rfl rfl ?_ ?_)):p:=h
theorem _root_.Go.AM.au15 {p:Prop} (h:p:=by repeat (first|exact RT.nil|(refine RT.cons ?_ ?_; · (first|exact Rn.any|exact Rn.x1 rfl rfl|exact Rn.x2 rfl rfl|exact Rn.x3 rfl rfl|exact Rn.x4 rfl rfl|exact Rn.x5 rfl|exact Rn.x6 rfl|exact Rn.x7 rfl|(refine Rn.slot ?_ ?_;(first|rfl|(rw[Int.natCast_add];rfl));(first|rfl|(simp only[noRef,noRefs,Qah,Bool.and_self,Bool.and_true,Bool.true_and,Qaa,Qar,Qaw,Qac,Qay];done)))|(refine Rn.fn ?_ ?_<;>(repeat' (first|exact RnL.nil|refine RnL.cons ?_ ?_|exact Rn.same rfl|exact Rn.x6 rfl|exact Rn.x2 rfl rfl|exact Rn.x5 rfl|exact Rn.x1 rfl rfl))))))):p:=h
theorem events89 (s:Nat) (hs:s<256):HSpec Tryz.prog 89 [.int .u8 s] .e (.sl 98 0 0 (SD.part 5 s).length 1) (hp [(98,.cells 0 (ints (nz (SD.part 5 s))))]):=by
  refine HSpec.QeJ 64 ok89 rfl ?_
  simp(disch:=first|omega|(simp only[lenW]<;>omega)) only[s89,Bool.not_eq_true,wW,wV,simprocAttr]
  refine Qat 100 (fun i:Nat=>[(0,.int .u8 s),(3,.sl 50 0 0 (SD.part i s).length 1),(4,.int .i64 i)]) (fun i=>[(50,.cells 0 (ints (nz (SD.part i s))))]) (fun i=>i<=5) (fun i=>5-i) 0 ⟨[(50,.nil)],rfl,au0,au14,au15⟩ (Nat.zero_le _) ?_
  rintro i hi
  have hpl:=@Qcz i s
  by_cases hlt:i<5
  · have hlt2 : (i : Int) < 5 := by omega
    by_cases h0:s.testBit i=true
    · have hb := Qc3.2 h0
      have hp:=QcO (n:=5) (b:=s) (i:=i)
      rw[if_pos h0]at hp
      simp(disch:=first|omega|(simp only[lenW]<;>omega)) only[hlt2,Qca (k:= .u8) (show i<=8 by omega),Qcb,hb,Bool.not_eq_true,wW,wV,simprocAttr]
      refine⟨i+1,by omega,by omega,?_⟩
      rw[hp,QaH,QaD,List.length_append]
      exact⟨[(50,.blk 50 1)],rfl,au0,au14,au15⟩
    · have hb : ¬ ((s / 2 ^ i % 2 : Nat) : Int) = 1 := fun e => h0 (Qc3.1 e)
      have hp:=QcO (n:=5) (b:=s) (i:=i)
      rw[if_neg h0,List.append_nil]at hp
      simp(disch:=first|omega|(simp only[lenW]<;>omega)) only[hlt2,Qca (k:= .u8) (show i<=8 by omega),Qcb,hb,Bool.not_eq_true,wW,wV,simprocAttr]
      refine⟨i+1,by omega,by omega,?_⟩
      rw[hp]
      exact⟨[(50,.blk 50 0)],rfl,au0,au14,au15⟩
  · have hlt2 : ¬ (i : Int) < 5 := by omega
    have e:i=5:=by omega
    subst e
    simp(disch:=first|omega|(simp only[lenW]<;>omega)) only[hlt2,Bool.not_eq_true,wW,wV,simprocAttr]
    refine⟨.inr trivial,_,rfl,?_⟩
    exact⟨[(98,.blk 50 0)],rfl,au0,au14,au15⟩
theorem del40F {A l:List Nat} {h:Heap} (hA:A.length<=1000000) (hl:l.length<=1000000) (h75:h.get 75=some (.cells 0 [sliN A])) (h98:h.get 98=some (.cells 0 (ints (nz l)))):
  HSpec Tryz.prog 40 [.sl 98 0 0 l.length 1,.fn 92 [] [.ptr 75 0 0]] h (sliN (fltN A l)) ((h.set 98 (.cells 0 (ints (nz (delL A l))))).set 98 (.dead 0)):=by
 have h1:=HSpec.frameB (del40 A l hA hl) (OnlyD.cons (OnlyD.sl (.inr rfl)) (OnlyD.cons (OnlyD.fn OnlyD.nil (OnlyD.cons (OnlyD.ptr (.inl rfl)) OnlyD.nil)) OnlyD.nil)) (OnlyD.sl (.inr rfl))
  (by simp only[noRefs,noRef,Qaa];rfl) (Qaa _) (Qaa _) h75 h98 (by decide) rfl rfl
 have hle:(fltN A l).length*1<=(ints (nz (delL A l))).length:=by simp[ints,delL]
 have h2:=HSpec.freeze (ds:=ints (nz (delL A l))) h1 (by rw[QaP (by decide)]) (Ql7 _) hle rfl
 have e:(ints (nz (delL A l))).take ((fltN A l).length*1)=ints (nz (fltN A l)):=by
  rw[Nat.mul_one]
  unfold delL
  rw[QaH,QaD,List.take_append_of_le_length (by simp[ints]),List.take_of_length_le (by simp[ints])]
 rw[e]at h2
 exact h2
theorem QnS (l:List (Nat×Int)):flatVs (l.flatMap teC)=true:=by
 induction l with
 |nil=>rfl
 |cons x l ih=>rw[List.flatMap_cons];exact ih
theorem del93F {l:List (Nat×Int)} {h:Heap} (hl:l.length<=1000000) (h97:h.get 97=some (.cells 0 (l.flatMap teC))):
  HSpec Tryz.prog 93 [.sl 97 0 0 l.length 2,.fn 94 [] []] h (tes (flt0 l)) ((h.set 97 (.cells 0 ((delT l).flatMap teC))).set 97 (.dead 0)):=by
 have h1:=HSpec.frameA (del93 l hl) (OnlyD.cons (OnlyD.sl rfl) (OnlyD.cons (OnlyD.same rfl) OnlyD.nil)) (OnlyD.sl rfl) (Qay _) (Qay _) h97 rfl
 have hle:(flt0 l).length*2<=((delT l).flatMap teC).length:=by rw[QbV];simp[delT];omega
 have h2:=HSpec.freeze (ds:=(delT l).flatMap teC) h1 (by rw[QaP (by decide)]) (QnS _) hle rfl
 have e:((delT l).flatMap teC).take ((flt0 l).length*2)=(flt0 l).flatMap teC:=by
  rw[QgO]
  unfold delT
  rw[List.take_left]
 rw[e]at h2
 exact h2
end Go.AM.SU
namespace Go.AM.SU
open Go.Proofs Go.AM.SD Go.AM.SE Go.AM.SO
theorem Qkw:∀l:List Nat,(u8s l).all AV.one=true
 |[]=>rfl
 |x::l=>by show(AV.one _&&(u8s l).all AV.one)=true;rw[Qkw l];rfl
section
variable {p:Pln}
theorem Qmx {l:List Nat} {k:Nat} (h:k<l.length):(u8s l)[k]?=some (.int .u8 ((l.getD k 0:Nat):Int)):=by
 refine Qgt ?_
 rw[List.getElem?_eq_getElem h,List.getD_eq_getElem?_getD,List.getElem?_eq_getElem h];rfl
theorem QeR (h:POk p):(plnC p).length=152:=by
 show(u8s p.L++_).length=152
 rw[List.length_append,Qce,h.L];rfl
theorem QoG (h:POk p) {k:Nat} (hk:k<147):(plnC p)[k]?=some (.int .u8 ((p.L.getD k 0:Nat):Int)):=by
 show(u8s p.L++_)[k]?=_
 rw[List.getElem?_append_left (by rw[Qce,h.L];exact hk),Qmx (by rw[h.L];exact hk)]
theorem QdQ (h:POk p) {k:Nat}:(plnC p)[147+k]?=([.fsl (u8s p.X) p.xn 4,.int .i8 p.f0,.int .i8 p.f1,.int .i8 p.f2,.int .i8 p.bd]:List AV)[k]?:=by
 show(u8s p.L++_)[147+k]?=_
 rw[List.getElem?_append_right (by rw[Qce,h.L];omega),Qce,h.L]
 congr 1;omega
theorem Qjb (h:POk p) {k m:Nat} (hk:k+m<=147):((plnC p).drop k).take m=u8s ((p.L.drop k).take m):=by
 show((u8s p.L++_).drop k).take m=_
 rw[List.drop_append_of_le_length (by rw[Qce,h.L];omega),List.take_append_of_le_length (by rw[List.length_drop,Qce,h.L];omega)]
 simp[u8s,List.map_drop,List.map_take]
theorem QoH (h:POk p) {k:Nat} (hk:k+27<=147):((plnC p).drop k).take 27= .int .u8 ((p.L.getD k 0:Nat):Int):: .int .u8 ((p.L.getD (k+1) 0:Nat):Int)::u8s ((p.L.drop (k+2)).take 25):=by
 have hl:=h.L
 rw[Qjb h hk]
 have e:(p.L.drop k).take 27=p.L.getD k 0::p.L.getD (k+1) 0::(p.L.drop (k+2)).take 25:=by
  rw[List.getD_eq_getElem?_getD,List.getD_eq_getElem?_getD,List.getElem?_eq_getElem (show k<p.L.length by omega),List.getElem?_eq_getElem (show k+1<p.L.length by omega)]
  rw[List.drop_eq_getElem_cons (show k<p.L.length by omega),List.take_succ_cons,List.drop_eq_getElem_cons (show k+1<p.L.length by omega),List.take_succ_cons];rfl
 rw[e];rfl
theorem L_lt (h:POk p) (k:Nat):p.L.getD k 0<256:=by
 rw[List.getD_eq_getElem?_getD]
 cases e:p.L[k]? with
 |none=>decide
 |some x=>exact h.L8 x (List.mem_of_getElem? e)
theorem X_lt (h:POk p) (k:Nat):p.X.getD k 0<256:=by
 rw[List.getD_eq_getElem?_getD]
 cases e:p.X[k]? with
 |none=>decide
 |some x=>exact h.X8 x (List.mem_of_getElem? e)
theorem pF_lt (h:POk p) (i:Nat): -128<=pF p i/\pF p i<128:=by
 unfold pF
 split
 ·exact h.f0
 ·split
  ·exact h.f1
  ·exact h.f2
theorem QeS (h:POk p):(plnC p).all AV.one=true:=by
 show(u8s p.L++_).all AV.one=true
 rw[List.all_append,Qkw];rfl
theorem Qef:noRefs (plnC p)=true:=by
 show noRefs (u8s p.L++_)=true
 rw[Qah,Qar]
 simp only[noRefs,noRef,Qar];rfl
theorem QnT (F:List Nat):AV.fsl (evP F 5) 5 5=evsV (fun i=>evOf (F.getD i 0)):=by
 congr 1
theorem Qmy (e:Nat->Evt):noRef (evsV e)=true:=rfl
theorem Qbi {ch:UInt8} (l:List (Nat×Aut)):noRefs (l.flatMap (itC ch))=true:=QaK (fun x=>by simp only[itC,noRefs,noRef,Qaa,Qad];rfl) l
theorem Qaq {ch:UInt8} (l:List (Nat×Aut)):noRef (its ch l)=true:=by simp only[noRef];exact Qbi l
theorem QnU {p:Pln} {i:Nat}:fltN (ST.bitsL (pAll p (pN p))) (SD.part 5 (p.L.getD (91+i) 0))=pW p i:=by
 unfold fltN pW
 apply List.filter_congr
 intro x hx
 have:=partLt x hx
 show decide (x∈(List.range 5).filter _)=_
 simp[this]
theorem QaR (l:List (Nat×Nat)):noRefs (l.flatMap loC)=true:=QaK (fun _=>rfl) l
theorem Qdx (l:List (Nat×Nat)):noRef (los l)=true:=by simp only[noRef];exact QaR l
theorem QdR (l:List (Nat×Nat)):(l.flatMap loC).length=l.length*2:=QbM (k:=2) (fun _=>rfl) l
theorem QaJ (l:List (Nat×List (Nat×Nat))):noRefs (l.flatMap exC)=true:=QaK (fun x=>by simp only[exC,noRefs,noRef,QaR];rfl) l
theorem Qa9 (l:List (Nat×List (Nat×Nat))):noRef (exs l)=true:=by simp only[noRef];exact QaJ l
theorem QcP (l:List (Nat×List (Nat×Nat))):(l.flatMap exC).length=l.length*2:=QbM (k:=2) (fun _=>rfl) l
theorem QcQ (l:List (Nat×Int)):noRef (tes l)=true:=by simp only[noRef];exact Qay l
theorem Qbo (l:List (List (Nat×Int)×Int)):noRefs (l.flatMap coC)=true:=QaK (fun x=>by simp only[coC,noRefs,noRef,Qay];rfl) l
theorem QhM (l:List (List (Nat×Int)×Int)):noRef (cos l)=true:=by simp only[noRef];exact Qbo l
theorem QeT {ch:UInt8} {l:List (Nat×Aut)} {i:Nat} {x:Nat×Aut} (h:l[i]?=some x):(l.flatMap (itC ch)).drop (i*5)= .str [ch,UInt8.ofNat (48+x.1)]::sliN x.2.al:: .int .i64 (x.2.n:Int)::sliN x.2.ms::egsN x.2.es::(l.drop (i+1)).flatMap (itC ch):=Qbh (f:=itC ch) (k:=5) (fun _=>rfl) h
theorem QnV {X:List Nat} {i:Nat} (h:i*4+4<=X.length):((u8s X).drop (i*4)).take 4=[.int .u8 ((X.getD (i*4) 0:Nat):Int),.int .u8 ((X.getD (i*4+1) 0:Nat):Int),.int .u8 ((X.getD (i*4+2) 0:Nat):Int),.int .u8 ((X.getD (i*4+3) 0:Nat):Int)]:=by
  have g:∀k,k<4->X.getD (i*4+k) 0=X[i*4+k]!:=fun k hk=>by
    rw[List.getD_eq_getElem?_getD,List.getElem!_eq_getElem?_getD];rfl
  apply List.ext_getElem?
  intro j
  by_cases hj:j<4
  · rw [List.getElem?_take_of_lt hj, List.getElem?_drop, Qmx (by omega)]
    have:j=0\/j=1\/j=2\/j=3:=by omega
    rcases this with rfl|rfl|rfl|rfl<;>rfl
  · rw[List.getElem?_eq_none (by rw[List.length_take];omega),List.getElem?_eq_none (by simp;omega)]
theorem Qba (c:Cel):noRef (celV c)=true:=by
 rw[celV,noRef,noRefs,noRefs,noRefs,noRefs,noRefs,Qmy,Qaq,Qaq,Qa9,QhM];rfl
theorem QcW {s:List UInt8} {a:Aut}:noRefs [.str s,sliN a.al,.int .i64 (a.n:Int),sliN a.ms,egsN a.es]=true:=by simp only[noRefs,noRef,Qaa,Qad];rfl
theorem Qa3 {x y:List AV} (hx:noRefs x=true) (hy:noRefs y=true):noRefs (x++y)=true:=by rw[Qah,hx,hy];rfl
theorem Qmz {ch:UInt8} {i:Nat} {a:Aut}:List.flatMap (itC ch) [(i,a)]=[.str [ch,UInt8.ofNat (48+i)],sliN a.al,.int .i64 (a.n:Int),sliN a.ms,egsN a.es]:=rfl
theorem QcR {ch:UInt8} (l:List (Nat×Aut)):(l.flatMap (itC ch)).length=l.length*5:=QbM (k:=5) (fun _=>rfl) l
theorem Qnd {i:Nat}:pCs p (i+1)=pCs p i++[(i,pA p i)]:=by
 unfold pCs;rw[List.range_succ,List.map_append];rfl
theorem Qne {i:Nat}:pRs p (i+1)=pRs p i++[(i,pR p i)]:=by
 unfold pRs;rw[List.range_succ,List.map_append];rfl
theorem QgP {i:Nat}:(pCs p i).length=i:=by simp[pCs]
theorem Qkx {i:Nat}:(pRs p i).length=i:=by simp[pRs]
theorem Qky:∀{i:Nat},pAll p i<32
 |0=>by show 0<32;decide
 |i+1=>Nat.or_lt_two_pow (n:=5) Qky (Nat.mod_lt _ (by decide))
end
theorem Qk8 (a:Nat):(ST.allV a).cells=[ST.allV a]:=by unfold ST.allV;split<;>rfl
theorem Qnf (a:Nat):(ST.allV a).one=true:=by unfold ST.allV;split<;>rfl
theorem QjG (a:Nat):noRefs [ST.allV a]=true:=by
 unfold ST.allV
 split
 ·rfl
 ·simp only[noRefs,noRef,Qaa];rfl
theorem Make26 (p : Pln) (h : POk p) : PSpec Tryz.prog 26 [plnV p] (celV (mkC p)) := by
  refine PSpec.of_rn 40 ok26 rfl (by simp only[noRefs,noRef,Qef];rfl) (Qba _) ?_
  have hlen:=QeR h
  have hone:=QeS h
  have hnr:=@Qef p
  have h5:(plnC p).take 5=u8s (p.L.take 5):=by simpa using Qjb h (k:=0) (m:=5) (by omega)
  have hev:=events88 (p.L.take 5) (by rw[List.length_take,h.L];rfl) (fun i=>by
    rw[List.getD_eq_getElem?_getD]
    cases e:(p.L.take 5)[i]? with
    |none=>decide
    |some x=>exact h.L8 x (List.mem_of_mem_take (List.mem_of_getElem? e)))
  rw[QnT]at hev
  have hat:∀{k},k<147->(plnC p)[k]?=some (.int .u8 ((p.L.getD k 0:Nat):Int)):=fun hk=>QoG h hk
  have a5:=hat (k:=5) (by omega)
  have a90:=hat (k:=90) (by omega)
  have a147:(plnC p)[147]?=some (.fsl (u8s p.X) p.xn 4):=QdQ h (k:=0)
  have aF:∀i,i<3->(plnC p)[148+i]?=some (.int .i8 (pF p i)):=by
    intro i hi
    have:i=0\/i=1\/i=2:=by omega
    rcases this with rfl|rfl|rfl
    · exact QdQ h (k:=1)
    · exact QdQ h (k:=2)
    · exact QdQ h (k:=3)
  have a151:(plnC p)[151]?=some (.int .i8 p.bd):=QdQ h (k:=4)
  have hgr:∀{k},k+27<=147->((plnC p).drop k).take 27=_:=fun hk=>QoH h hk
  show wS _ _ _ _ _ (argT 0 [.agg (plnC p)]) _ _
  generalize plnC p=C at*
  have htm:((p.L.getD 5 0:Nat):Int).tmod 3=((p.L.getD 5 0 % 3:Nat):Int):=by rw[Int.tmod_eq_emod_of_nonneg (Int.natCast_nonneg _)];norm_cast
  have hn:(1:Int)+((p.L.getD 5 0 % 3:Nat):Int)=(pN p:Int):=by unfold pN;omega
  have hn3:=@pN_le p
  simp(disch:=first|omega|(simp only[lenW]<;>omega)) only[s26,hlen,hone,h5,Bool.not_eq_true,wW,wV,simprocAttr]
  refine cp hev ?_
  simp(disch:=first|omega|(simp only[lenW]<;>omega)) only[a5,htm,hn,Bool.not_eq_true,wW,wV,simprocAttr]
  refine Qax 100 (fun i:Nat=>[(1,.ptr 50 0 0),(2,.ptr 51 0 0),(3,.ptr 52 0 0),(4,.ptr 75 0 0),(5,.int .i64 (pN p:Int)),(26,.int .i64 (pN p:Int)),(27,.int .i64 i)])
    (fun i=>[(50,.cells 0 C),(51,.cells 0 [.nilsl,.nilsl,.nilsl,.nilsl,.nilsl]),(52,.cells 0 [evsV (fun i=>evOf ((p.L.take 5).getD i 0)),.sl 76 0 0 (pCs p i).length 5,.nilsl,.nilsl,.nilsl]),(75,.cells 0 [ST.allV (pAll p i)]),(76,.cells 0 ((pCs p i).flatMap (itC 99)))])
    (fun i=>i<=pN p) (fun i=>pN p-i) 0 0 200
    (fun _:Unit=>[(1,.ptr 50 0 0),(2,.ptr 51 0 0),(3,.ptr 52 0 0),(4,.ptr 75 0 0),(5,.int .i64 (pN p:Int))])
    (fun _=>[(50,.cells 0 C),(51,.cells 0 [.nilsl,.nilsl,.nilsl,.nilsl,.nilsl]),(52,.cells 0 [evsV (fun i=>evOf ((p.L.take 5).getD i 0)),its 99 (pCs p (pN p)),.nilsl,.nilsl,.nilsl]),(75,.cells 0 [sliN (ST.bitsL (pAll p (pN p)))])]) (fun _=>True) ?_ (Nat.zero_le _) ?_ ?_
  · refine ⟨[(50, .blk 40 0), (51, .blk 41 0), (52, .blk 46 0), (75, .blk 48 0), (76, .nil)], rfl, au0, ?_, au15⟩
    exact RB.cells rfl rfl gg (RnL.same hnr) (RB.cells rfl rfl gg (RnL.same rfl) (RB.cells rfl rfl gg (RnL.cons (Rn.same rfl) (RnL.cons (Rn.x4 rfl rfl) (RnL.same rfl))) (RB.cells rfl rfl gg (RnL.same rfl) (RB.newnil rfl rfl RB.nil))))
  · rintro i hi
    by_cases hlt:i<pN p
    · have hi3 : (i : Int) < 3 := by omega
      have a6:=hat (k:=6+i) (by omega)
      have hE:=events16 (p.L.getD (6+i) 0) (L_lt h _)
      have hU:=ST.union90 (a:=pAll p i) (b:=p.L.getD (6+i) 0) Qky
      have hg:=hgr (k:=9+i*27) (by omega)
      have hG:=graph91 (SD.part 5 (p.L.getD (6+i) 0)) (p.L.getD (9+i*27) 0) (p.L.getD (9+i*27+1) 0) ((p.L.drop (9+i*27+2)).take 25) (QcG _ _) partLt (L_lt h _) (L_lt h _) (by rw[List.length_take,List.length_drop,h.L];omega) (fun x hx=>h.L8 x (List.mem_of_mem_drop (List.mem_of_mem_take hx)))
      have hA:mkA (SD.part 5 (p.L.getD (6+i) 0)) (p.L.getD (9+i*27) 0 % 3) (p.L.getD (9+i*27+1) 0) ((p.L.drop (9+i*27+2)).take 25)=pA p i:=rfl
      rw[hA]at hG
      have hB:pAll p i|||p.L.getD (6+i) 0 % 32=pAll p (i+1):=rfl
      rw[hB]at hU
      have hsuc:=@Qnd p i
      have hil:=@QcR 99 (pCs p i)
      have hpl:=@QgP p i
      simp(disch:=first|omega|(simp only[lenW]<;>omega)) only[hlt,hi3,a6,hlen,Bool.not_eq_true,wW,wV,simprocAttr]
      refine cp hE ?_
      simp(disch:=first|omega|(simp only[lenW]<;>omega)) only[Bool.not_eq_true,wW,wV,simprocAttr]
      refine cp hU ?_
      have hs:=Qee (i:=i) (by omega)
      have hg27:9+i*27+27<=152:=by omega
      simp(disch:=first|omega|(simp only[lenW]<;>omega)) only[hlt,hi3,hlen,hs,Qde,Qk8,Qnf,hg27,hg,Bool.not_eq_true,wW,wV,simprocAttr]
      refine cp hG ?_
      simp(disch:=first|omega|(simp only[lenW]<;>omega)) only[hil,hpl,Bool.not_eq_true,wW,wV,simprocAttr]
      refine⟨i+1,by omega,by omega,?_⟩
      rw[hsuc,List.flatMap_append,List.length_append,hpl,Qmz]
      refine⟨[(50,.blk 50 0),(51,.blk 51 0),(52,.blk 52 0),(75,.blk 75 0),(76,.blk 76 1)],rfl,au0,?_,au15⟩
      exact RB.cells rfl rfl gg (RnL.same hnr) (RB.cells rfl rfl gg (RnL.same rfl) (RB.cells rfl rfl gg (RnL.cons (Rn.same rfl) (RnL.cons (Rn.x1 rfl rfl) (RnL.same rfl))) (RB.cells rfl rfl gg (RnL.same (QjG _)) (RB.cells rfl rfl gg (RnL.same (Qa3 (Qbi _) QcW)) RB.nil))))
    · have e : i = pN p := by omega
      subst e
      have hil:=@QcR 99 (pCs p (pN p))
      have hpl:=@QgP p (pN p)
      simp(disch:=first|omega|(simp only[lenW]<;>omega)) only[hlt,Bool.not_eq_true,wW,wV,simprocAttr]
      refine⟨(),?_⟩
      refine⟨[(50,.blk 50 0),(51,.blk 51 0),(52,.blk 52 0),(75,.blk 75 0)],rfl,au0,?_,au15⟩
      refine RB.cells rfl rfl gg (RnL.same hnr) (RB.cells rfl rfl gg (RnL.same rfl) (RB.cells rfl rfl gg (RnL.cons (Rn.same rfl) (RnL.cons (Rn.fzm rfl rfl rfl rfl (QcR _) (RnL.same (Qbi _))) (RnL.same rfl))) (RB.cells rfl rfl gg (RnL.cons ?_ RnL.nil) RB.nil)))
      unfold ST.allV
      split
      · rename_i h0;rw[h0];exact Rn.nilK
      · exact Rn.same (Qac _)
  rintro _ _
  have htm90:((p.L.getD 90 0:Nat):Int).tmod 3=(pM p:Int):=by rw[Int.tmod_eq_emod_of_nonneg (Int.natCast_nonneg _)];unfold pM;norm_cast
  have hm2:=@pM_le p
  simp(disch:=first|omega|(simp only[lenW]<;>omega)) only[a90,htm90,Bool.not_eq_true,wW,wV,simprocAttr]
  refine Qax 100 (fun i:Nat=>[(1,.ptr 50 0 0),(2,.ptr 51 0 0),(3,.ptr 52 0 0),(4,.ptr 75 0 0),(5,.int .i64 (pN p:Int)),(59,.int .i64 (pM p:Int)),(60,.int .i64 i)])
    (fun i=>[(50,.cells 0 C),(51,.cells 0 [.nilsl,.nilsl,.nilsl,.nilsl,.nilsl]),(52,.cells 0 [evsV (fun i=>evOf ((p.L.take 5).getD i 0)),its 99 (pCs p (pN p)),.sl 77 0 0 (pRs p i).length 5,.nilsl,.nilsl]),(75,.cells 0 [sliN (ST.bitsL (pAll p (pN p)))]),(77,.cells 0 ((pRs p i).flatMap (itC 114)))])
    (fun i=>i<=pM p) (fun i=>pM p-i) 0 2 200
    (fun _:Unit=>[(1,.ptr 50 0 0),(2,.ptr 51 0 0),(3,.ptr 52 0 0),(5,.int .i64 (pN p:Int))])
    (fun _=>[(50,.cells 0 C),(51,.cells 0 [.nilsl,.nilsl,.nilsl,.nilsl,.nilsl]),(52,.cells 0 [evsV (fun i=>evOf ((p.L.take 5).getD i 0)),its 99 (pCs p (pN p)),its 114 (pRs p (pM p)),.nilsl,.nilsl])]) (fun _=>True) ?_ (Nat.zero_le _) ?_ ?_
  · refine ⟨[(50, .blk 50 0), (51, .blk 51 0), (52, .blk 52 0), (75, .blk 75 0), (77, .nil)], rfl, au0, ?_, au15⟩
    exact RB.cells rfl rfl gg (RnL.same hnr) (RB.cells rfl rfl gg (RnL.same rfl) (RB.cells rfl rfl gg (RnL.cons (Rn.same rfl) (RnL.cons (Rn.same (Qaq _)) (RnL.cons (Rn.x4 rfl rfl) (RnL.same rfl)))) (RB.cells rfl rfl gg (RnL.cons (Rn.same (Qac _)) RnL.nil) (RB.newnil rfl rfl RB.nil))))
  · rintro i hi
    by_cases hlt:i<pM p
    · have hi3 : (i : Int) < 2 := by omega
      have a6:=hat (k:=91+i) (by omega)
      have hE:=events89 (p.L.getD (91+i) 0) (L_lt h _)
      have hg:=hgr (k:=93+i*27) (by omega)
      have hG:=graph91 (pW p i) (p.L.getD (93+i*27) 0) (p.L.getD (93+i*27+1) 0) ((p.L.drop (93+i*27+2)).take 25) (QhK _) (pW_lt _) (L_lt h _) (L_lt h _) (by rw[List.length_take,List.length_drop,h.L];omega) (fun x hx=>h.L8 x (List.mem_of_mem_drop (List.mem_of_mem_take hx)))
      have hA:mkA (pW p i) (p.L.getD (93+i*27) 0 % 3) (p.L.getD (93+i*27+1) 0) ((p.L.drop (93+i*27+2)).take 25)=pR p i:=rfl
      rw[hA]at hG
      have hsuc:=@Qne p i
      have hil:=@QcR 114 (pRs p i)
      have hpl:=@Qkx p i
      have hs:=Qee (i:=i) (by omega)
      have hg27:93+i*27+27<=152:=by omega
      have hW:fltN (ST.bitsL (pAll p (pN p))) (SD.part 5 (p.L.getD (91+i) 0))=pW p i:=QnU
      have hbl:(ST.bitsL (pAll p (pN p))).length<=1000000:=Nat.le_trans (Qcz (i:=5)) (by decide)
      have hpl5:(SD.part 5 (p.L.getD (91+i) 0)).length<=1000000:=Nat.le_trans (Qcz (i:=5)) (by decide)
      generalize ST.bitsL (pAll p (pN p))=A at*
      simp(disch:=first|omega|(simp only[lenW]<;>omega)) only[hlt,hi3,a6,hlen,Bool.not_eq_true,wW,wV,simprocAttr]
      refine ch (HSpec.of_O (b:=98) (by(try simp only[noRefs,Qaa,Qar,noRef,noRefs,Qac,Qay,Bool.and_self,Bool.and_true])<;>rfl) hE (by repeat (first|exact Fresh.e|exact Fresh.le (by assumption) (by omega)|refine Fresh.set ?_ (by omega) (by omega))) rfl) ?_
      simp(disch:=first|omega|(simp only[lenW]<;>omega)) only[Bool.not_eq_true,wW,wV,simprocAttr]
      refine chc (del40F hbl hpl5 gg gg) ?_
      rw[hW]
      simp(disch:=first|omega|(simp only[lenW]<;>omega)) only[hlt,hi3,hlen,hs,hg27,hg,Bool.not_eq_true,wW,wV,simprocAttr]
      refine cp hG ?_
      simp(disch:=first|omega|(simp only[lenW]<;>omega)) only[hil,hpl,Bool.not_eq_true,wW,wV,simprocAttr]
      refine⟨i+1,by omega,by omega,?_⟩
      rw[hsuc,List.flatMap_append,List.length_append,hpl,Qmz]
      refine⟨[(50,.blk 50 0),(51,.blk 51 0),(52,.blk 52 0),(75,.blk 75 0),(77,.blk 77 1)],rfl,au0,?_,au15⟩
      exact RB.cells rfl rfl gg (RnL.same hnr) (RB.cells rfl rfl gg (RnL.same rfl) (RB.cells rfl rfl gg (RnL.cons (Rn.same rfl) (RnL.cons (Rn.same (Qaq _)) (RnL.cons (Rn.x1 rfl rfl) (RnL.same rfl)))) (RB.cells rfl rfl gg (RnL.cons (Rn.same (Qac _)) RnL.nil) (RB.cells rfl rfl gg (RnL.same (Qa3 (Qbi _) QcW)) RB.nil))))
    · have e : i = pM p := by omega
      subst e
      have hil:=@QcR 114 (pRs p (pM p))
      have hpl:=@Qkx p (pM p)
      simp(disch:=first|omega|(simp only[lenW]<;>omega)) only[hlt,Bool.not_eq_true,wW,wV,simprocAttr]
      refine⟨(),?_⟩
      refine⟨[(50,.blk 50 0),(51,.blk 51 0),(52,.blk 52 0)],rfl,au0,?_,au15⟩
      exact RB.cells rfl rfl gg (RnL.same hnr) (RB.cells rfl rfl gg (RnL.same rfl) (RB.cells rfl rfl gg (RnL.cons (Rn.same rfl) (RnL.cons (Rn.same (Qaq _)) (RnL.cons (Rn.fzm rfl rfl rfl rfl (QcR _) (RnL.same (Qbi _))) (RnL.same rfl)))) RB.nil))
  rintro _ _
  simp(disch:=first|omega|(simp only[lenW]<;>omega)) only[a147,Bool.not_eq_true,wW,wV,simprocAttr]
  refine Qax 100 (fun i:Nat=>[(1,.ptr 50 0 0),(2,.ptr 51 0 0),(3,.ptr 52 0 0),(5,.int .i64 (pN p:Int)),(89,.fsl (u8s p.X) p.xn 4),(90,.int .i64 (p.xn:Int)),(91,.int .i64 i)])
    (fun i=>[(50,.cells 0 C),(51,.cells 0 [.nilsl,.nilsl,.nilsl,.nilsl,.nilsl]),(52,.cells 0 [evsV (fun i=>evOf ((p.L.take 5).getD i 0)),its 99 (pCs p (pN p)),its 114 (pRs p (pM p)),.sl 78 0 0 (pXs p i).length 2,.nilsl]),(78,.cells 0 ((pXs p i).flatMap exC))])
    (fun i=>i<=p.xn/\i<=2) (fun i=>p.xn-i) 0 4 200
    (fun _:Unit=>[(1,.ptr 50 0 0),(2,.ptr 51 0 0),(3,.ptr 52 0 0),(5,.int .i64 (pN p:Int))])
    (fun _=>[(50,.cells 0 C),(51,.cells 0 [.nilsl,.nilsl,.nilsl,.nilsl,.nilsl]),(52,.cells 0 [evsV (fun i=>evOf ((p.L.take 5).getD i 0)),its 99 (pCs p (pN p)),its 114 (pRs p (pM p)),exs (pXs p (min p.xn 2)),.nilsl])]) (fun _=>True) ?_ ⟨Nat.zero_le _,Nat.zero_le _⟩ ?_ ?_
  · refine ⟨[(50, .blk 50 0), (51, .blk 51 0), (52, .blk 52 0), (78, .nil)], rfl, au0, ?_, au15⟩
    exact RB.cells rfl rfl gg (RnL.same hnr) (RB.cells rfl rfl gg (RnL.same rfl) (RB.cells rfl rfl gg (RnL.cons (Rn.same rfl) (RnL.cons (Rn.same (Qaq _)) (RnL.cons (Rn.same (Qaq _)) (RnL.cons (Rn.x4 rfl rfl) (RnL.same rfl))))) (RB.newnil rfl rfl RB.nil)))
  · rintro i ⟨hi, hi2⟩
    have hxl:=@QcP (pXs p i)
    have hxx:=@QgM p i
    by_cases hlt:i<p.xn
    · have hX := h.X
      have h4:=QnV (X:=p.X) (i:=i) (by omega)
      have hul:i*4+4<=(u8s p.X).length:=by rw[Qce,hX];omega
      have hdl:4<=((u8s p.X).drop (i*4)).length:=by rw[List.length_drop];omega
      by_cases h2:i=2
      · subst h2
        have hi2':(2:Int)<(p.xn:Int):=by omega
        simp(disch:=first|omega|(simp only[lenW]<;>omega)) only[hlt,h4,hdl,hi2',Bool.not_eq_true,wW,wV,simprocAttr]
        refine⟨(),?_⟩
        rw[show min p.xn 2=2 by omega]
        refine⟨[(50,.blk 50 0),(51,.blk 51 0),(52,.blk 52 0)],rfl,au0,?_,au15⟩
        exact RB.cells rfl rfl gg (RnL.same hnr) (RB.cells rfl rfl gg (RnL.same rfl) (RB.cells rfl rfl gg (RnL.cons (Rn.same rfl) (RnL.cons (Rn.same (Qaq _)) (RnL.cons (Rn.same (Qaq _)) (RnL.cons (Rn.fzm rfl rfl rfl rfl (QcP _) (RnL.same (QaJ _))) (RnL.same rfl))))) RB.nil))
      have h2':¬(i:Int)=2:=by omega
      have hs:=Qee (i:=i) (by omega)
      simp(disch:=first|omega|(simp only[lenW]<;>omega)) only[hlt,h4,hdl,h2',hs,Bool.not_eq_true,wW,wV,simprocAttr]
      obtain⟨Y,hYe⟩:∃Y,Y=[AV.int .u8 ((p.X.getD (i*4) 0:Nat):Int),.int .u8 ((p.X.getD (i*4+1) 0:Nat):Int),.int .u8 ((p.X.getD (i*4+2) 0:Nat):Int),.int .u8 ((p.X.getD (i*4+3) 0:Nat):Int)]:=⟨_,rfl⟩
      have hYn:noRefs Y=true:=by rw[hYe];rfl
      have hYk:∀k,k<3->Y[k]?=some (.int .u8 ((p.X.getD (i*4+k) 0:Nat):Int)):=by
        intro k hk
        have:k=0\/k=1\/k=2:=by omega
        rcases this with rfl|rfl|rfl<;>rw[hYe]<;>rfl
      have hpl:=@QgP p (pN p)
      have hilC:=@QcR 99 (pCs p (pN p))
      rw[<-hYe,hpl]
      refine Qax 220 (fun k:Nat=>[(1,.ptr 50 0 0),(2,.ptr 51 0 0),(3,.ptr 52 0 0),(5,.int .i64 (pN p:Int)),(11,.ptr 60 0 0),(12,.ptr 61 0 0),(89,.fsl (u8s p.X) p.xn 4),(90,.int .i64 (p.xn:Int)),(91,.int .i64 i),(106,.int .i64 (pN p:Int)),(107,.int .i64 k)])
        (fun k=>[(50,.cells 0 C),(51,.cells 0 [.nilsl,.nilsl,.nilsl,.nilsl,.nilsl]),(52,.cells 0 [evsV (fun i=>evOf ((p.L.take 5).getD i 0)),its 99 (pCs p (pN p)),its 114 (pRs p (pM p)),.sl 78 0 0 (pXs p i).length 2,.nilsl]),(60,.cells 0 Y),(61,.cells 0 [.str [101,UInt8.ofNat (48+i)],.sl 79 0 0 (pLo p i k).length 2]),(78,.cells 0 ((pXs p i).flatMap exC)),(79,.cells 0 ((pLo p i k).flatMap loC))])
        (fun k=>k<=pN p) (fun k=>pN p-k) 0 6 300
        (fun _:Unit=>[(1,.ptr 50 0 0),(2,.ptr 51 0 0),(3,.ptr 52 0 0),(5,.int .i64 (pN p:Int)),(12,.ptr 61 0 0),(89,.fsl (u8s p.X) p.xn 4),(90,.int .i64 (p.xn:Int)),(91,.int .i64 i)])
        (fun _=>[(50,.cells 0 C),(51,.cells 0 [.nilsl,.nilsl,.nilsl,.nilsl,.nilsl]),(52,.cells 0 [evsV (fun i=>evOf ((p.L.take 5).getD i 0)),its 99 (pCs p (pN p)),its 114 (pRs p (pM p)),.sl 78 0 0 (pXs p i).length 2,.nilsl]),(61,.cells 0 [.str [101,UInt8.ofNat (48+i)],los (pLo p i (pN p))]),(78,.cells 0 ((pXs p i).flatMap exC))]) (fun _=>True) ?_ (Nat.zero_le _) ?_ ?_
      · refine ⟨[(50, .blk 50 0), (51, .blk 51 0), (52, .blk 52 0), (60, .blk 104 0), (61, .blk 115 0), (78, .blk 78 0), (79, .nil)], rfl, au0, ?_, au15⟩
        exact RB.cells rfl rfl gg (RnL.same hnr) (RB.cells rfl rfl gg (RnL.same rfl) (RB.cells rfl rfl gg (RnL.cons (Rn.same rfl) (RnL.cons (Rn.same (Qaq _)) (RnL.cons (Rn.same (Qaq _)) (RnL.cons (Rn.x1 rfl rfl) (RnL.same rfl))))) (RB.cells rfl rfl gg (RnL.same hYn) (RB.cells rfl rfl gg (RnL.cons (Rn.same rfl) (RnL.cons (Rn.x4 rfl rfl) RnL.nil)) (RB.cells rfl rfl gg (RnL.same (QaJ _)) (RB.newnil rfl rfl RB.nil))))))
      · rintro k hk
        have hll:=@QdR (pLo p i k)
        have hlx:=@QgN p i k
        by_cases hkl:k<pN p
        · have hk3 : (k : Int) < 4 := by omega
          have hck:=Qmp (p:=p) hkl
          have hdr:=QeT (ch:=99) hck
          have hdl2:5<=(((pCs p (pN p)).flatMap (itC 99)).drop (k*5)).length:=by rw[hdr];simp
          have hy:=hYk k (by omega)
          have hx8:=X_lt h (i*4+k)
          have hn5:(pA p k).n<=3:=(pA_wf k).n3
          have hrm:((p.X.getD (i*4+k) 0:Nat):Int).tmod (((pA p k).n:Int)+2)=((p.X.getD (i*4+k) 0 % ((pA p k).n+2):Nat):Int):=by
            rw[Int.tmod_eq_emod_of_nonneg (Int.natCast_nonneg _)];norm_cast
          have hn0:¬((pA p k).n:Int)+2=0:=by omega
          have hxm:p.X.getD (i*4+k) 0 % ((pA p k).n+2)<=10:=by have:=Nat.mod_lt (p.X.getD (i*4+k) 0) (show 0<(pA p k).n+2 by omega);omega
          have hsuc:pLo p i (k+1)=if p.X.getD (i*4+k) 0 % ((pA p k).n+2)<(pA p k).n then pLo p i k++[(k,p.X.getD (i*4+k) 0 % ((pA p k).n+2))]else pLo p i k:=rfl
          by_cases ht:p.X.getD (i*4+k) 0 % ((pA p k).n+2)<(pA p k).n
          · rw [if_pos ht] at hsuc
            have hlo1:List.flatMap loC [(k,p.X.getD (i*4+k) 0 % ((pA p k).n+2))]=[.int .i64 (k:Int),.int .i64 ((p.X.getD (i*4+k) 0 % ((pA p k).n+2):Nat):Int)]:=rfl
            simp(disch:=first|omega|(simp only[lenW]<;>omega)) only[hkl,hk3,hdr,hdl2,hy,hrm,hn0,ht,hll,Bool.not_eq_true,wW,wV,simprocAttr]
            refine⟨k+1,by omega,by omega,?_⟩
            rw[hsuc,List.flatMap_append,List.length_append,hlo1]
            refine⟨[(50,.blk 50 0),(51,.blk 51 0),(52,.blk 52 0),(60,.blk 60 0),(61,.blk 61 0),(78,.blk 78 0),(79,.blk 79 1)],rfl,au0,?_,au15⟩
            exact RB.cells rfl rfl gg (RnL.same hnr) (RB.cells rfl rfl gg (RnL.same rfl) (RB.cells rfl rfl gg (RnL.cons (Rn.same rfl) (RnL.cons (Rn.same (Qaq _)) (RnL.cons (Rn.same (Qaq _)) (RnL.cons (Rn.x1 rfl rfl) (RnL.same rfl))))) (RB.cells rfl rfl gg (RnL.same hYn) (RB.cells rfl rfl gg (RnL.cons (Rn.same rfl) (RnL.cons (Rn.x1 rfl rfl) RnL.nil)) (RB.cells rfl rfl gg (RnL.same (QaJ _)) (RB.cells rfl rfl gg (RnL.same (Qa3 (QaR _) rfl)) RB.nil))))))
          · rw [if_neg ht] at hsuc
            simp(disch:=first|omega|(simp only[lenW]<;>omega)) only[hkl,hk3,hdr,hdl2,hy,hrm,hn0,ht,hll,Bool.not_eq_true,wW,wV,simprocAttr]
            refine⟨k+1,by omega,by omega,?_⟩
            rw[hsuc]
            refine⟨[(50,.blk 50 0),(51,.blk 51 0),(52,.blk 52 0),(60,.blk 60 0),(61,.blk 61 0),(78,.blk 78 0),(79,.blk 79 0)],rfl,au0,?_,au15⟩
            exact RB.cells rfl rfl gg (RnL.same hnr) (RB.cells rfl rfl gg (RnL.same rfl) (RB.cells rfl rfl gg (RnL.cons (Rn.same rfl) (RnL.cons (Rn.same (Qaq _)) (RnL.cons (Rn.same (Qaq _)) (RnL.cons (Rn.x1 rfl rfl) (RnL.same rfl))))) (RB.cells rfl rfl gg (RnL.same hYn) (RB.cells rfl rfl gg (RnL.cons (Rn.same rfl) (RnL.cons (Rn.x1 rfl rfl) RnL.nil)) (RB.cells rfl rfl gg (RnL.same (QaJ _)) (RB.cells rfl rfl gg (RnL.same (QaR _)) RB.nil))))))
        · have e : k = pN p := by omega
          subst e
          simp(disch:=first|omega|(simp only[lenW]<;>omega)) only[hkl,Bool.not_eq_true,wW,wV,simprocAttr]
          refine⟨(),?_⟩
          refine⟨[(50,.blk 50 0),(51,.blk 51 0),(52,.blk 52 0),(61,.blk 61 0),(78,.blk 78 0)],rfl,au0,?_,au15⟩
          exact RB.cells rfl rfl gg (RnL.same hnr) (RB.cells rfl rfl gg (RnL.same rfl) (RB.cells rfl rfl gg (RnL.cons (Rn.same rfl) (RnL.cons (Rn.same (Qaq _)) (RnL.cons (Rn.same (Qaq _)) (RnL.cons (Rn.x1 rfl rfl) (RnL.same rfl))))) (RB.cells rfl rfl gg (RnL.cons (Rn.same rfl) (RnL.cons (Rn.fzm rfl rfl rfl rfl (QdR _) (RnL.same (QaR _))) RnL.nil)) (RB.cells rfl rfl gg (RnL.same (QaJ _)) RB.nil))))
      rintro _ _
      have hsuc:pXs p (i+1)=if 0<(pLo p i (pN p)).length then pXs p i++[(i,pLo p i (pN p))]else pXs p i:=rfl
      have hlx:=@QgN p i (pN p)
      by_cases h0:0<(pLo p i (pN p)).length
      · rw [if_pos h0] at hsuc
        have hex1:List.flatMap exC [(i,pLo p i (pN p))]=[.str [101,UInt8.ofNat (48+i)],los (pLo p i (pN p))]:=rfl
        simp(disch:=first|omega|(simp only[lenW]<;>omega)) only[h0,hxl,Bool.not_eq_true,wW,wV,simprocAttr]
        refine⟨i+1,by omega,⟨by omega,by omega⟩,?_⟩
        rw[hsuc,List.flatMap_append,List.length_append,hex1]
        refine⟨[(50,.blk 50 0),(51,.blk 51 0),(52,.blk 52 0),(78,.blk 78 1)],rfl,au0,?_,au15⟩
        exact RB.cells rfl rfl gg (RnL.same hnr) (RB.cells rfl rfl gg (RnL.same rfl) (RB.cells rfl rfl gg (RnL.cons (Rn.same rfl) (RnL.cons (Rn.same (Qaq _)) (RnL.cons (Rn.same (Qaq _)) (RnL.cons (Rn.x1 rfl rfl) (RnL.same rfl))))) (RB.cells rfl rfl gg (RnL.same (Qa3 (QaJ _) (by simp only[noRefs,noRef,QaR];rfl))) RB.nil)))
      · rw [if_neg h0] at hsuc
        simp(disch:=first|omega|(simp only[lenW]<;>omega)) only[h0,hxl,Bool.not_eq_true,wW,wV,simprocAttr]
        refine⟨i+1,by omega,⟨by omega,by omega⟩,?_⟩
        rw[hsuc]
        refine⟨[(50,.blk 50 0),(51,.blk 51 0),(52,.blk 52 0),(78,.blk 78 0)],rfl,au0,?_,au15⟩
        exact RB.cells rfl rfl gg (RnL.same hnr) (RB.cells rfl rfl gg (RnL.same rfl) (RB.cells rfl rfl gg (RnL.cons (Rn.same rfl) (RnL.cons (Rn.same (Qaq _)) (RnL.cons (Rn.same (Qaq _)) (RnL.cons (Rn.x1 rfl rfl) (RnL.same rfl))))) (RB.cells rfl rfl gg (RnL.same (QaJ _)) RB.nil)))
    · have e : i = p.xn := by omega
      subst e
      simp(disch:=first|omega|(simp only[lenW]<;>omega)) only[hlt,Bool.not_eq_true,wW,wV,simprocAttr]
      refine⟨(),?_⟩
      rw[show min p.xn 2=p.xn by omega]
      refine⟨[(50,.blk 50 0),(51,.blk 51 0),(52,.blk 52 0)],rfl,au0,?_,au15⟩
      exact RB.cells rfl rfl gg (RnL.same hnr) (RB.cells rfl rfl gg (RnL.same rfl) (RB.cells rfl rfl gg (RnL.cons (Rn.same rfl) (RnL.cons (Rn.same (Qaq _)) (RnL.cons (Rn.same (Qaq _)) (RnL.cons (Rn.fzm rfl rfl rfl rfl (QcP _) (RnL.same (QaJ _))) (RnL.same rfl))))) RB.nil))
  rintro _ _
  have hb1:=Int.lt_tmod_of_pos p.bd (show(0:Int)<8 by decide)
  have hb2:=Int.tmod_lt_of_pos p.bd (show(0:Int)<8 by decide)
  have hbd:=h.bd
  have hf0:=h.f0
  have hf1:=h.f1
  have hf2:=h.f2
  simp(disch:=first|omega|(simp only[lenW]<;>omega)) only[a151,Bool.not_eq_true,wW,wV,simprocAttr]
  refine Qax 240 (fun i:Nat=>[(1,.ptr 50 0 0),(2,.ptr 51 0 0),(3,.ptr 52 0 0),(15,.ptr 62 0 0),(157,.int .i64 (pN p:Int)),(158,.int .i64 i)])
    (fun i=>[(50,.cells 0 C),(51,.cells 0 [.nilsl,.nilsl,.nilsl,.nilsl,.nilsl]),(52,.cells 0 [evsV (fun i=>evOf ((p.L.take 5).getD i 0)),its 99 (pCs p (pN p)),its 114 (pRs p (pM p)),exs (pXs p (min p.xn 2)),.nilsl]),(62,.cells 0 [.str [107],.sl 97 0 0 (pT p i).length 2,.int .i64 (p.bd.tmod 8)]),(97,.cells 0 ((pT p i).flatMap teC))])
    (fun i=>i<=pN p) (fun i=>pN p-i) 0 8 300
    (fun _:Unit=>[(2,.ptr 51 0 0),(3,.ptr 52 0 0),(15,.ptr 62 0 0)])
    (fun _=>[(51,.cells 0 [.nilsl,.nilsl,.nilsl,.nilsl,.nilsl]),(52,.cells 0 [evsV (fun i=>evOf ((p.L.take 5).getD i 0)),its 99 (pCs p (pN p)),its 114 (pRs p (pM p)),exs (pXs p (min p.xn 2)),.nilsl]),(62,.cells 0 [.str [107],.sl 97 0 0 (pT p (pN p)).length 2,.int .i64 (p.bd.tmod 8)]),(97,.cells 0 ((pT p (pN p)).flatMap teC))]) (fun _=>True) ?_ (Nat.zero_le _) ?_ ?_
  · refine ⟨[(50, .blk 50 0), (51, .blk 51 0), (52, .blk 52 0), (62, .blk 205 0), (97, .nil)], rfl, au0, ?_, au15⟩
    exact RB.cells rfl rfl gg (RnL.same hnr) (RB.cells rfl rfl gg (RnL.same rfl) (RB.cells rfl rfl gg (RnL.cons (Rn.same rfl) (RnL.cons (Rn.same (Qaq _)) (RnL.cons (Rn.same (Qaq _)) (RnL.cons (Rn.same (Qa9 _)) (RnL.same rfl))))) (RB.cells rfl rfl gg (RnL.cons (Rn.same rfl) (RnL.cons (Rn.x4 rfl rfl) (RnL.same rfl))) (RB.newnil rfl rfl RB.nil))))
  · rintro i hi
    have htl:=@QbV (pT p i)
    have htx:=@Qi9 p i
    by_cases hlt:i<pN p
    · have hi3 : (i : Int) < 3 := by omega
      have ha:=aF i (by omega)
      have hFb: -128<=pF p i/\pF p i<128:=pF_lt h i
      have hsuc:pT p (i+1)=if pF p i=0 then pT p i else pT p i++[(i,(pF p i).tmod 4)]:=rfl
      by_cases h0:pF p i=0
      · rw [if_pos h0] at hsuc
        simp(disch:=first|omega|(simp only[lenW]<;>omega)) only[hlt,hi3,hlen,ha,h0,Bool.not_eq_true,wW,wV,simprocAttr]
        refine⟨i+1,by omega,by omega,?_⟩
        rw[hsuc]
        refine⟨[(50,.blk 50 0),(51,.blk 51 0),(52,.blk 52 0),(62,.blk 62 0),(97,.blk 97 0)],rfl,au0,?_,au15⟩
        exact RB.cells rfl rfl gg (RnL.same hnr) (RB.cells rfl rfl gg (RnL.same rfl) (RB.cells rfl rfl gg (RnL.cons (Rn.same rfl) (RnL.cons (Rn.same (Qaq _)) (RnL.cons (Rn.same (Qaq _)) (RnL.cons (Rn.same (Qa9 _)) (RnL.same rfl))))) (RB.cells rfl rfl gg (RnL.cons (Rn.same rfl) (RnL.cons (Rn.x1 rfl rfl) (RnL.same rfl))) (RB.cells rfl rfl gg (RnL.same (Qay _)) RB.nil))))
      · rw [if_neg h0] at hsuc
        have hte1:List.flatMap teC [(i,(pF p i).tmod 4)]=[.int .i64 (i:Int),.int .i64 ((pF p i).tmod 4)]:=rfl
        simp(disch:=first|omega|(simp only[lenW]<;>omega)) only[hlt,hi3,hlen,ha,h0,htl,Bool.not_eq_true,wW,wV,simprocAttr]
        refine⟨i+1,by omega,by omega,?_⟩
        rw[hsuc,List.flatMap_append,List.length_append,hte1]
        refine⟨[(50,.blk 50 0),(51,.blk 51 0),(52,.blk 52 0),(62,.blk 62 0),(97,.blk 97 1)],rfl,au0,?_,au15⟩
        exact RB.cells rfl rfl gg (RnL.same hnr) (RB.cells rfl rfl gg (RnL.same rfl) (RB.cells rfl rfl gg (RnL.cons (Rn.same rfl) (RnL.cons (Rn.same (Qaq _)) (RnL.cons (Rn.same (Qaq _)) (RnL.cons (Rn.same (Qa9 _)) (RnL.same rfl))))) (RB.cells rfl rfl gg (RnL.cons (Rn.same rfl) (RnL.cons (Rn.x1 rfl rfl) (RnL.same rfl))) (RB.cells rfl rfl gg (RnL.same (Qa3 (Qay _) rfl)) RB.nil))))
    · have e : i = pN p := by omega
      subst e
      simp(disch:=first|omega|(simp only[lenW]<;>omega)) only[hlt,Bool.not_eq_true,wW,wV,simprocAttr]
      refine⟨(),?_⟩
      refine⟨[(51,.blk 51 0),(52,.blk 52 0),(62,.blk 62 0),(97,.blk 97 0)],rfl,au0,?_,au15⟩
      exact RB.cells rfl rfl gg (RnL.same rfl) (RB.cells rfl rfl gg (RnL.cons (Rn.same rfl) (RnL.cons (Rn.same (Qaq _)) (RnL.cons (Rn.same (Qaq _)) (RnL.cons (Rn.same (Qa9 _)) (RnL.same rfl))))) (RB.cells rfl rfl gg (RnL.cons (Rn.same rfl) (RnL.cons (Rn.x1 rfl rfl) (RnL.same rfl))) (RB.cells rfl rfl gg (RnL.same (Qay _)) RB.nil)))
  rintro _ _
  have hT0:flt0 (pT p (pN p))=pT0 p:=rfl
  have hpt:=@Qi9 p (pN p)
  simp(disch:=first|omega|(simp only[lenW]<;>omega)) only[Bool.not_eq_true,wW,wV,simprocAttr]
  refine chc (del93F (l:=pT p (pN p)) (by omega) gg) ?_
  rw[hT0]
  have htl0:(pT0 p).length<=3:=Nat.le_trans (List.length_filter_le _ _) (by omega)
  by_cases h0:0<(pT0 p).length
  · have hks : pKs p = [(pT0 p, p.bd.tmod 8)] := if_pos h0
    simp(disch:=first|omega|(simp only[lenW]<;>omega)) only[h0,Bool.not_eq_true,wW,wV,simprocAttr]
    refine⟨.inr trivial,_,rfl,?_⟩
    refine Rn.agg (RnL.cons (Rn.same rfl) (RnL.cons (Rn.same (Qaq _)) (RnL.cons (Rn.same (Qaq _)) (RnL.cons (Rn.same (Qa9 _)) (RnL.cons ?_ RnL.nil)))))
    show Rn 0 π0 _ (cos (pKs p)) _
    rw[hks]
    exact Rn.fz0 (b:=310) rfl rfl (RnL.cons (Rn.same rfl) (RnL.cons (Rn.same (QcQ _)) (RnL.cons (Rn.same rfl) RnL.nil)))
  · have hks : pKs p = [] := if_neg h0
    simp(disch:=first|omega|(simp only[lenW]<;>omega)) only[h0,Bool.not_eq_true,wW,wV,simprocAttr]
    refine⟨.inr trivial,_,rfl,?_⟩
    refine Rn.agg (RnL.cons (Rn.same rfl) (RnL.cons (Rn.same (Qaq _)) (RnL.cons (Rn.same (Qaq _)) (RnL.cons (Rn.same (Qa9 _)) (RnL.cons ?_ RnL.nil)))))
    show Rn 0 π0 _ (cos (pKs p)) _
    rw[hks]
    exact Rn.nilK
end Go.AM.SU
namespace Go.AM.SN
open Go.Proofs Go.AM.SD Go.AM.SE Go.AM.SO
noncomputable section
def is0:AV->Bool| .int .i64 n=>decide (n=0)|_=>false
theorem QoI:∀u,is0 u=true->u= .int .i64 0:=by
 intro u h
 unfold is0 at h
 split at h
 ·rename_i n;simp at h;rw[h]
 ·cases h
def nameR (s:List UInt8) (f:Nat) (X K:AV) (i:Int):Bool:=callR ansB noOrc SK.ft.get (exR ansB noOrc SK.ft.get 1000) (.c .pure) 102 [.str s,.fn f [] [.fptr [.any,X,K],.fptr [.int .i64 i]]] .e 64 (fun u _ _=>is0 u)
theorem Qng {s:List UInt8} {f:Nat} {X K:AV} {i:Int} (h:nameR s f X K i=true):PSpec Tryz.prog 102 [.str s,.fn f [] [.fptr [.any,X,K],.fptr [.int .i64 i]]] (.int .i64 0):=
 QbA (t:=SK.ft) SK.ft_ok Qdm (d:=1000) is0 QoI h
theorem e0_1:nameR [101,48] 101 (.fsl [.str [101,48],.any] 1 2) .any 0=true:=by kernel_rfl
theorem e1_1:nameR [101,49] 101 (.fsl [.str [101,49],.any] 1 2) .any 0=true:=by kernel_rfl
theorem e0_2:nameR [101,48] 101 (.fsl [.str [101,48],.any,.str [101,49],.any] 2 2) .any 0=true:=by kernel_rfl
theorem e1_2a:nameR [101,49] 101 (.fsl [.str [101,48],.fsl [.any,.any] 1 2,.str [101,49],.any] 2 2) .any 1=true:=by kernel_rfl
theorem e1_2b:nameR [101,49] 101 (.fsl [.str [101,48],.fsl [.any,.any,.any,.any] 2 2,.str [101,49],.any] 2 2) .any 1=true:=by kernel_rfl
theorem e1_2c:nameR [101,49] 101 (.fsl [.str [101,48],.fsl [.any,.any,.any,.any,.any,.any] 3 2,.str [101,49],.any] 2 2) .any 1=true:=by kernel_rfl
theorem k_1:nameR [107] 104 .any (.fsl [.str [107],.any,.any] 1 3) 0=true:=by kernel_rfl
def Wk (x y:AV):Prop:=∀(ok:Okc) (c:Ctx ok) (w:World) (v:Value),VRel c w x v->VRel c w y v
def WkL:List AV->List AV->Prop
 |[],[]=>True
 |x::xs,y::ys=>Wk x y/\WkL xs ys
 |_,_=>False
theorem Wk.refl (x:AV):Wk x x:=fun _ _ _ _ h=>h
theorem Wk.any {x:AV}:Wk x .any:=fun _ _ _ _ _=>by simp[VRel]
theorem WkL.rels {ok:Okc} {c:Ctx ok} {w:World}:∀{xs ys:List AV} {vs:List Value},WkL xs ys->VRels c w xs vs->VRels c w ys vs
 |[],[],_,_,hv=>hv
 |[],_::_,_,h,_=>h.elim
 |_::_,[],_,h,_=>h.elim
 |x::xs,y::ys,vs,h,hv=>by
  simp only[VRels]at hv⊢
  obtain⟨v,vs',rfl,h1,h2⟩:=hv
  exact⟨v,vs',rfl,h.1 _ c w v h1,WkL.rels h.2 h2⟩
theorem WkL.pre {ok:Okc} {c:Ctx ok} {w:World}:∀{xs ys:List AV} {vs:List Value},WkL xs ys->VPre c w xs vs->VPre c w ys vs
 |[],[],_,_,hv=>hv
 |[],_::_,_,h,_=>h.elim
 |_::_,[],_,h,_=>h.elim
 |x::xs,y::ys,vs,h,hv=>by
  simp only[VPre]at hv⊢
  obtain⟨v,vs',rfl,h1,h2⟩:=hv
  exact⟨v,vs',rfl,h.1 _ c w v h1,WkL.pre h.2 h2⟩
theorem WkL.length:∀{xs ys:List AV},WkL xs ys->xs.length=ys.length
 |[],[],_=>rfl
 |[],_::_,h=>h.elim
 |_::_,[],h=>h.elim
 |x::xs,y::ys,h=>by simp[WkL.length h.2]
theorem Wk.fsl {cs ds:List AV} {len sz:Nat} (h:WkL cs ds):Wk (.fsl cs len sz) (.fsl ds len sz):=fun _ c w v hv=>by
 simp only[VRel]at hv⊢
 have hl:=h.length
 rcases hv with⟨h1,rfl,h2⟩|⟨cb,off,cap,C,e,fr,h1,h2,h3,h4,h5,h6⟩
 ·refine .inl ⟨h1, ?_, h2⟩
  exact List.eq_nil_of_length_eq_zero (by rw[<-hl];rfl)
 ·exact .inr ⟨cb,off,cap,C,e,fr,h1,h2,by omega,h4,h5,h.pre h6⟩
theorem Wk.fptr {cs ds:List AV} (h:WkL cs ds):Wk (.fptr cs) (.fptr ds):=fun _ c w v hv=>by
 simp only[VRel]at hv⊢
 obtain⟨cb,off,C,e,fr,h1,h2,h3,h4⟩:=hv
 exact⟨cb,off,C,e,fr,h1,h2,h3,h.pre h4⟩
theorem Wk.fn {f:Nat} {xs ys us vs:List AV} (h1:WkL xs ys) (h2:WkL us vs):Wk (.fn f xs us) (.fn f ys vs):=fun _ c w v hv=>by
 simp only[VRel]at hv⊢
 obtain⟨x',y',rfl,g1,g2⟩:=hv
 exact⟨x',y',rfl,h1.rels g1,h2.rels g2⟩
theorem PSpec.wk {f:Nat} {args bs:List AV} {v:AV} (hL:WkL args bs) (hn:noRefs args=true) (hp:PSpec Tryz.prog f bs v):PSpec Tryz.prog f args v:=SE.PSpec.weak (fun _ c w vs _ h=>hL.rels h) hn hp
theorem nameW {s:List UInt8} {f:Nat} {S X K X' K':AV} {i:Int} (h:nameR s f X' K' i=true) (hX:Wk X X') (hK:Wk K K') (hn:noRefs [S,X,K]=true):PSpec Tryz.prog 102 [.str s,.fn f [] [.fptr [S,X,K],.fptr [.int .i64 i]]] (.int .i64 0):=by
 refine PSpec.wk (bs:=[.str s,.fn f [] [.fptr [.any,X',K'],.fptr [.int .i64 i]]]) ⟨Wk.refl _,Wk.fn trivial ⟨Wk.fptr ⟨Wk.any,hX,hK,trivial⟩,Wk.refl _,trivial⟩,trivial⟩ ?_ (Qng h)
 simp only[noRefs,noRef,Bool.and_true,Bool.true_and]at hn⊢
 exact hn
theorem nameX {S K:AV} {xs:List (Nat×List (Nat×Nat))} {i:Nat} {x:Nat×List (Nat×Nat)} (hx:xs[i]?=some x) (h2:xs.length<=2) (hs:(xs.map (·.1)).Pairwise (· < ·)) (hl:∀x∈xs,x.1<2) (hne:∀x∈xs,x.2≠[]/\x.2.length<=3) (hn:noRefs [S,exs xs,K]=true):
  PSpec Tryz.prog 102 [.str [101,UInt8.ofNat (48+x.1)],.fn 101 [] [.fptr [S,exs xs,K],.fptr [.int .i64 (i:Int)]]] (.int .i64 0):=by
 match xs,h2 with
 |[],_=>simp at hx
 | [(a, la)], _ =>
  have hi:i=0:=by
   rcases Nat.eq_zero_or_pos i with h|h
   ·exact h
   ·rw[List.getElem?_eq_none (by simp;omega)]at hx;cases hx
  subst hi
  simp at hx;subst hx
  have ha:=hl (a,la) (by simp)
  have:a=0\/a=1:=by dsimp only at ha;omega
  rcases this with rfl|rfl
  ·exact nameW e0_1 (Wk.fsl ⟨Wk.refl _,Wk.any,trivial⟩) Wk.any hn
  ·exact nameW e1_1 (Wk.fsl ⟨Wk.refl _,Wk.any,trivial⟩) Wk.any hn
 | [(a, la), (b, lb)], _ =>
  have ha:=hl (a,la) (by simp)
  have hb:=hl (b,lb) (by simp)
  have hab:a<b:=by simpa using hs
  dsimp only at ha hb
  obtain rfl:a=0:=by omega
  obtain rfl:b=1:=by omega
  have hi:i=0\/i=1:=by
   rcases Nat.lt_or_ge i 2 with h|h
   ·omega
   ·rw[List.getElem?_eq_none (by simp;omega)]at hx;cases hx
  rcases hi with rfl|rfl
  ·simp at hx; subst hx
   exact nameW e0_2 (Wk.fsl ⟨Wk.refl _,Wk.any,Wk.refl _,Wk.any,trivial⟩) Wk.any hn
  ·simp at hx; subst hx
   obtain⟨h3,h4⟩:=hne (0,la) (by simp)
   match la,h3,h4 with
   |[],h,_=>exact absurd rfl h
   |[p],_,_=>exact nameW e1_2a (Wk.fsl ⟨Wk.refl _,Wk.fsl ⟨Wk.any,Wk.any,trivial⟩,Wk.refl _,Wk.any,trivial⟩) Wk.any hn
   |[p,q],_,_=>exact nameW e1_2b (Wk.fsl ⟨Wk.refl _,Wk.fsl ⟨Wk.any,Wk.any,Wk.any,Wk.any,trivial⟩,Wk.refl _,Wk.any,trivial⟩) Wk.any hn
   |[p,q,r],_,_=>exact nameW e1_2c (Wk.fsl ⟨Wk.refl _,Wk.fsl ⟨Wk.any,Wk.any,Wk.any,Wk.any,Wk.any,Wk.any,trivial⟩,Wk.refl _,Wk.any,trivial⟩) Wk.any hn
theorem nameK {S X:AV} {ks:List (List (Nat×Int)×Int)} {x:List (Nat×Int)×Int} (hx:ks=[x]) (hn:noRefs [S,X,cos ks]=true):
  PSpec Tryz.prog 102 [.str [107],.fn 104 [] [.fptr [S,X,cos ks],.fptr [.int .i64 0]]] (.int .i64 0):=by
 subst hx
 exact nameW k_1 Wk.any (Wk.fsl ⟨Wk.refl _,Wk.any,Wk.any,trivial⟩) hn
end
end Go.AM.SN
namespace Go.AM.SO
open Go.Proofs Go.AM.SD Go.AM.SE
theorem great190 (n:Int) (h1: -65536<=n) (h2:n<=65536):PSpec Tryz.prog 190 [.int .i64 n] (.bool false):=by
 refine PSpec.Qaj 64 ok190 rfl rfl rfl ?_
 have g1:¬n< -65536:=by omega
 have g2:¬65536<n:=by omega
 simp(disch:=first|omega|(simp only[lenW]<;>omega)) only[s190,g1,g2,wV,simprocAttr]
 exact⟨.inr trivial,_,rfl,rfl⟩
abbrev cdC (S:List Nat) (xs:List (Nat×List (Nat×Nat))) (ks:List (List (Nat×Int)×Int)):List AV:=[sliN S,exs xs,cos ks]
abbrev cdV (S:List Nat) (xs:List (Nat×List (Nat×Nat))) (ks:List (List (Nat×Int)×Int)):AV:= .agg (cdC S xs ks)
theorem QcS {S:List Nat} {xs:List (Nat×List (Nat×Nat))} {ks:List (List (Nat×Int)×Int)}:noRefs (cdC S xs ks)=true:=by
 rw[cdC,noRefs,noRefs,noRefs,Qac,SU.Qa9,SU.QhM];rfl
theorem QeU {l:List (Nat×Nat)} {i:Nat} {x:Nat×Nat} (h:l[i]?=some x):(l.flatMap loC).drop (i*2)= .int .i64 (x.1:Int):: .int .i64 (x.2:Int)::(l.drop (i+1)).flatMap loC:=Qbh (f:=loC) (k:=2) (fun _=>rfl) h
theorem pw_at {l:List Nat} (h:l.Pairwise (· < ·)) {i:Nat} {x y:Nat} (hx:l[i]?=some x) (hy:l[i+1]?=some y):x<y:=by
 have hi:i+1<l.length:=by
  rcases Nat.lt_or_ge (i+1) l.length with h|h
  ·exact h
  ·rw[List.getElem?_eq_none h]at hy;cases hy
 rw[List.getElem?_eq_getElem (by omega)]at hx
 rw[List.getElem?_eq_getElem hi]at hy
 cases hx;cases hy
 exact List.pairwise_iff_getElem.1 h i (i+1) (by omega) hi (Nat.lt_succ_self _)
theorem _root_.Go.AM.au16 {p:Prop} (h:p:=by repeat (first|exact RT.nil|(refine RT.cons ?_ ?_; · (first|exact Rn.any|exact Rn.x1 rfl rfl|exact Rn.x2 rfl rfl|exact Rn.x3 rfl rfl|exact Rn.x4 rfl rfl|exact Rn.x5 rfl|exact Rn.x6 rfl|exact Rn.x7 rfl|(refine Rn.slot ?_ ?_;(first|rfl|(rw[Int.natCast_add];rfl));(first|rfl|(simp only[noRef,noRefs,Qah,Bool.and_self,Bool.and_true,Bool.true_and,Qaa,Qaw,Qac,SU.QaR,SU.Qay,SU.Qbi,SU.QaJ,SU.Qbo];done)))|(refine Rn.fn ?_ ?_<;>(repeat' (first|exact RnL.nil|refine RnL.cons ?_ ?_|exact Rn.same rfl|exact Rn.x6 rfl|exact Rn.x2 rfl rfl|exact Rn.x5 rfl|exact Rn.x1 rfl rfl))))))):p:=h
theorem excl103 (S:List Nat) (xs:List (Nat×List (Nat×Nat))) (ks:List (List (Nat×Int)×Int)) (x:Nat×List (Nat×Nat)) (hS:S.length<=8) (hS3:∀s∈S,s<=4096) (hl:x.2.length<=1000) (hne:x.2≠[]) (hp:(x.2.map (·.1)).Pairwise (· < ·)) (hs:∀l∈x.2,∃n,S[l.1]?=some n/\l.2<n):
    PSpec Tryz.prog 103 [cdV S xs ks,.agg (exC x)] (.int .i64 0):=by
  obtain⟨nm,l⟩:=x
  dsimp only at hl hne hp hs
  have hex:exC (nm,l)=[.str [101,UInt8.ofNat (48+nm)],los l]:=rfl
  rw[hex]
  have hnr1:=@QcS S xs ks
  have hnr2:noRefs [.str [101,UInt8.ofNat (48+nm)],los l]=true:=by rw[noRefs,noRefs,SU.Qdx];rfl
  refine PSpec.Qaj 64 ok103 rfl (by rw[noRefs,noRefs,noRef,noRef,hnr1,hnr2];rfl) rfl ?_
  have hl0:¬(l.length:Int)=0:=by
    have:=List.length_pos_iff.2 hne
    omega
  have hll:=SU.QdR l
  simp(disch:=first|omega|(simp only[lenW]<;>omega)) only[s103,hl0,wV,simprocAttr]
  refine Qat 100 (fun i:Nat=>[(2,.ptr 50 0 0),(3,.ptr 51 0 0),(12,los l),(13,.int .i64 l.length),(14,.int .i64 i)]) (fun _=>[(50,.cells 0 (cdC S xs ks)),(51,.cells 0 [.str [101,UInt8.ofNat (48+nm)],los l])]) (fun i=>i<=l.length) (fun i=>l.length-i) 0 ⟨[(50,.blk 64 0),(51,.blk 65 0)],rfl,au0,?_,au16⟩ (Nat.zero_le _) ?_
  · exact RB.cells rfl rfl gg (RnL.same hnr1) (RB.cells rfl rfl gg (RnL.same hnr2) RB.nil)
  rintro i hi
  by_cases hlt:i<l.length
  · obtain ⟨⟨c, s⟩, hcs⟩ := Qak hlt
    obtain⟨n,hn,hsn⟩:=hs _ (List.mem_of_getElem? hcs)
    dsimp only at hn hsn
    have hcl:c<S.length:=by
      rcases Nat.lt_or_ge c S.length with h|h
      · exact h
      · rw[List.getElem?_eq_none h]at hn;cases hn
    have hn4:=hS3 n (List.mem_of_getElem? hn)
    have hdr:=QeU hcs
    have hdl:2<=((l.flatMap loC).drop (i*2)).length:=by rw[hdr];simp
    have h1:¬(c:Int)<0:=by omega
    have h2:¬(S.length:Int)<=(c:Int):=by omega
    have h3:¬(s:Int)<0:=by omega
    have h4:¬(n:Int)<=(s:Int):=by omega
    cases i with
    | zero =>
      have h0:¬(0:Int)<((0:Nat):Int):=by omega
      simp(disch:=first|omega|(simp only[lenW]<;>omega)) only[hlt,hdr,hdl,h0,h1,h2,h3,h4,QaL hn,hcl,wV,simprocAttr]
      refine⟨1,by omega,by omega,?_⟩
      refine⟨[(50,.blk 50 0),(51,.blk 51 0)],rfl,au0,?_,au16⟩
      exact RB.cells rfl rfl gg (RnL.same hnr1) (RB.cells rfl rfl gg (RnL.same hnr2) RB.nil)
    | succ j =>
      obtain⟨⟨c',s'⟩,hcs'⟩:=Qak (l:=l) (i:=j) (by omega)
      have hdr':=QeU hcs'
      have hcc:c'<c:=pw_at hp (i:=j) (by rw[List.getElem?_map,hcs'];rfl) (by rw[List.getElem?_map,hcs];rfl)
      have h0:(0:Int)<((j+1:Nat):Int):=by omega
      have h5:¬(c:Int)<=(c':Int):=by omega
      have h6:((j+1:Nat):Int)-1=(j:Int):=by omega
      have h7:j<l.length:=by omega
      have hle:((j+1:Nat):Int)<(l.length:Int):=by omega
      have hJt:((j+1:Nat):Int).toNat=j+1:=by omega
      have hJ2:0<=((j+1:Nat):Int):=by omega
      generalize hJJ:((j+1:Nat):Int)=J at*
      simp(disch:=first|omega|(simp only[lenW]<;>omega)) only[hlt,hle,hJt,hJ2,hdr,hdr',hdl,h0,h1,h2,h3,h4,h5,h6,h7,QaL hn,hcl,wV,simprocAttr]
      refine⟨j+2,by omega,by omega,?_⟩
      have hJ3:J+1=((j+2:Nat):Int):=by omega
      rw[hJ3]
      refine⟨[(50,.blk 50 0),(51,.blk 51 0)],rfl,au0,?_,au16⟩
      exact RB.cells rfl rfl gg (RnL.same hnr1) (RB.cells rfl rfl gg (RnL.same hnr2) RB.nil)
  · simp (disch := first | omega | (simp only [lenW] <;> omega)) only [hlt, wV, simprocAttr]
    exact⟨.inr trivial,_,rfl,rfl⟩
theorem cons105 (S:List Nat) (xs:List (Nat×List (Nat×Nat))) (ks:List (List (Nat×Int)×Int)) (x:List (Nat×Int)×Int) (hS:S.length<=8) (hl:x.1.length<=1000) (hne:x.1≠[]) (hp:(x.1.map (·.1)).Pairwise (· < ·)) (hs:∀l∈x.1,l.1<S.length/\l.2≠0/\ -65536<=l.2/\l.2<=65536) (hb: -65536<=x.2/\x.2<=65536):
    PSpec Tryz.prog 105 [cdV S xs ks,.agg (coC x)] (.int .i64 0):=by
  obtain⟨l,bd⟩:=x
  dsimp only at hl hne hp hs hb
  have hex:coC (l,bd)=[.str [107],tes l,.int .i64 bd]:=rfl
  rw[hex]
  have hnr1:=@QcS S xs ks
  have hnr2:noRefs [.str [107],tes l,.int .i64 bd]=true:=by rw[noRefs,noRefs,SU.QcQ];rfl
  refine PSpec.Qaj 64 ok105 rfl (by rw[noRefs,noRefs,noRef,noRef,hnr1,hnr2];rfl) rfl ?_
  have hl0:¬(l.length:Int)=0:=by
    have:=List.length_pos_iff.2 hne
    omega
  have hll:=SU.QbV l
  have hgb:=great190 bd hb.1 hb.2
  simp(disch:=first|omega|(simp only[lenW]<;>omega)) only[s105,hl0,wV,simprocAttr]
  refine Qat 100 (fun i:Nat=>[(2,.ptr 50 0 0),(3,.ptr 51 0 0),(12,tes l),(13,.int .i64 l.length),(14,.int .i64 i)]) (fun _=>[(50,.cells 0 (cdC S xs ks)),(51,.cells 0 [.str [107],tes l,.int .i64 bd])]) (fun i=>i<=l.length) (fun i=>l.length-i) 0 ⟨[(50,.blk 64 0),(51,.blk 65 0)],rfl,au0,?_,au16⟩ (Nat.zero_le _) ?_
  · exact RB.cells rfl rfl gg (RnL.same hnr1) (RB.cells rfl rfl gg (RnL.same hnr2) RB.nil)
  rintro i hi
  by_cases hlt:i<l.length
  · obtain ⟨⟨c, s⟩, hcs⟩ := Qak hlt
    obtain⟨hcl,hs0,hsa,hsb⟩:=hs _ (List.mem_of_getElem? hcs)
    dsimp only at hcl hs0 hsa hsb
    have hdr:=SU.Qcd hcs
    have hdl:2<=((l.flatMap teC).drop (i*2)).length:=by rw[hdr];simp
    have h1:¬(c:Int)<0:=by omega
    have h2:¬(S.length:Int)<=(c:Int):=by omega
    have hgs:=great190 s hsa hsb
    cases i with
    | zero =>
      have h0:¬(0:Int)<((0:Nat):Int):=by omega
      simp(disch:=first|omega|(simp only[lenW]<;>omega)) only[hlt,hdr,hdl,h0,h1,h2,hs0,wV,simprocAttr]
      refine cp hgs ?_
      simp(disch:=first|omega|(simp only[lenW]<;>omega)) only[wV,simprocAttr]
      refine⟨1,by omega,by omega,?_⟩
      refine⟨[(50,.blk 50 0),(51,.blk 51 0)],rfl,au0,?_,au16⟩
      exact RB.cells rfl rfl gg (RnL.same hnr1) (RB.cells rfl rfl gg (RnL.same hnr2) RB.nil)
    | succ j =>
      obtain⟨⟨c',s'⟩,hcs'⟩:=Qak (l:=l) (i:=j) (by omega)
      have hdr':=SU.Qcd hcs'
      have hcc:c'<c:=pw_at hp (i:=j) (by rw[List.getElem?_map,hcs'];rfl) (by rw[List.getElem?_map,hcs];rfl)
      have h0:(0:Int)<((j+1:Nat):Int):=by omega
      have h5:¬(c:Int)<=(c':Int):=by omega
      have h6:((j+1:Nat):Int)-1=(j:Int):=by omega
      have h7:j<l.length:=by omega
      have hle:((j+1:Nat):Int)<(l.length:Int):=by omega
      have hJt:((j+1:Nat):Int).toNat=j+1:=by omega
      have hJ2:0<=((j+1:Nat):Int):=by omega
      generalize hJJ:((j+1:Nat):Int)=J at*
      simp(disch:=first|omega|(simp only[lenW]<;>omega)) only[hlt,hle,hJt,hJ2,hdr,hdr',hdl,h0,h1,h2,hs0,h5,h6,h7,wV,simprocAttr]
      refine cp hgs ?_
      simp(disch:=first|omega|(simp only[lenW]<;>omega)) only[wV,simprocAttr]
      refine⟨j+2,by omega,by omega,?_⟩
      have hJ3:J+1=((j+2:Nat):Int):=by omega
      rw[hJ3]
      refine⟨[(50,.blk 50 0),(51,.blk 51 0)],rfl,au0,?_,au16⟩
      exact RB.cells rfl rfl gg (RnL.same hnr1) (RB.cells rfl rfl gg (RnL.same hnr2) RB.nil)
  · simp (disch := first | omega | (simp only [lenW] <;> omega)) only [hlt, wV, simprocAttr]
    refine cp hgb ?_
    simp(disch:=first|omega|(simp only[lenW]<;>omega)) only[wV,simprocAttr]
    exact⟨.inr trivial,_,rfl,rfl⟩
end Go.AM.SO
namespace Go.AM.SQ
open Go.Proofs
def s32:SFn:=⟨89,[.tmp 2],
 (.seq (.region [Zz 1 (.box .dyn (.t 0)) [],
 Zz 2 (.mov (.c (.int .i64 0))) []] [] [0,2])
 (.seq (.seq (.region [Zf 15 0 1 [],
 Zl 16 15 [0],
 Zv 17 16 [1],
 Zz 18 (.bin .gtr (.t 17) (.c (.int .i64 8))) [2]] [] [15,16,17])
 (.cond (.t 18)
 (.seq (.region [Zz 2 (.mov (.c (.int .i64 3))) []] [] [1,18])
 .ret)
 .skip))
 (.seq (.seq (.region [Zf 19 0 1 [],
 Zl 20 19 [0],
 Zv 21 20 [1],
 Zz 22 (.mov (.c (.int .i64 0))) []] [] [2,18,19])
 (.block 0 (.loop (.seq (.region [Zb 23 .lss 22 21 []] [] [])
 (.seq (.cond (.t 23)
 .skip
 (.exit 0))
 (.seq (.block 1 (.seq (.region [Zi 24 1 20 22 [],
 Zl 25 24 [0],
 Zm 4 25 [1,0,1]] [] [23,24,25])
 (.seq (.region [Zm 26 4 [],
 Zz 27 (.bin .lss (.t 26) (.c (.int .i64 1))) [0],
 Zm 28 27 [1],
 Zx 29 (.mov (.t 4)) [2] 28 false,
 Zx 30 (.bin .gtr (.t 29) (.c (.int .i64 4096))) [3,2] 28 false,
 Zz 31 (.pick (.t 28) (.c (.bool true)) (.t 30)) [2,4]] [] [4,26,27,28])
 (.cond (.t 31)
 (.seq (.region [Zz 2 (.mov (.c (.int .i64 2))) []] [] [1,20,21,22,30,29,41,40,39,38,31])
 .ret)
 .skip))))
 (.region [Zz 32 (.bin .add (.t 22) (.c (.int .i64 1))) [],
 Zm 22 32 [0]] [] [2,31,32])))))))
 (.seq (.seq (.region [Zf 33 1 1 [],
 Zl 34 33 [0],
 Zv 35 34 [1],
 Zz 36 (.bin .gtr (.t 35) (.c (.int .i64 32))) [2],
 Zm 37 36 [3],
 Zx 38 (.faddr 2 (.t 1)) [4] 37 false,
 Zx 39 (.load none (.t 38)) [5,4] 37 false,
 Zx 40 (.len 1 (.t 39)) [6,4] 37 false,
 Zx 41 (.bin .gtr (.t 40) (.c (.int .i64 32))) [7,4] 37 false,
 Zz 42 (.pick (.t 37) (.c (.bool true)) (.t 41)) [4,8]] [] [20,21,22,30,29,41,40,39,38,33,34,35,36,37])
 (.cond (.t 42)
 (.seq (.region [Zz 2 (.mov (.c (.int .i64 3))) []] [] [1,42])
 .ret)
 .skip))
 (.seq (.seq (.region [Zf 43 1 1 [],
 Zl 44 43 [0],
 Zv 45 44 [1],
 Zz 46 (.mov (.c (.int .i64 0))) []] [] [2,42,43])
 (.block 2 (.loop (.seq (.region [Zb 47 .lss 46 45 []] [] [])
 (.seq (.cond (.t 47)
 .skip
 (.exit 2))
 (.seq (.block 3 (.seq (.region [Zm 48 46 [],
 Zi 49 2 44 46 [],
 Zw 50 2 49 [1],
 Zz 5 (.alloc .dyn (.int .i64 0)) [],
 Zz 6 (.alloc .dyn (.agg [(.str []),.nilsl])) [],
 Zs 1 5 48 (Za [3,0] 5),
 Zs 2 6 50 (Za [4,2,5] 6)] [] [47,48,49,50])
 (.seq (.region [Zz 51 (.mkfn 101 [] [(.t 1),(.t 5)]) [],
 Zm 7 51 [0,0]] [] [5,51])
 (.seq (.seq (.region [Zf 52 0 6 [],
 Zl 53 52 [0],
 Zm 54 7 [],
 Zz 55 (.call .heap (.f 102) [(.t 53),(.t 54)]) [1,2],
 Zm 8 55 [3,3,0,1,2,3]] [] [7,52,53,54,55])
 (.seq (.region [Zm 56 8 [],
 Zz 57 (.bin .neq (.t 56) (.c (.int .i64 0))) [0]] [] [56])
 (.cond (.t 57)
 (.seq (.region [Zm 58 8 [],
 Zm 2 58 [0,0]] [] [1,44,45,46,6,8,57,58])
 .ret)
 .skip)))
 (.seq (.region [Zw 59 3 1 [],
 Zw 60 2 6 [],
 Zz 61 (.call .pure (.f 103) [(.t 59),(.t 60)]) [0,1],
 Zm 9 61 [2,2,0,1,2]] [] [2,6,8,57,59,60,61])
 (.seq (.region [Zm 62 9 [],
 Zz 63 (.bin .neq (.t 62) (.c (.int .i64 0))) [0]] [] [62])
 (.cond (.t 63)
 (.seq (.region [Zm 64 9 [],
 Zm 2 64 [0,0]] [] [1,44,45,46,9,63,64])
 .ret)
 .skip)))))))
 (.region [Zz 65 (.bin .add (.t 46) (.c (.int .i64 1))) [],
 Zm 46 65 [0]] [] [2,9,63,65])))))))
 (.seq (.seq (.region [Zf 66 2 1 [],
 Zl 67 66 [0],
 Zv 68 67 [1],
 Zz 69 (.mov (.c (.int .i64 0))) []] [] [44,45,46,66])
 (.block 4 (.loop (.seq (.region [Zb 70 .lss 69 68 []] [] [])
 (.seq (.cond (.t 70)
 .skip
 (.exit 4))
 (.seq (.block 5 (.seq (.region [Zm 71 69 [],
 Zi 72 3 67 69 [],
 Zw 73 3 72 [1],
 Zz 10 (.alloc .dyn (.int .i64 0)) [],
 Zz 11 (.alloc .dyn (.agg [(.str []),.nilsl,(.int .i64 0)])) [],
 Zs 1 10 71 (Za [3,0] 5),
 Zs 3 11 73 (Za [4,2,5] 6)] [] [70,71,72,73])
 (.seq (.region [Zz 74 (.mkfn 104 [] [(.t 1),(.t 10)]) [],
 Zm 12 74 [0,0]] [] [10,74])
 (.seq (.seq (.region [Zf 75 0 11 [],
 Zl 76 75 [0],
 Zm 77 12 [],
 Zz 78 (.call .heap (.f 102) [(.t 76),(.t 77)]) [1,2],
 Zm 13 78 [3,3,0,1,2,3]] [] [12,75,76,77,78])
 (.seq (.region [Zm 79 13 [],
 Zz 80 (.bin .neq (.t 79) (.c (.int .i64 0))) [0]] [] [79])
 (.cond (.t 80)
 (.seq (.region [Zm 81 13 [],
 Zm 2 81 [0,0]] [] [1,67,68,69,11,13,80,81])
 .ret)
 .skip)))
 (.seq (.region [Zw 82 3 1 [],
 Zw 83 3 11 [],
 Zz 84 (.call .pure (.f 105) [(.t 82),(.t 83)]) [0,1],
 Zm 14 84 [2,2,0,1,2]] [] [2,11,13,80,82,83,84])
 (.seq (.region [Zm 85 14 [],
 Zz 86 (.bin .neq (.t 85) (.c (.int .i64 0))) [0]] [] [85])
 (.cond (.t 86)
 (.seq (.region [Zm 87 14 [],
 Zm 2 87 [0,0]] [] [1,67,68,69,14,86,87])
 .ret)
 .skip)))))))
 (.region [Zz 88 (.bin .add (.t 69) (.c (.int .i64 1))) [],
 Zm 69 88 [0]] [] [2,14,86,88])))))))
 (.seq (.region [Zz 2 (.mov (.c (.int .i64 0))) []] [] [1,67,68,69])
 .ret)))))))⟩
theorem ok32:okFn Tryz.prog 32 s32=true:=by kernel_rfl
end Go.AM.SQ
namespace Go.AM.SO
open Go.Proofs Go.AM.SD Go.AM.SE
def szs (c:Cel):List Nat:=c.cs.map (·.2.n)
theorem WfCel.comp {c:Cel} (h:WfCel c) {x:Nat×List (Nat×Nat)} (hx:x∈c.xs):∀l∈x.2,∃n,(szs c)[l.1]?=some n/\l.2<n:=fun l hl=>by
 obtain⟨y,h1,h2⟩:=(h.xl x hx).2.2 l hl
 exact⟨y.2.n,by unfold szs;rw[List.getElem?_map,h1];rfl,h2⟩
theorem WfCel.xlen {c:Cel} (h:WfCel c) {x:Nat×List (Nat×Nat)} (hx:x∈c.xs):x.2.length<=3:=by
  have h1:=QaM c.cs.length (x.2.map (·.1)) (by rw[List.nodup_iff_pairwise_ne];exact(h.xl x hx).2.1.imp fun h=>by omega) (fun y hy=>by
    obtain⟨l,hl,rfl⟩:=List.mem_map.1 hy
    obtain⟨z,h1,_⟩:=(h.xl x hx).2.2 l hl
    rcases Nat.lt_or_ge l.1 c.cs.length with h|h
    · exact h
    · rw[List.getElem?_eq_none h]at h1;cases h1)
  rw[List.length_map]at h1
  exact Nat.le_trans h1 h.c3
theorem WfCel.klen {c:Cel} (h:WfCel c) {x:List (Nat×Int)×Int} (hx:x∈c.ks):x.1.length<=3:=by
  have h1:=QaM c.cs.length (x.1.map (·.1)) (by rw[List.nodup_iff_pairwise_ne];exact(h.kl x hx).2.1.imp fun h=>by omega) (fun y hy=>by
    obtain⟨l,hl,rfl⟩:=List.mem_map.1 hy
    exact((h.kl x hx).2.2.1 l hl).1)
  rw[List.length_map]at h1
  exact Nat.le_trans h1 h.c3
theorem WfCel.slen {c:Cel} (h:WfCel c):(szs c).length=c.cs.length:=by simp[szs]
theorem WfCel.sz {c:Cel} (h:WfCel c):∀s∈szs c,1<=s/\s<=3:=fun s hs=>by
 obtain⟨x,hx,rfl⟩:=List.mem_map.1 hs
 exact⟨(h.ca x hx).pos,(h.ca x hx).n3⟩
theorem QeV {l:List (Nat×List (Nat×Nat))} {i:Nat} {x:Nat×List (Nat×Nat)} (h:l[i]?=some x):(l.flatMap exC).drop (i*2)= .str [101,UInt8.ofNat (48+x.1)]::los x.2::(l.drop (i+1)).flatMap exC:=Qbh (f:=exC) (k:=2) (fun _=>rfl) h
theorem QeW {l:List (List (Nat×Int)×Int)} {i:Nat} {x:List (Nat×Int)×Int} (h:l[i]?=some x):(l.flatMap coC).drop (i*3)= .str [107]::tes x.1:: .int .i64 x.2::(l.drop (i+1)).flatMap coC:=Qbh (f:=coC) (k:=3) (fun _=>rfl) h
theorem QdS (l:List (List (Nat×Int)×Int)):(l.flatMap coC).length=l.length*3:=QbM (k:=3) (fun _=>rfl) l
theorem conds32 (c:Cel) (h:WfCel c):PSpec Tryz.prog 32 [cdV (szs c) c.xs c.ks] (.int .i64 0):=by
  have hnr:=@QcS (szs c) c.xs c.ks
  refine PSpec.Qaj 64 SQ.ok32 rfl (by rw[noRefs,noRef,hnr];rfl) rfl ?_
  have hsl:=h.slen
  have hc3:=h.c3
  have hx2:=h.x2
  have hk1:=h.k1
  have g1:¬(8:Int)<((szs c).length:Int):=by omega
  have g2:¬(32:Int)<(c.xs.length:Int):=by omega
  have g3:¬(32:Int)<(c.ks.length:Int):=by omega
  have hxn:∀x∈c.xs,x.2≠[]/\x.2.length<=3:=fun x hx=>⟨(h.xl x hx).1,h.xlen hx⟩
  simp(disch:=first|omega|(simp only[lenW]<;>omega)) only[SQ.s32,g1,wW,wV,simprocAttr]
  refine Qax 100 (fun i:Nat=>[(1,.ptr 50 0 0),(20,sliN (szs c)),(21,.int .i64 (szs c).length),(22,.int .i64 i)]) (fun _=>[(50,.cells 0 (cdC (szs c) c.xs c.ks))]) (fun i=>i<=(szs c).length) (fun i=>(szs c).length-i) 0 0 140
    (fun _:Unit=>[(1,.ptr 50 0 0)]) (fun _=>[(50,.cells 0 (cdC (szs c) c.xs c.ks))]) (fun _=>True) ⟨[(50,.blk 64 0)],rfl,au0,?_,au16⟩ (Nat.zero_le _) ?_ ?_
  · exact RB.cells rfl rfl gg (RnL.same hnr) RB.nil
  · rintro i hi
    by_cases hlt:i<(szs c).length
    · obtain ⟨s, hs⟩ := Qak hlt
      obtain⟨hs1,hs3⟩:=h.sz s (List.mem_of_getElem? hs)
      have q1:¬(s:Int)<1:=by omega
      have q2:¬(4096:Int)<(s:Int):=by omega
      simp(disch:=first|omega|(simp only[lenW]<;>omega)) only[hlt,QaL hs,q1,q2,wW,wV,simprocAttr]
      refine⟨i+1,by omega,by omega,?_⟩
      refine⟨[(50,.blk 50 0)],rfl,au0,?_,au16⟩
      exact RB.cells rfl rfl gg (RnL.same hnr) RB.nil
    · simp (disch := first | omega | (simp only [lenW] <;> omega)) only [hlt, wW, wV, simprocAttr]
      refine⟨(),?_⟩
      refine⟨[(50,.blk 50 0)],rfl,au0,?_,au16⟩
      exact RB.cells rfl rfl gg (RnL.same hnr) RB.nil
  rintro _ _
  simp(disch:=first|omega|(simp only[lenW]<;>omega)) only[g2,g3,wW,wV,simprocAttr]
  refine Qax 200 (fun i:Nat=>[(1,.ptr 50 0 0),(44,exs c.xs),(45,.int .i64 c.xs.length),(46,.int .i64 i)]) (fun _=>[(50,.cells 0 (cdC (szs c) c.xs c.ks))]) (fun i=>i<=c.xs.length) (fun i=>c.xs.length-i) 0 2 240
    (fun _:Unit=>[(1,.ptr 50 0 0)]) (fun _=>[(50,.cells 0 (cdC (szs c) c.xs c.ks))]) (fun _=>True) ⟨[(50,.blk 50 0)],rfl,au0,?_,au16⟩ (Nat.zero_le _) ?_ ?_
  · exact RB.cells rfl rfl gg (RnL.same hnr) RB.nil
  · rintro i hi
    by_cases hlt:i<c.xs.length
    · obtain ⟨x, hx⟩ := Qak hlt
      have hxm:=List.mem_of_getElem? hx
      have hdr:=QeV hx
      have hdl:2<=((c.xs.flatMap exC).drop (i*2)).length:=by rw[hdr];simp
      have hN:=SN.nameX hx hx2 h.xn.1 h.xn.2 hxn hnr
      have hE:=excl103 (szs c) c.xs c.ks x (by omega) (fun s hs=>by have:=h.sz s hs;omega) (by have:=h.xlen hxm;omega) (h.xl x hxm).1 (h.xl x hxm).2.1 (h.comp hxm)
      have hex:exC x=[.str [101,UInt8.ofNat (48+x.1)],los x.2]:=rfl
      rw[hex]at hE
      simp(disch:=first|omega|(simp only[lenW]<;>omega)) only[hlt,hdr,hdl,wW,wV,simprocAttr]
      refine SU.chc (HSpec.lend (FrzL.cons (FrzTo.same _) (FrzL.cons (FrzTo.fn FrzL.nil (FrzL.cons (FrzTo.ptr (g:=0) (cs:=cdC (szs c) c.xs c.ks) gg (FrzL.same _)) (FrzL.cons (FrzTo.ptr (g:=0) (cs:=[.int .i64 (i:Int)]) gg (FrzL.same _)) FrzL.nil))) FrzL.nil)) hN rfl) ?_
      simp(disch:=first|omega|(simp only[lenW]<;>omega)) only[wW,wV,simprocAttr]
      refine cp hE ?_
      simp(disch:=first|omega|(simp only[lenW]<;>omega)) only[wW,wV,simprocAttr]
      refine⟨i+1,by omega,by omega,?_⟩
      refine⟨[(50,.blk 50 0)],rfl,au0,?_,au16⟩
      exact RB.cells rfl rfl gg (RnL.same hnr) RB.nil
    · simp (disch := first | omega | (simp only [lenW] <;> omega)) only [hlt, wW, wV, simprocAttr]
      refine⟨(),?_⟩
      refine⟨[(50,.blk 50 0)],rfl,au0,?_,au16⟩
      exact RB.cells rfl rfl gg (RnL.same hnr) RB.nil
  rintro _ _
  simp(disch:=first|omega|(simp only[lenW]<;>omega)) only[wW,wV,simprocAttr]
  refine Qat 300 (fun i:Nat=>[(1,.ptr 50 0 0),(67,cos c.ks),(68,.int .i64 c.ks.length),(69,.int .i64 i)]) (fun _=>[(50,.cells 0 (cdC (szs c) c.xs c.ks))]) (fun i=>i<=c.ks.length) (fun i=>c.ks.length-i) 0 ⟨[(50,.blk 50 0)],rfl,au0,?_,au16⟩ (Nat.zero_le _) ?_
  · exact RB.cells rfl rfl gg (RnL.same hnr) RB.nil
  rintro i hi
  by_cases hlt:i<c.ks.length
  · obtain ⟨x, hx⟩ := Qak hlt
    have hi0:i=0:=by omega
    subst hi0
    have hxm:=List.mem_of_getElem? hx
    have hdr:=QeW hx
    rw[Nat.zero_mul]at hdr
    have hdl:3<=(c.ks.flatMap coC).length:=by rw[QdS];omega
    have hks:c.ks=[x]:=by
      match hk:c.ks,hx,hk1 with
      |[y],hx,_=>simp at hx;rw[hx]
    have hN:=SN.nameK (S:=sliN (szs c)) (X:=exs c.xs) hks hnr
    obtain⟨k1,k2,k3,k4,k5⟩:=h.kl x hxm
    have hE:=cons105 (szs c) c.xs c.ks x (by omega) (by have:=h.klen hxm;omega) k1 k2 (fun l hl=>by obtain⟨q1,q2,q3,q4⟩:=k3 l hl;exact⟨by omega,q2,by omega,by omega⟩) ⟨by omega,by omega⟩
    have hex:coC x=[.str [107],tes x.1,.int .i64 x.2]:=rfl
    rw[hex]at hE
    have hlt0:(0:Int)<(c.ks.length:Int):=by omega
    rw[List.drop_zero]at hdr
    have htk:List.take 3 (c.ks.flatMap coC)=[.str [107],tes x.1,.int .i64 x.2]:=by rw[hdr];rfl
    simp(disch:=first|omega|(simp only[lenW]<;>omega)) only[hlt,hlt0,htk,hdl,wW,wV,simprocAttr]
    refine SU.chc (HSpec.lend (FrzL.cons (FrzTo.same _) (FrzL.cons (FrzTo.fn FrzL.nil (FrzL.cons (FrzTo.ptr (g:=0) (cs:=cdC (szs c) c.xs c.ks) gg (FrzL.same _)) (FrzL.cons (FrzTo.ptr (g:=0) (cs:=[.int .i64 0]) gg (FrzL.same _)) FrzL.nil))) FrzL.nil)) hN rfl) ?_
    simp(disch:=first|omega|(simp only[lenW]<;>omega)) only[wW,wV,simprocAttr]
    refine cp hE ?_
    simp(disch:=first|omega|(simp only[lenW]<;>omega)) only[wW,wV,simprocAttr]
    refine⟨1,by omega,by omega,?_⟩
    refine⟨[(50,.blk 50 0)],rfl,au0,?_,au16⟩
    exact RB.cells rfl rfl gg (RnL.same hnr) RB.nil
  · simp (disch := first | omega | (simp only [lenW] <;> omega)) only [hlt, wW, wV, simprocAttr]
    exact⟨.inr trivial,_,rfl,rfl⟩
end Go.AM.SO
namespace Go.AM.SO
open Go.Proofs Go.AM.SD Go.AM.SE
theorem Qdr {α:Type} {f:α->List AV} (hf:∀x,(f x).all AV.one=true):∀l:List α,(l.flatMap f).all AV.one=true
 |[]=>rfl
 |x::l=>by rw[List.flatMap_cons,List.all_append,hf,Qdr hf l];rfl
theorem clone148 (l:List (Nat×Nat)) (hl:l.length<=1000) (hne:l≠[]):PSpec Tryz.prog 148 [los l] (los l):=by
 refine PSpec.of_rn 100 ok148 rfl (by rw[noRefs,SU.Qdx];rfl) (SU.Qdx _) ?_
 have hq:aEqN false (los l)= .ret (.bool false):=by
  match l,hne with
  |x::l,_=>rfl
 have hone:(l.flatMap loC).all AV.one=true:=Qdr (fun _=>rfl) l
 have hln:=SU.QdR l
 simp(disch:=first|omega|(simp only[lenW]<;>omega)) only[s148,hq,hone,hln,wW,wV,simprocAttr]
 exact⟨.inr trivial,_,rfl,Rn.fz0 rfl hln (RnL.same (SU.QaR _))⟩
theorem clone149 (l:List (Nat×Int)) (hl:l.length<=1000) (hne:l≠[]):PSpec Tryz.prog 149 [tes l] (tes l):=by
 refine PSpec.of_rn 100 ok149 rfl (by rw[noRefs,SU.QcQ];rfl) (SU.QcQ _) ?_
 have hq:aEqN false (tes l)= .ret (.bool false):=by
  match l,hne with
  |x::l,_=>rfl
 have hone:(l.flatMap teC).all AV.one=true:=Qdr (fun _=>rfl) l
 have hln:=SU.QbV l
 simp(disch:=first|omega|(simp only[lenW]<;>omega)) only[s149,hq,hone,hln,wW,wV,simprocAttr]
 exact⟨.inr trivial,_,rfl,Rn.fz0 rfl hln (RnL.same (SU.Qay _))⟩
theorem take_succ' {α:Type} {l:List α} {i:Nat} {x:α} (h:l[i]?=some x):l.take (i+1)=l.take i++[x]:=by
 rw[List.take_add_one,h];rfl
theorem QoJ {x:Nat×List (Nat×Nat)}:List.flatMap exC [x]=[.str [101,UInt8.ofNat (48+x.1)],los x.2]:=rfl
theorem QoK {x:List (Nat×Int)×Int}:List.flatMap coC [x]=[.str [107],tes x.1,.int .i64 x.2]:=rfl
theorem conds85 (c:Cel) (h:WfCel c):PSpec Tryz.prog 85 [celV c] (cdV (szs c) c.xs c.ks):=by
  have hnr:noRefs [evsV c.ev,its 99 c.cs,its 114 c.rs,exs c.xs,cos c.ks]=true:=by
    have:=SU.Qba c
    rwa [celV,noRef]at this
  refine PSpec.of_rn 64 ok85 rfl (by rw[noRefs,SU.Qba];rfl) (by rw[noRef];exact QcS) ?_
  have hc3:=h.c3
  have hx2:=h.x2
  have hk1:=h.k1
  have hci:=@SU.QcR 99 c.cs
  have hxi:=SU.QcP c.xs
  have hki:=QdS c.ks
  simp(disch:=first|omega|(simp only[lenW]<;>omega)) only[s85,wW,wV,simprocAttr]
  refine Qax 100 (fun i:Nat=>[(1,.ptr 50 0 0),(2,.ptr 51 0 0),(3,.ptr 52 0 0),(12,its 99 c.cs),(13,.int .i64 c.cs.length),(14,.int .i64 i)]) (fun i=>[(50,.cells 0 [evsV c.ev,its 99 c.cs,its 114 c.rs,exs c.xs,cos c.ks]),(51,.cells 0 [.nilsl,.nilsl,.nilsl]),(52,.cells 0 [.sl 76 0 0 (szs c|>.take i).length 1,.nilsl,.nilsl]),(76,.cells 0 (ints (nz ((szs c).take i))))]) (fun i=>i<=c.cs.length) (fun i=>c.cs.length-i) 0 0 160
    (fun _:Unit=>[(1,.ptr 50 0 0),(2,.ptr 51 0 0),(3,.ptr 52 0 0)]) (fun _=>[(50,.cells 0 [evsV c.ev,its 99 c.cs,its 114 c.rs,exs c.xs,cos c.ks]),(51,.cells 0 [.nilsl,.nilsl,.nilsl]),(52,.cells 0 [sliN (szs c),.nilsl,.nilsl])]) (fun _=>True) ⟨[(50,.blk 64 0),(51,.blk 65 0),(52,.blk 67 0),(76,.nil)],rfl,au0,?_,au16⟩ (Nat.zero_le _) ?_ ?_
  · exact RB.cells rfl rfl gg (RnL.same hnr) (RB.cells rfl rfl gg (RnL.same rfl) (RB.cells rfl rfl gg (RnL.cons (Rn.x4 rfl rfl) (RnL.same rfl)) (RB.newnil rfl rfl RB.nil)))
  · rintro i hi
    by_cases hlt:i<c.cs.length
    · obtain ⟨x, hx⟩ := Qak hlt
      have hdr:=SU.QeT (ch:=99) hx
      have hdl:5<=((c.cs.flatMap (itC 99)).drop (i*5)).length:=by rw[hdr];simp
      have hsx:(szs c)[i]?=some x.2.n:=by unfold szs;rw[List.getElem?_map,hx];rfl
      have hsuc:=take_succ' hsx
      have htl:((szs c).take i).length=i:=by rw[List.length_take,h.slen];omega
      have hone:=@SU.QcW [99,UInt8.ofNat (48+x.1)] x.2
      simp(disch:=first|omega|(simp only[lenW]<;>omega)) only[hlt,hdr,hdl,htl,wW,wV,simprocAttr]
      refine⟨i+1,by omega,by omega,?_⟩
      rw[hsuc,List.length_append,QaH,QaD,htl]
      refine⟨[(50,.blk 50 0),(51,.blk 51 0),(52,.blk 52 0),(76,.blk 76 1)],rfl,au0,?_,au16⟩
      exact RB.cells rfl rfl gg (RnL.same hnr) (RB.cells rfl rfl gg (RnL.same rfl) (RB.cells rfl rfl gg (RnL.cons (Rn.x1 rfl rfl) (RnL.same rfl)) (RB.cells rfl rfl gg (RnL.same (SU.Qa3 (Qaa _) rfl)) RB.nil)))
    · have e : i = c.cs.length := by omega
      subst e
      have hta:(szs c).take c.cs.length=szs c:=by rw[<-h.slen,List.take_length]
      simp(disch:=first|omega|(simp only[lenW]<;>omega)) only[hlt,hta,wW,wV,simprocAttr]
      refine⟨(),?_⟩
      refine⟨[(50,.blk 50 0),(51,.blk 51 0),(52,.blk 52 0)],rfl,au0,?_,au16⟩
      exact RB.cells rfl rfl gg (RnL.same hnr) (RB.cells rfl rfl gg (RnL.same rfl) (RB.cells rfl rfl gg (RnL.cons (Rn.fzm rfl rfl rfl rfl (by simp[ints]) (RnL.same (Qaa _))) (RnL.same rfl)) RB.nil))
  rintro _ _
  simp(disch:=first|omega|(simp only[lenW]<;>omega)) only[wW,wV,simprocAttr]
  refine Qax 200 (fun i:Nat=>[(1,.ptr 50 0 0),(2,.ptr 51 0 0),(3,.ptr 52 0 0),(28,exs c.xs),(29,.int .i64 c.xs.length),(30,.int .i64 i)]) (fun i=>[(50,.cells 0 [evsV c.ev,its 99 c.cs,its 114 c.rs,exs c.xs,cos c.ks]),(51,.cells 0 [.nilsl,.nilsl,.nilsl]),(52,.cells 0 [sliN (szs c),.sl 77 0 0 (c.xs.take i).length 2,.nilsl]),(77,.cells 0 ((c.xs.take i).flatMap exC))]) (fun i=>i<=c.xs.length) (fun i=>c.xs.length-i) 0 2 260
    (fun _:Unit=>[(1,.ptr 50 0 0),(2,.ptr 51 0 0),(3,.ptr 52 0 0)]) (fun _=>[(50,.cells 0 [evsV c.ev,its 99 c.cs,its 114 c.rs,exs c.xs,cos c.ks]),(51,.cells 0 [.nilsl,.nilsl,.nilsl]),(52,.cells 0 [sliN (szs c),exs c.xs,.nilsl])]) (fun _=>True) ⟨[(50,.blk 50 0),(51,.blk 51 0),(52,.blk 52 0),(77,.nil)],rfl,au0,?_,au16⟩ (Nat.zero_le _) ?_ ?_
  · exact RB.cells rfl rfl gg (RnL.same hnr) (RB.cells rfl rfl gg (RnL.same rfl) (RB.cells rfl rfl gg (RnL.cons (Rn.same (Qac _)) (RnL.cons (Rn.x4 rfl rfl) (RnL.same rfl))) (RB.newnil rfl rfl RB.nil)))
  · rintro i hi
    by_cases hlt:i<c.xs.length
    · obtain ⟨x, hx⟩ := Qak hlt
      have hxm:=List.mem_of_getElem? hx
      have hdr:=QeV hx
      have hdl:2<=((c.xs.flatMap exC).drop (i*2)).length:=by rw[hdr];simp
      have hsuc:=take_succ' hx
      have htl:(c.xs.take i).length=i:=by rw[List.length_take];omega
      have hcl:=clone148 x.2 (by have:=h.xlen hxm;omega) (h.xl x hxm).1
      have hxl:=SU.QcP (c.xs.take i)
      rw[htl]at hxl
      simp(disch:=first|omega|(simp only[lenW]<;>omega)) only[hlt,hdr,hdl,htl,wW,wV,simprocAttr]
      refine cp hcl ?_
      simp(disch:=first|omega|(simp only[lenW]<;>omega)) only[hxl,wW,wV,simprocAttr]
      refine⟨i+1,by omega,by omega,?_⟩
      rw[hsuc,List.length_append,List.flatMap_append,htl,QoJ]
      refine⟨[(50,.blk 50 0),(51,.blk 51 0),(52,.blk 52 0),(77,.blk 77 1)],rfl,au0,?_,au16⟩
      exact RB.cells rfl rfl gg (RnL.same hnr) (RB.cells rfl rfl gg (RnL.same rfl) (RB.cells rfl rfl gg (RnL.cons (Rn.same (Qac _)) (RnL.cons (Rn.x1 rfl rfl) (RnL.same rfl))) (RB.cells rfl rfl gg (RnL.same (SU.Qa3 (SU.QaJ _) (by rw[noRefs,noRefs,SU.Qdx];rfl))) RB.nil)))
    · have e : i = c.xs.length := by omega
      subst e
      simp(disch:=first|omega|(simp only[lenW]<;>omega)) only[hlt,List.take_length,wW,wV,simprocAttr]
      refine⟨(),?_⟩
      refine⟨[(50,.blk 50 0),(51,.blk 51 0),(52,.blk 52 0)],rfl,au0,?_,au16⟩
      exact RB.cells rfl rfl gg (RnL.same hnr) (RB.cells rfl rfl gg (RnL.same rfl) (RB.cells rfl rfl gg (RnL.cons (Rn.same (Qac _)) (RnL.cons (Rn.fzm rfl rfl rfl rfl (SU.QcP _) (RnL.same (SU.QaJ _))) (RnL.same rfl))) RB.nil))
  rintro _ _
  simp(disch:=first|omega|(simp only[lenW]<;>omega)) only[wW,wV,simprocAttr]
  refine Qax 300 (fun i:Nat=>[(2,.ptr 51 0 0),(3,.ptr 52 0 0),(47,cos c.ks),(48,.int .i64 c.ks.length),(49,.int .i64 i)]) (fun i=>[(51,.cells 0 [.nilsl,.nilsl,.nilsl]),(52,.cells 0 [sliN (szs c),exs c.xs,.sl 78 0 0 (c.ks.take i).length 3]),(78,.cells 0 ((c.ks.take i).flatMap coC))]) (fun i=>i<=c.ks.length) (fun i=>c.ks.length-i) 0 4 360
    (fun _:Unit=>[(2,.ptr 51 0 0),(3,.ptr 52 0 0)]) (fun _=>[(51,.cells 0 [.nilsl,.nilsl,.nilsl]),(52,.cells 0 [sliN (szs c),exs c.xs,cos c.ks])]) (fun _=>True) ⟨[(51,.blk 51 0),(52,.blk 52 0),(78,.nil)],rfl,au0,?_,au16⟩ (Nat.zero_le _) ?_ ?_
  · exact RB.cells rfl rfl gg (RnL.same rfl) (RB.cells rfl rfl gg (RnL.cons (Rn.same (Qac _)) (RnL.cons (Rn.same (SU.Qa9 _)) (RnL.cons (Rn.x4 rfl rfl) RnL.nil))) (RB.newnil rfl rfl RB.nil))
  · rintro i hi
    by_cases hlt:i<c.ks.length
    · obtain ⟨x, hx⟩ := Qak hlt
      have hxm:=List.mem_of_getElem? hx
      have hdr:=QeW hx
      have hdl:3<=((c.ks.flatMap coC).drop (i*3)).length:=by rw[hdr];simp
      have hsuc:=take_succ' hx
      have htl:(c.ks.take i).length=i:=by rw[List.length_take];omega
      have hcl:=clone149 x.1 (by have:=h.klen hxm;omega) (h.kl x hxm).1
      have hxl:=QdS (c.ks.take i)
      rw[htl]at hxl
      simp(disch:=first|omega|(simp only[lenW]<;>omega)) only[hlt,hdr,hdl,htl,wW,wV,simprocAttr]
      refine cp hcl ?_
      simp(disch:=first|omega|(simp only[lenW]<;>omega)) only[hxl,wW,wV,simprocAttr]
      refine⟨i+1,by omega,by omega,?_⟩
      rw[hsuc,List.length_append,List.flatMap_append,htl,QoK]
      refine⟨[(51,.blk 51 0),(52,.blk 52 0),(78,.blk 78 1)],rfl,au0,?_,au16⟩
      exact RB.cells rfl rfl gg (RnL.same rfl) (RB.cells rfl rfl gg (RnL.cons (Rn.same (Qac _)) (RnL.cons (Rn.same (SU.Qa9 _)) (RnL.cons (Rn.x1 rfl rfl) RnL.nil))) (RB.cells rfl rfl gg (RnL.same (SU.Qa3 (SU.Qbo _) (by rw[noRefs,noRefs,SU.QcQ];rfl))) RB.nil))
    · have e : i = c.ks.length := by omega
      subst e
      simp(disch:=first|omega|(simp only[lenW]<;>omega)) only[hlt,List.take_length,wW,wV,simprocAttr]
      refine⟨(),?_⟩
      refine⟨[(51,.blk 51 0),(52,.blk 52 0)],rfl,au0,?_,au16⟩
      exact RB.cells rfl rfl gg (RnL.same rfl) (RB.cells rfl rfl gg (RnL.cons (Rn.same (Qac _)) (RnL.cons (Rn.same (SU.Qa9 _)) (RnL.cons (Rn.fzm rfl rfl rfl rfl (QdS _) (RnL.same (SU.Qbo _))) RnL.nil))) RB.nil)
  rintro _ _
  simp(disch:=first|omega|(simp only[lenW]<;>omega)) only[wW,wV,simprocAttr]
  refine⟨.inr trivial,_,rfl,?_⟩
  exact Rn.same (by rw[noRef];exact QcS)
end Go.AM.SO
namespace Go.AM.SO
open Go.Proofs Go.AM.SD Go.AM.SE
def idxQ {α:Type} (q:α->Bool) (l:List α):Int:=if l.any q then(l.findIdx q:Int)else-1
theorem QhN {α:Type} {q:α->Bool} {l:List α} (h:∀x∈l,q x=false):idxQ q l= -1:=by
 unfold idxQ
 rw[if_neg]
 rw[List.any_eq_true]
 rintro⟨x,hx,hq⟩
 rw[h x hx]at hq;cases hq
theorem Qkz {α:Type} {q:α->Bool} {l:List α} {i:Nat} {x:α} (hx:l[i]?=some x) (hq:q x=true) (hb:∀(j:Nat) y,j<i->l[j]?=some y->q y=false):idxQ q l=i:=by
 have hlt:i<l.length:=by
  rcases Nat.lt_or_ge i l.length with h|h
  ·exact h
  ·rw[List.getElem?_eq_none h]at hx;cases hx
 have h1:l.any q=true:=List.any_eq_true.2 ⟨x,List.mem_of_getElem? hx,hq⟩
 have h2:l.findIdx q=i:=by
  rw[List.findIdx_eq hlt]
  refine⟨by rw[List.getElem?_eq_getElem hlt]at hx;cases hx;exact hq,fun j hj=>hb j l[j] hj (List.getElem?_eq_getElem (by omega))⟩
 unfold idxQ
 rw[if_pos h1,h2]
theorem QnW {α:Type} {q:α->Bool} {l:List α}:decide (0<=idxQ q l)=l.any q:=by
 unfold idxQ
 cases h:l.any q
 ·simp
 ·simp
theorem QcT {K:Nat} {cap:List AV} (h:noRefs cap=true):noRef (.fn K [] cap)=true:=by
 simp only[noRef,noRefs,h];rfl
theorem index110 {K : Nat} {cap : List AV} (q : Nat -> Bool) (l : List Nat) (hl : l.length <= 1000000) (hc : noRefs cap = true) (hk : ∀ x ∈ l, PSpec Tryz.prog K (.int .i64 (x : Int) :: cap) (.bool (q x))) : PSpec Tryz.prog 110 [sliN l, .fn K [] cap] (.int .i64 (idxQ q l)) := by
  refine PSpec.Qaj 64 ok110 rfl (by rw[noRefs,noRefs,QcT hc,(Qac _)];rfl) rfl ?_
  have hfn:=QcT (K:=K) hc
  have hln:=(show(ints (nz l)).length=l.length*1 by simp[ints])
  simp(disch:=first|omega|(simp only[lenW]<;>omega)) only[s110,List.append_nil,wW,wV,simprocAttr]
  refine Qat 100 (fun i:Nat=>[(0,sliN l),(1,.fn K [] cap),(7,.int .i64 l.length),(8,.int .i64 i)]) (fun _=>[]) (fun i=>i<=l.length/\∀(j:Nat) y,j<i->l[j]?=some y->q y=false) (fun i=>l.length-i) 0 ?_ ⟨Nat.zero_le _,fun j y hj=>absurd hj (Nat.not_lt_zero _)⟩ ?_
  · exact⟨[],rfl,RO.zero,RB.nil,RT.cons (Rn.same (Qac _)) (RT.cons (Rn.same hfn) (RT.cons (Rn.same rfl) (RT.cons (Rn.same rfl) RT.nil)))⟩
  rintro i ⟨hi,hb⟩
  by_cases hlt:i<l.length
  · obtain ⟨x, hx⟩ := Qak hlt
    have hn:=hk x (List.mem_of_getElem? hx)
    have hdr:=QaL hx
    have hdl:1<=(List.drop (i*1) (ints (nz l))).length:=by rw[List.length_drop,hln];omega
    cases hq:q x
    · rw [hq] at hn
      simp(disch:=first|omega|(simp only[lenW]<;>omega)) only[hlt,hdr,hdl,List.head?_cons,List.append_nil,wW,wV,simprocAttr]
      refine⟨_,by simpa using hn,?_⟩
      simp(disch:=first|omega|(simp only[lenW]<;>omega)) only[List.append_nil,wW,wV,simprocAttr]
      refine⟨i+1,by omega,⟨by omega,fun j y hj hy=>?_⟩,?_⟩
      · by_cases e : j = i
        · subst e;rw[hx]at hy;cases hy;exact hq
        · exact hb j y (by omega) hy
      · exact⟨[],rfl,RO.zero,RB.nil,RT.cons (Rn.same (Qac _)) (RT.cons (Rn.same hfn) (RT.cons (Rn.same rfl) (RT.cons (Rn.same rfl) RT.nil)))⟩
    · rw [hq] at hn
      simp(disch:=first|omega|(simp only[lenW]<;>omega)) only[hlt,hdr,hdl,List.head?_cons,List.append_nil,wW,wV,simprocAttr]
      refine⟨_,by simpa using hn,?_⟩
      simp(disch:=first|omega|(simp only[lenW]<;>omega)) only[List.append_nil,wW,wV,simprocAttr]
      refine⟨.inr trivial,_,rfl,?_⟩
      rw[Qkz hx hq hb];rfl
  · simp (disch := first | omega | (simp only [lenW] <;> omega)) only [hlt, List.append_nil, wW, wV, simprocAttr]
    refine⟨.inr trivial,_,rfl,?_⟩
    rw[QhN fun x hx=>by
      obtain⟨j,hj,hjl⟩:=List.getElem_of_mem hx
      exact hb j x (by omega) (by rw[List.getElem?_eq_getElem hj,hjl])];rfl
theorem contains36 {K:Nat} {cap:List AV} (q:Nat->Bool) (l:List Nat) (hl:l.length<=1000000) (hc:noRefs cap=true) (hk:∀x∈l,PSpec Tryz.prog K (.int .i64 (x:Int)::cap) (.bool (q x))):PSpec Tryz.prog 36 [sliN l,.fn K [] cap] (.bool (l.any q)):=by
 refine PSpec.Qaj 64 ok36 rfl (by rw[noRefs,noRefs,QcT hc,Qac];rfl) rfl ?_
 simp(disch:=first|omega|(simp only[lenW]<;>omega)) only[s36,List.append_nil,wW,wV,simprocAttr]
 refine cp (index110 q l hl hc hk) ?_
 have e:=@QnW Nat q l
 cases h:l.any q
 ·rw [h, decide_eq_false_iff_not] at e
  simp(disch:=first|omega|(simp only[lenW]<;>omega)) only[e,List.append_nil,wW,wV,simprocAttr]
  exact⟨.inr trivial,_,rfl,rfl⟩
 ·rw [h, decide_eq_true_eq] at e
  simp(disch:=first|omega|(simp only[lenW]<;>omega)) only[e,List.append_nil,wW,wV,simprocAttr]
  exact⟨.inr trivial,_,rfl,rfl⟩
theorem ge166 (x:Nat):PSpec Tryz.prog 166 [.int .i64 (x:Int),.fptr [.int .i64 5]] (.bool (decide (5<=x))):=by
 refine PSpec.Qaj 64 ok166 rfl rfl rfl ?_
 have e:decide ((5:Int)<=(x:Int))=decide (5<=x):=decide_eq_decide.2 (by omega)
 simp(disch:=first|omega|(simp only[lenW]<;>omega)) only[s166,e,List.append_nil,wW,wV,simprocAttr]
 exact⟨.inr trivial,_,rfl,rfl⟩
end Go.AM.SO
namespace Go.AM.SR
open Go.Proofs
def s83:SFn:=⟨52,[.tmp 8],
 (.seq (.region [Zz 4 (.box .dyn (.t 0)) [],
 Zz 5 (.box .dyn (.t 1)) [],
 Zz 8 (.mov (.c (.int .i64 0))) []] [] [0,1,8])
 (.seq (.block 0 (.seq (.region [Zf 11 0 4 [],
 Zl 12 11 [0],
 Zz 13 (.call .pure (.f 135) [(.t 12)]) [1],
 Zz 14 (.un .not (.t 13)) [2],
 Zm 10 14 [3,2]] [] [11,12,13,14])
 (.cond (.t 10)
 (.seq (.region [Zz 8 (.mov (.c (.int .i64 7))) []] [] [2,3,4,5,10])
 .ret)
 (.seq (.region [Zm 16 3 [],
 Zf 17 0 4 [],
 Zl 18 17 [1],
 Zz 19 (.lookup false [.s] (.bool false) false (.t 16) (.t 18)) [0,2],
 Zm 15 19 [3]] [] [10,16,17,18,19])
 (.cond (.t 15)
 (.seq (.region [Zz 8 (.mov (.c (.int .i64 8))) []] [] [2,3,4,5,15])
 .ret)
 .skip)))))
 (.seq (.region [Zm 20 3 [],
 Zf 21 0 4 [],
 Zl 22 21 [1],
 Zy (.mupd false [.s] (.t 20) (.t 22) (.c (.bool true))) [0,2,0,1,2]] [] [8,3,15,20,21,22])
 (.seq (.seq (.region [Zf 23 1 4 [],
 Zw 24 4 23 [0],
 Zz 25 (.call .pure (.f 112) [(.t 24)]) [1],
 Zm 9 25 [2,2,0,1,2]] [] [23,24,25])
 (.seq (.region [Zm 26 9 [],
 Zz 27 (.bin .neq (.t 26) (.c (.int .i64 0))) [0]] [] [26])
 (.cond (.t 27)
 (.seq (.region [Zm 28 9 [],
 Zm 8 28 [0,0]] [] [2,4,5,9,27,28])
 .ret)
 .skip)))
 (.seq (.block 1 (.seq (.region [Zf 30 1 4 [],
 Zw 31 4 30 [0],
 Zz 32 (.call .pure (.f 60) [(.t 31)]) [1],
 Zz 33 (.un .not (.t 32)) [2],
 Zm 29 33 [3,2]] [] [8,9,27,30,31,32,33])
 (.cond (.t 29)
 (.seq (.region [Zz 8 (.mov (.c (.int .i64 6))) []] [] [2,4,5,29])
 .ret)
 (.seq (.region [Zf 35 1 4 [],
 Zf 36 1 35 [0],
 Zl 37 36 [1],
 Zz 38 (.bin .eql (.t 37) (.c (.int .i64 0))) [2],
 Zm 34 38 [3]] [] [29,35,36,37,38])
 (.cond (.t 34)
 (.seq (.region [Zz 8 (.mov (.c (.int .i64 12))) []] [] [2,4,5,34])
 .ret)
 (.seq (.region [Zf 40 1 4 [],
 Zf 41 0 40 [0],
 Zl 42 41 [1],
 Zz 43 (.mkfn 166 [] [(.t 5)]) [],
 Zz 44 (.call .heap (.f 36) [(.t 42),(.t 43)]) [2,3],
 Zm 39 44 [4,4]] [] [5,34,40,41,42,43,44])
 (.cond (.t 39)
 (.seq (.region [Zz 8 (.mov (.c (.int .i64 2))) []] [] [2,4,39])
 .ret)
 (.seq (.region [Zf 46 1 4 [],
 Zf 47 0 46 [0],
 Zl 48 47 [1],
 Zm 49 2 [],
 Zz 50 (.call .pure (.f 167) [(.t 48),(.t 49)]) [2,3],
 Zz 51 (.un .not (.t 50)) [4],
 Zm 45 51 [5,4]] [] [2,4,39,46,47,48,49,50,51])
 (.cond (.t 45)
 (.seq (.region [Zz 8 (.mov (.c (.int .i64 9))) []] [] [45])
 .ret)
 .skip)))))))))
 (.seq (.region [Zz 8 (.mov (.c (.int .i64 0))) []] [] [45])
 .ret))))))⟩
theorem ok83:okFn Tryz.prog 83 s83=true:=by kernel_rfl
end Go.AM.SR
namespace Go.AM.SO
open Go.Proofs Go.AM.SD Go.AM.SE
theorem QmA {A B:List Nat} (hA:A.Pairwise (· < ·)) (hB:B.Pairwise (· < ·)) (h:∀x∈A,x∈B):mrg (fun a b=>a&& !b) A B=[]:=by
 rw[List.eq_nil_iff_forall_not_mem]
 intro x hx
 obtain⟨h1,h2⟩:=(Qbm hA hB).1 hx
 simp at h1
 exact h1.2 (h x h1.1)
theorem Qjc {a:Aut} (h:WfA a):a.al.length<=5:=QaM 5 a.al (by rw[List.nodup_iff_pairwise_ne];exact h.al.imp fun h=>by omega) h.al5
abbrev nmsB (l:List (List UInt8)):Blk:= .map 0 (mapS yes l)
theorem item83 (nm:List UInt8) (a:Aut) (B:List Nat) (names:List (List UInt8)) (h:WfI a) (hN:PSpec Tryz.prog 135 [.str nm] (.bool true)) (hn:nm∉names) (hnl:names.length<=100) (hB:B.Pairwise (· < ·)) (hBl:B.length<=1000000) (hs:∀x∈a.al,x∈B):
  HSpec Tryz.prog 83 [.agg [.str nm,sliN a.al,.int .i64 (a.n:Int),sliN a.ms,egsN a.es],.int .i64 5,sliN B,.map 68 0] (hp [(68,nmsB names)]) (.int .i64 0) (hp [(68,nmsB (names++[nm]))]):=by
 have hal:=Qjc h.wf
 have hel:a.es.length<=1000000:=Nat.le_trans h.el (by decide)
 have hC:=check112 a h.wf hel
 have hI:=isCanon60 a h.wf hel h.can
 have hp0:=h.pos
 have hn0:¬(a.n:Int)=0:=by omega
 have h36:=contains36 (K:=166) (cap:=[.fptr [.int .i64 5]]) (fun x=>decide (5<=x)) a.al (by omega) rfl (fun x _=>ge166 x)
 have hany:a.al.any (fun x=>decide (5<=x))=false:=by
  rw[List.any_eq_false]
  intro x hx
  have:=h.wf.al5 x hx
  simp;omega
 rw[hany]at h36
 have hsub:=subset167 a.al B (by omega) hBl
 rw[QmA h.wf.al hB hs]at hsub
 have hsub':PSpec Tryz.prog 167 [sliN a.al,sliN B] (.bool true):=hsub
 refine HSpec.Qoa (m:=69) 100 SR.ok83 rfl rfl rfl ?_
 simp(disch:=first|omega|(simp only[lenW]<;>omega)) only[SR.s83,wW,wV,simprocAttr]
 refine cp hN ?_
 simp(disch:=first|omega|(simp only[lenW]<;>omega)) only[wW,wV,simprocAttr]
 refine QeL gg hn ?_
 simp(disch:=first|omega|(simp only[lenW]<;>omega)) only[wW,wV,simprocAttr]
 refine Qdq gg hn (by omega) ?_
 simp(disch:=first|omega|(simp only[lenW]<;>omega)) only[QfX,wW,wV,simprocAttr]
 refine cp hC ?_
 simp(disch:=first|omega|(simp only[lenW]<;>omega)) only[wW,wV,simprocAttr]
 refine cp hI ?_
 simp(disch:=first|omega|(simp only[lenW]<;>omega)) only[hn0,wW,wV,simprocAttr]
 refine SU.chc (HSpec.lend (FrzL.cons (FrzTo.same _) (FrzL.cons (FrzTo.fn FrzL.nil (FrzL.cons (FrzTo.ptr (g:=0) (cs:=[.int .i64 5]) gg (FrzL.same _)) FrzL.nil)) FrzL.nil)) h36 rfl) ?_
 simp(disch:=first|omega|(simp only[lenW]<;>omega)) only[wW,wV,simprocAttr]
 refine cp hsub' ?_
 simp(disch:=first|omega|(simp only[lenW]<;>omega)) only[wW,wV,simprocAttr]
 refine⟨.inr trivial,_,rfl,rfl,?_⟩
 refine⟨[(68,.nil)],rfl,au0,?_,au16⟩
 exact RB.mapB rfl gg (RnM.mapS fun _ _=>Rn.same rfl) RB.nil
theorem item83F {h:Heap} (nm:List UInt8) (a:Aut) (B:List Nat) (names:List (List UInt8)) (hw:WfI a) (hN:PSpec Tryz.prog 135 [.str nm] (.bool true)) (hn:nm∉names) (hnl:names.length<=100) (hB:B.Pairwise (· < ·)) (hBl:B.length<=1000000) (hs:∀x∈a.al,x∈B) (h68:h.get 68=some (nmsB names)):
  HSpec Tryz.prog 83 [.agg [.str nm,sliN a.al,.int .i64 (a.n:Int),sliN a.ms,egsN a.es],.int .i64 5,sliN B,.map 68 0] h (.int .i64 0) (h.set 68 (nmsB (names++[nm]))):=by
 have hm:∀(l:List (List UInt8)),∀e∈mapS yes l,noRef e.1=true/\noRef e.2=true:=fun l e he=>by
  unfold mapS at he
  obtain⟨x,_,rfl⟩:=List.mem_map.1 he
  exact⟨rfl,rfl⟩
 exact HSpec.frameM (item83 nm a B names hw hN hn hnl hB hBl hs) (OnlyD.cons (OnlyD.same (by rw[noRef];exact SU.QcW)) (OnlyD.cons (OnlyD.same rfl) (OnlyD.cons (OnlyD.same (Qac _)) (OnlyD.cons (OnlyD.map rfl) OnlyD.nil)))) (OnlyD.same rfl) (hm _) (hm _) h68 rfl
end Go.AM.SO
namespace Go.AM.SO
open Go.Proofs Go.AM.SD Go.AM.SE
def uUp (l:List (Nat×Aut)):List Nat:=l.foldl (fun out x=>mrg (fun a b=>a||b) out x.2.al) []
theorem QgQ:∀{l:List (Nat×Aut)} {out:List Nat},out.Pairwise (· < ·)->(∀x∈l,x.2.al.Pairwise (· < ·))->
  (l.foldl (fun out x=>mrg (fun a b=>a||b) out x.2.al) out).Pairwise (· < ·)/\∀e,e∈l.foldl (fun out x=>mrg (fun a b=>a||b) out x.2.al) out↔e∈out\/∃y∈l,e∈y.2.al
 |[],out,h,_=>⟨h,fun e=>by simp⟩
 | x :: l, out, h, hl => by
  have hx:=hl x (by simp)
  obtain⟨h1,h2⟩:=QgQ (l:=l) (QbS (k:=fun a b=>a||b) h hx) fun y hy=>hl y (by simp[hy])
  refine⟨h1,fun e=>?_⟩
  rw[List.foldl_cons,h2 e,Qbm h hx]
  simp only[List.mem_cons,exists_eq_or_imp,Bool.or_eq_true,decide_eq_true_eq]
  constructor
  ·rintro (⟨h3, _⟩ | h3)
   ·rcases h3 with h3 | h3
    ·exact .inl h3
    ·exact .inr (.inl h3)
   ·exact .inr (.inr h3)
  ·rintro (h3 | h3 | h3)
   ·exact .inl ⟨.inl h3,.inl h3⟩
   ·exact .inl ⟨.inr h3,.inr h3⟩
   ·exact .inr h3
theorem Qgy {l:List (Nat×Aut)} (h:∀x∈l,WfI x.2):(uUp l).Pairwise (· < ·):=(QgQ (by simp) fun x hx=>(h x hx).wf.al).1
theorem QkA {l:List (Nat×Aut)} (h:∀x∈l,WfI x.2) {e:Nat}:e∈uUp l↔∃y∈l,e∈y.2.al:=by
 have:=(QgQ (l:=l) (out:=[]) (by simp) fun x hx=>(h x hx).wf.al).2 e
 simpa[uUp]using this
theorem QkB {l:List (Nat×Aut)} (h:∀x∈l,WfI x.2):(uUp l).length<=5:=by
 refine QaM 5 _ (by rw[List.nodup_iff_pairwise_ne];exact(Qgy h).imp fun h=>by omega) fun x hx=>?_
 obtain⟨y,hy,he⟩:=(QkA h).1 hx
 exact(h y hy).wf.al5 x he
theorem Qnh {l:List (Nat×Aut)} {i:Nat} {x:Nat×Aut} (h:l[i]?=some x):uUp (l.take (i+1))=mrg (fun a b=>a||b) (uUp (l.take i)) x.2.al:=by
 unfold uUp
 rw[take_succ' h,List.foldl_append];rfl
def nmsI (ch:UInt8) (l:List (Nat×Aut)):List (List UInt8):=l.map fun x=>[ch,UInt8.ofNat (48+x.1)]
theorem Qjd {ch:UInt8} {l:List (Nat×Aut)} {i:Nat} {x:Nat×Aut} (h:l[i]?=some x):nmsI ch (l.take (i+1))=nmsI ch (l.take i)++[[ch,UInt8.ofNat (48+x.1)]]:=by
 unfold nmsI
 rw[take_succ' h,List.map_append];rfl
theorem QnX {a b:Nat} (ha:a<10) (hb:b<10) (h:UInt8.ofNat (48+a)=UInt8.ofNat (48+b)):a=b:=by
 have:=congrArg UInt8.toNat h
 simp at this
 omega
theorem Qgz {l:List (Nat×Aut)} (h:l.map (·.1)=List.range l.length) {i:Nat} {x:Nat×Aut} (hx:l[i]?=some x):x.1=i/\i<l.length:=by
 have hi:i<l.length:=by
  rcases Nat.lt_or_ge i l.length with h|h
  ·exact h
  ·rw[List.getElem?_eq_none h]at hx;cases hx
 have h1:(l.map (·.1))[i]?=some x.1:=by rw[List.getElem?_map,hx];rfl
 rw[h,List.getElem?_range hi]at h1
 cases h1
 exact⟨rfl,hi⟩
theorem QkC {ch:UInt8} {l:List (Nat×Aut)} (h:l.map (·.1)=List.range l.length) (h3:l.length<=9) {i:Nat} {x:Nat×Aut} (hx:l[i]?=some x):[ch,UInt8.ofNat (48+x.1)]∉nmsI ch (l.take i):=by
 intro hm
 obtain⟨y,hy,he⟩:=List.mem_map.1 hm
 obtain⟨j,hj,hjl⟩:=List.getElem_of_mem hy
 rw[List.length_take]at hj
 rw[List.getElem_take]at hjl
 obtain⟨e1,e2⟩:=Qgz h hx
 obtain⟨e3,e4⟩:=Qgz h (i:=j) (x:=y) (by rw[<-hjl];exact List.getElem?_eq_getElem (by omega))
 have:=QnX (a:=y.1) (b:=x.1) (by omega) (by omega) (by simpa using he)
 omega
theorem QmB {a b:UInt8} (hab:a≠b) {s:UInt8} {l:List (Nat×Aut)}:[a,s]∉nmsI b l:=by
 intro hm
 obtain⟨y,hy,he⟩:=List.mem_map.1 hm
 simp at he
 exact hab he.1.symm
theorem Qi5 {i:Nat} (h:i<3):PSpec Tryz.prog 135 [.str [99,UInt8.ofNat (48+i)]] (.bool true):=by
 have:i=0\/i=1\/i=2:=by omega
 rcases this with rfl|rfl|rfl
 ·exact SP.QnH
 ·exact SP.QnI
 ·exact SP.QnJ
theorem QoL {i:Nat} (h:i<2):PSpec Tryz.prog 135 [.str [114,UInt8.ofNat (48+i)]] (.bool true):=by
 have:i=0\/i=1:=by omega
 rcases this with rfl|rfl
 ·exact SP.QnK
 ·exact SP.QnL
theorem QeX {m:Nat} {π:Nat->Option Src} {h:Heap}:RnM m π h (mapS yes []) []:=trivial
theorem QcI (c:Cel):noRefs [evsV c.ev,its 99 c.cs,its 114 c.rs,exs c.xs,cos c.ks]=true:=by
 have:=SU.Qba c
 rwa [celV,noRef]at this
theorem check21 (c : Cel) (h : WfCel c) : PSpec Tryz.prog 21 [celV c] (.int .i64 0) := by
  have hnr:=QcI c
  refine PSpec.Qaj 64 ok21 rfl (by rw[noRefs,SU.Qba];rfl) rfl ?_
  have hE:=check82 c.ev h.ev
  have h0:=h.c0
  have h3:=h.c3
  have h2:=h.r2
  have g1:¬(c.cs.length:Int)=0:=by omega
  have g2:¬(8:Int)<(c.cs.length:Int):=by omega
  have g3:¬(12:Int)<(c.cs.length:Int)+(c.rs.length:Int):=by omega
  have hdL:=conds85 c h
  have hdC:=conds32 c h
  simp(disch:=first|omega|(simp only[lenW]<;>omega)) only[s21,wW,wV,simprocAttr]
  refine cp hE ?_
  simp(disch:=first|omega|(simp only[lenW]<;>omega)) only[g1,g2,g3,wW,wV,simprocAttr]
  refine Qax 140 (fun i:Nat=>[(1,.ptr 50 0 0),(5,.map 68 0),(6,.sl 76 0 0 i 1),(7,.nilsl),(41,.int .i64 5),(42,.int .i64 i)]) (fun i=>[(50,.cells 0 [evsV c.ev,its 99 c.cs,its 114 c.rs,exs c.xs,cos c.ks]),(68,nmsB []),(76,.cells 0 (ints (nz (List.range i))))]) (fun i=>i<=5) (fun i=>5-i) 0 1 180
    (fun _:Unit=>[(1,.ptr 50 0 0),(5,.map 68 0),(6,sliN (List.range 5)),(7,sliN [])]) (fun _=>[(50,.cells 0 [evsV c.ev,its 99 c.cs,its 114 c.rs,exs c.xs,cos c.ks]),(68,nmsB [])]) (fun _=>True) ?_ (Nat.zero_le _) ?_ ?_
  · refine ⟨[(50, .blk 64 0), (68, .blk 90 0), (76, .nil)], rfl, au0, ?_, au16⟩
    exact RB.cells rfl rfl gg (RnL.same hnr) (RB.map rfl rfl gg QeX (RB.newnil rfl rfl RB.nil))
  · rintro i hi
    by_cases hlt:i<5
    · have hlt2 : (i : Int) < 5 := by omega
      have hrl:(ints (nz (List.range i))).length=i:=by simp[ints]
      simp(disch:=first|omega|(simp only[lenW]<;>omega)) only[hlt2,List.length_range,hrl,wW,wV,simprocAttr]
      refine⟨i+1,by omega,by omega,?_⟩
      rw[List.range_succ,QaH,QaD]
      refine⟨[(50,.blk 50 0),(68,.blk 68 0),(76,.blk 76 1)],rfl,au0,?_,au16⟩
      exact RB.cells rfl rfl gg (RnL.same hnr) (RB.map rfl rfl gg QeX (RB.cells rfl rfl gg (RnL.same (SU.Qa3 (Qaa _) rfl)) RB.nil))
    · have e : i = 5 := by omega
      subst e
      simp(disch:=first|omega|(simp only[lenW]<;>omega)) only[wW,wV,simprocAttr]
      refine⟨(),[(50,.blk 50 0),(68,.blk 68 0)],rfl,RO.zero,?_,?_⟩
      · exact RB.cells rfl rfl gg (RnL.same hnr) (RB.map rfl rfl gg QeX RB.nil)
      · exact RT.cons (Rn.x2 rfl rfl) (RT.cons (Rn.x3 rfl rfl) (RT.cons (Rn.fz (b:=76) (g:=0) gg rfl rfl rfl (RnL.same rfl)) (RT.cons Rn.nilK RT.nil)))
  rintro _ _
  simp(disch:=first|omega|(simp only[lenW]<;>omega)) only[wW,wV,simprocAttr]
  refine Qax 240 (fun i:Nat=>[(1,.ptr 50 0 0),(5,.map 68 0),(6,sliN (List.range 5)),(7,sliN (uUp (c.cs.take i))),(51,its 99 c.cs),(52,.int .i64 c.cs.length),(53,.int .i64 i)]) (fun i=>[(50,.cells 0 [evsV c.ev,its 99 c.cs,its 114 c.rs,exs c.xs,cos c.ks]),(68,nmsB (nmsI 99 (c.cs.take i)))]) (fun i=>i<=c.cs.length) (fun i=>c.cs.length-i) 0 3 280
    (fun _:Unit=>[(1,.ptr 50 0 0),(5,.map 68 0),(7,sliN (uUp c.cs))]) (fun _=>[(50,.cells 0 [evsV c.ev,its 99 c.cs,its 114 c.rs,exs c.xs,cos c.ks]),(68,nmsB (nmsI 99 c.cs))]) (fun _=>True) ?_ (Nat.zero_le _) ?_ ?_
  · refine ⟨[(50, .blk 50 0), (68, .blk 68 0)], rfl, au0, ?_, au16⟩
    exact RB.cells rfl rfl gg (RnL.same hnr) (RB.map rfl rfl gg QeX RB.nil)
  · rintro i hi
    by_cases hlt:i<c.cs.length
    · obtain ⟨x, hx⟩ := Qak hlt
      have hxm:=List.mem_of_getElem? hx
      have hdr:=SU.QeT (ch:=99) hx
      have hdl:5<=((c.cs.flatMap (itC 99)).drop (i*5)).length:=by rw[hdr];simp
      have hwi:=h.ca x hxm
      have hfa:=Qgz h.cn hx
      have hnl:(nmsI 99 (c.cs.take i)).length<=100:=by simp[nmsI];omega
      have hN:=Qi5 (i:=x.1) (by omega)
      have hnew:=QkC (ch:=99) h.cn (by omega) hx
      have hulen:(uUp (c.cs.take i)).length<=1000000:=by have:=QkB (l:=c.cs.take i) fun y hy=>h.ca y (List.mem_of_mem_take hy);omega
      have hU:=union84 (uUp (c.cs.take i)) x.2.al hulen (by have:=Qjc hwi.wf;omega)
      rw[<-Qnh hx]at hU
      have hns:=Qjd (ch:=99) hx
      simp(disch:=first|omega|(simp only[lenW]<;>omega)) only[hlt,hdr,hdl,wW,wV,simprocAttr]
      refine SU.chc (item83F _ _ _ _ hwi hN hnew hnl List.pairwise_lt_range (by decide) (fun e he=>List.mem_range.2 (hwi.wf.al5 e he)) gg) ?_
      simp(disch:=first|omega|(simp only[lenW]<;>omega)) only[wW,wV,simprocAttr]
      refine cp hU ?_
      simp(disch:=first|omega|(simp only[lenW]<;>omega)) only[wW,wV,simprocAttr]
      refine⟨i+1,by omega,by omega,?_⟩
      rw[hns]
      refine⟨[(50,.blk 50 0),(68,.blk 68 0)],rfl,au0,?_,au16⟩
      exact RB.cells rfl rfl gg (RnL.same hnr) (RB.map rfl rfl gg (RnM.mapS fun _ _=>Rn.same rfl) RB.nil)
    · have e : i = c.cs.length := by omega
      subst e
      simp(disch:=first|omega|(simp only[lenW]<;>omega)) only[hlt,List.take_length,wW,wV,simprocAttr]
      refine⟨(),?_⟩
      refine⟨[(50,.blk 50 0),(68,.blk 68 0)],rfl,au0,?_,au16⟩
      exact RB.cells rfl rfl gg (RnL.same hnr) (RB.map rfl rfl gg (RnM.mapS fun _ _=>Rn.same rfl) RB.nil)
  rintro _ _
  simp(disch:=first|omega|(simp only[lenW]<;>omega)) only[wW,wV,simprocAttr]
  refine Qax 340 (fun i:Nat=>[(1,.ptr 50 0 0),(5,.map 68 0),(7,sliN (uUp c.cs)),(74,its 114 c.rs),(75,.int .i64 c.rs.length),(76,.int .i64 i)]) (fun i=>[(50,.cells 0 [evsV c.ev,its 99 c.cs,its 114 c.rs,exs c.xs,cos c.ks]),(68,nmsB (nmsI 99 c.cs++nmsI 114 (c.rs.take i)))]) (fun i=>i<=c.rs.length) (fun i=>c.rs.length-i) 0 5 380
    (fun _:Unit=>[(1,.ptr 50 0 0)]) (fun _=>[(50,.cells 0 [evsV c.ev,its 99 c.cs,its 114 c.rs,exs c.xs,cos c.ks])]) (fun _=>True) ?_ (Nat.zero_le _) ?_ ?_
  · rw [show nmsI 99 c.cs ++ nmsI 114 (c.rs.take 0) = nmsI 99 c.cs by simp [nmsI]]
    refine⟨[(50,.blk 50 0),(68,.blk 68 0)],rfl,au0,?_,au16⟩
    exact RB.cells rfl rfl gg (RnL.same hnr) (RB.map rfl rfl gg (RnM.mapS fun _ _=>Rn.same rfl) RB.nil)
  · rintro i hi
    by_cases hlt:i<c.rs.length
    · obtain ⟨x, hx⟩ := Qak hlt
      have hxm:=List.mem_of_getElem? hx
      have hdr:=SU.QeT (ch:=114) hx
      have hdl:5<=((c.rs.flatMap (itC 114)).drop (i*5)).length:=by rw[hdr];simp
      have hwi:=h.ra x hxm
      have hfa:=Qgz h.rn hx
      have hnl:(nmsI 99 c.cs++nmsI 114 (c.rs.take i)).length<=100:=by simp[nmsI];omega
      have hN:=QoL (i:=x.1) (by omega)
      have hnew:[114,UInt8.ofNat (48+x.1)]∉nmsI 99 c.cs++nmsI 114 (c.rs.take i):=by
        intro hm
        rcases List.mem_append.1 hm with hm|hm
        · exact QmB (by decide) hm
        · exact QkC (ch:=114) h.rn (by omega) hx hm
      have hulen:(uUp c.cs).length<=1000000:=by have:=QkB (l:=c.cs) h.ca;omega
      have hns:=Qjd (ch:=114) hx
      simp(disch:=first|omega|(simp only[lenW]<;>omega)) only[hlt,hdr,hdl,wW,wV,simprocAttr]
      refine SU.chc (item83F _ _ _ _ hwi hN hnew hnl (Qgy h.ca) hulen (fun e he=>(QkA h.ca).2 (h.rsub x hxm e he)) gg) ?_
      simp(disch:=first|omega|(simp only[lenW]<;>omega)) only[wW,wV,simprocAttr]
      refine⟨i+1,by omega,by omega,?_⟩
      rw[hns,<-List.append_assoc]
      refine⟨[(50,.blk 50 0),(68,.blk 68 0)],rfl,au0,?_,au16⟩
      exact RB.cells rfl rfl gg (RnL.same hnr) (RB.map rfl rfl gg (RnM.mapS fun _ _=>Rn.same rfl) RB.nil)
    · simp (disch := first | omega | (simp only [lenW] <;> omega)) only [hlt, wW, wV, simprocAttr]
      refine⟨(),?_⟩
      refine⟨[(50,.blk 50 0)],rfl,au0,?_,au16⟩
      exact RB.cells rfl rfl gg (RnL.same hnr) RB.nil
  rintro _ _
  simp(disch:=first|omega|(simp only[lenW]<;>omega)) only[wW,wV,simprocAttr]
  refine cp hdL ?_
  simp(disch:=first|omega|(simp only[lenW]<;>omega)) only[wW,wV,simprocAttr]
  refine cp hdC ?_
  simp(disch:=first|omega|(simp only[lenW]<;>omega)) only[wW,wV,simprocAttr]
  exact⟨.inr trivial,_,rfl,rfl⟩
end Go.AM.SO
namespace Go.AM.SL
open Go.Proofs
end Go.AM.SL
namespace Go.AM.SO
open Go.Proofs Go.AM.SD Go.AM.SE
theorem u8_wf {n:Int} (h:(Lit.int .u8 n).wf=true):0<=n/\n<256:=by
 simp[Lit.wf,IntKind.min,IntKind.max,IntKind.signed,IntKind.bits]at h
 omega
theorem i8_wf {n:Int} (h:(Lit.int .i8 n).wf=true): -128<=n/\n<128:=by
 simp[Lit.wf,IntKind.min,IntKind.max,IntKind.signed,IntKind.bits]at h
 omega
def u8O:Ty->Bool
 | .int k=>k== .u8
 | .arr _ t=>u8O t
 | .st t=>u8O t
 | .unit=>true
 | .pair a b=>u8O a&&u8O b
 |_=>false
theorem Qeg {a b:List Nat}:u8s (a++b)=u8s a++u8s b:=by simp[u8s]
theorem QbB:∀(t:Ty),u8O t=true->∀(d:t.D),t.wf d->∃l:List Nat,l.length=t.sz/\(∀x∈l,x<256)/\t.cells d=u8s l
 | .int k,h,d,hw=>by
  have:k= .u8:=by simpa[u8O]using h
  subst this
  have:=u8_wf hw
  refine⟨[Int.toNat d],rfl,by simp;omega,?_⟩
  show[AV.int .u8 d]=[AV.int .u8 ((Int.toNat d:Nat):Int)]
  rw[Int.toNat_of_nonneg this.1]
 | .bool,h,_,_=>by cases h
 | .str,h,_,_=>by cases h
 | .sl _,h,_,_=>by cases h
 | .st t,h,d,hw=>QbB t h d hw
 | .unit,_,_,_=>⟨[],rfl,by simp,rfl⟩
 | .pair a b,h,d,hw=>by
  simp only[u8O,Bool.and_eq_true]at h
  obtain⟨l,h1,h2,h3⟩:=QbB a h.1 d.1 hw.1
  obtain⟨m,g1,g2,g3⟩:=QbB b h.2 d.2 hw.2
  refine⟨l++m,by rw[List.length_append,h1,g1];rfl,fun x hx=>(List.mem_append.1 hx).elim (h2 x) (g2 x),?_⟩
  show a.cells d.1++b.cells d.2=_
  rw[h3,g3,Qeg]
 | .arr n t, h, d, hw => by
  obtain⟨hl,hx⟩:=hw
  have key:∀l:List t.D,(∀x∈l,t.wf x)->∃r:List Nat,r.length=l.length*t.sz/\(∀x∈r,x<256)/\l.flatMap t.cells=u8s r:=by
   intro l
   induction l with
   |nil=>intro _;exact⟨[],by simp,by simp,rfl⟩
   |cons a l ih=>
    intro hl
    obtain⟨r,g1,g2,g3⟩:=ih fun y hy=>hl y (by simp[hy])
    obtain⟨m,h1,h2,h3⟩:=QbB t h a (hl a (by simp))
    refine⟨m++r,by rw[List.length_append,h1,g1,List.length_cons,Nat.succ_mul];omega,fun x hx=>(List.mem_append.1 hx).elim (h2 x) (g2 x),?_⟩
    rw[List.flatMap_cons,g3,h3,Qeg]
  obtain⟨r,g1,g2,g3⟩:=key d hx
  refine⟨r,by rw[g1];show List.length d*t.sz=n*t.sz;rw[hl],g2,g3⟩
abbrev tyTo:Ty:= .arr 5 (.arr 5 (.int .u8))
abbrev tyGr:Ty:= .st (.pair (.int .u8) (.pair (.int .u8) (.pair tyTo .unit)))
abbrev tyPln:Ty:= .st (.pair (.arr 5 (.int .u8)) (.pair (.int .u8) (.pair (.arr 3 (.int .u8)) (.pair (.arr 3 tyGr) (.pair (.int .u8) (.pair (.arr 2 (.int .u8)) (.pair (.arr 2 tyGr)
 (.pair (.sl (.arr 4 (.int .u8))) (.pair (.arr 3 (.int .i8)) (.pair (.int .i8) .unit))))))))))
theorem QmC {d:tyPln.D} (h:tyPln.wf d):∃p:Pln,POk p/\p.xn<=9223372036854775807/\tyPln.val d=plnV p:=by
 obtain⟨a,b,c,g,e,f,k,x,y,z,u⟩:=d
 obtain⟨h1,h2,h3,h4,h5,h6,h7,h8,h9,h10,_⟩:=h
 dsimp only at h1 h2 h3 h4 h5 h6 h7 h8 h9 h10
 obtain⟨l1,a1,b1,c1⟩:=QbB (.arr 5 (.int .u8)) rfl _ h1
 obtain⟨l2,a2,b2,c2⟩:=QbB (.int .u8) rfl _ h2
 obtain⟨l3,a3,b3,c3⟩:=QbB (.arr 3 (.int .u8)) rfl _ h3
 obtain⟨l4,a4,b4,c4⟩:=QbB (.arr 3 tyGr) rfl _ h4
 obtain⟨l5,a5,b5,c5⟩:=QbB (.int .u8) rfl _ h5
 obtain⟨l6,a6,b6,c6⟩:=QbB (.arr 2 (.int .u8)) rfl _ h6
 obtain⟨l7,a7,b7,c7⟩:=QbB (.arr 2 tyGr) rfl _ h7
 obtain⟨h80,h8⟩:=h8
 obtain⟨l8,a8,b8,c8⟩:=QbB (.arr (List.length x) (.arr 4 (.int .u8))) rfl x ⟨rfl,h8⟩
 obtain⟨hy,hyw⟩:=h9
 obtain⟨y0,y1,y2,rfl⟩:∃y0 y1 y2,y=[y0,y1,y2]:=by
  match y,hy with
  |[y0,y1,y2],_=>exact⟨y0,y1,y2,rfl⟩
 have w0:=i8_wf (hyw y0 (by simp))
 have w1:=i8_wf (hyw y1 (by simp))
 have w2:=i8_wf (hyw y2 (by simp))
 have wz:=i8_wf h10
 refine⟨⟨l1++l2++l3++l4++l5++l6++l7,l8,List.length x,y0,y1,y2,z⟩,⟨?_,?_,a8,b8,w0,w1,w2,wz⟩,h80,?_⟩
 ·simp only[List.length_append,a1,a2,a3,a4,a5,a6,a7];rfl
 ·intro v hv
  simp only[List.mem_append]at hv
  rcases hv with(((((hv|hv)|hv)|hv)|hv)|hv)|hv
  ·exact b1 v hv
  ·exact b2 v hv
  ·exact b3 v hv
  ·exact b4 v hv
  ·exact b5 v hv
  ·exact b6 v hv
  ·exact b7 v hv
 ·show AV.agg (tyPln.cells _) = _
  congr 1
  show(Ty.arr 5 (.int .u8)).cells a++((Ty.int .u8).cells b++((Ty.arr 3 (.int .u8)).cells c++((Ty.arr 3 tyGr).cells g++((Ty.int .u8).cells e++((Ty.arr 2 (.int .u8)).cells f++((Ty.arr 2 tyGr).cells k++
   ([.fsl ((Ty.arr (List.length x) (.arr 4 (.int .u8))).cells x) (List.length x) 4]++((Ty.arr 3 (.int .i8)).cells [y0,y1,y2]++((Ty.int .i8).cells z++[])))))))))=_
  rw[c1,c2,c3,c4,c5,c6,c7,c8]
  simp only[plnC,Qeg,List.append_assoc]
  rfl
end Go.AM.SO
namespace Go.AM.SO
open Go.Proofs Go.AM.SD Go.AM.SE
end Go.AM.SO
namespace Go.AM.SO
open Go.Proofs Go.AM.SD Go.AM.SE
def eqL {α:Type} (e:α->α->Bool) (a b:List α):Bool:=decide (a.length=b.length)&&(List.range a.length).all fun i=>match a[i]?,b[i]? with
 |some x,some y=>e x y
 |_,_=>true
theorem Qc4 {α:Type} {e:α->α->Bool} {a b:List α} (h:¬a.length=b.length):eqL e a b=false:=by
 unfold eqL;simp[h]
theorem Qb0 {α:Type} {e:α->α->Bool} {a b:List α} (hl:a.length=b.length) (h:∀(j:Nat) x y,a[j]?=some x->b[j]?=some y->e x y=true):eqL e a b=true:=by
 unfold eqL
 rw[Bool.and_eq_true,decide_eq_true_eq,List.all_eq_true]
 refine⟨hl,fun i _=>?_⟩
 split
 ·rename_i x y hx hy;exact h i x y hx hy
 ·rfl
theorem Qcf {α:Type} {e:α->α->Bool} {a b:List α} {i:Nat} {x y:α} (hx:a[i]?=some x) (hy:b[i]?=some y) (he:e x y=false):eqL e a b=false:=by
 have hi:i<a.length:=by
  rcases Nat.lt_or_ge i a.length with h|h
  ·exact h
  ·rw[List.getElem?_eq_none h]at hx;cases hx
 unfold eqL
 rw[Bool.and_eq_false_iff]
 right
 rw[List.all_eq_false]
 exact⟨i,List.mem_range.2 hi,by rw[hx,hy];simp[he]⟩
theorem Qb1 {α:Type} {e:α->α->Bool} {a:List α} (h:∀x∈a,e x x=true):eqL e a a=true:=
 Qb0 rfl fun j x y hx hy=>by rw[hx]at hy;cases hy;exact h x (List.mem_of_getElem? hx)
def itN (x:List UInt8×Aut):List AV:=[.str x.1,sliN x.2.al,.int .i64 (x.2.n:Int),sliN x.2.ms,egsN x.2.es]
abbrev itNV (x:List UInt8×Aut):AV:= .agg [.str x.1,sliN x.2.al,.int .i64 (x.2.n:Int),sliN x.2.ms,egsN x.2.es]
abbrev itsN (l:List (List UInt8×Aut)):AV:= .fsl (l.flatMap itN) l.length 5
def nmL' (ch:UInt8) (l:List (Nat×Aut)):List (List UInt8×Aut):=l.map fun x=>([ch,UInt8.ofNat (48+x.1)],x.2)
theorem QcU {ch:UInt8} {l:List (Nat×Aut)}:its ch l=itsN (nmL' ch l):=by
 unfold nmL'
 have:(l.map fun x=>([ch,UInt8.ofNat (48+x.1)],x.2)).flatMap itN=l.flatMap (itC ch):=by
  rw[List.flatMap_map];rfl
 rw[itsN,this,List.length_map]
theorem Qbj (l:List (List UInt8×Aut)):noRefs (l.flatMap itN)=true:=QaK (fun x=>by simp only[itN,noRefs,noRef,Qaa,Qad];rfl) l
theorem Qbf (l:List (List UInt8×Aut)):noRef (itsN l)=true:=by simp only[noRef];exact Qbj l
theorem Qds (l:List (List UInt8×Aut)):(l.flatMap itN).length=l.length*5:=QbM (k:=5) (fun _=>rfl) l
theorem QeY {l:List (List UInt8×Aut)} {i:Nat} {x:List UInt8×Aut} (h:l[i]?=some x):(l.flatMap itN).drop (i*5)= .str x.1::sliN x.2.al:: .int .i64 (x.2.n:Int)::sliN x.2.ms::egsN x.2.es::(l.drop (i+1)).flatMap itN:=Qbh (f:=itN) (k:=5) (fun _=>rfl) h
def evl (e:Nat->Evt):List (List UInt8×Evt):=(List.range 5).map fun i=>([UInt8.ofNat (97+i)],e i)
def evN (x:List UInt8×Evt):List AV:=[.str x.1,.bool x.2.c,.bool x.2.o,.bool x.2.f,.int .i64 (x.2.flt:Int)]
abbrev evNV (x:List UInt8×Evt):AV:= .agg [.str x.1,.bool x.2.c,.bool x.2.o,.bool x.2.f,.int .i64 (x.2.flt:Int)]
abbrev evsN (l:List (List UInt8×Evt)):AV:= .fsl (l.flatMap evN) l.length 5
theorem QeZ (e:Nat->Evt):evsV e=evsN (evl e):=rfl
theorem Qcp (l:List (List UInt8×Evt)):noRefs (l.flatMap evN)=true:=QaK (fun x=>rfl) l
theorem QkD (l:List (List UInt8×Evt)):(l.flatMap evN).length=l.length*5:=QbM (k:=5) (fun _=>rfl) l
theorem Qje {l:List (List UInt8×Evt)} {i:Nat} {x:List UInt8×Evt} (h:l[i]?=some x):(l.flatMap evN).drop (i*5)= .str x.1:: .bool x.2.c:: .bool x.2.o:: .bool x.2.f:: .int .i64 (x.2.flt:Int)::(l.drop (i+1)).flatMap evN:=Qbh (f:=evN) (k:=5) (fun _=>rfl) h
def evE (x y:List UInt8×Evt):Bool:=decide (x.1=y.1)&&(decide (x.2.c=y.2.c)&&(decide (x.2.o=y.2.o)&&(decide (x.2.f=y.2.f)&&decide (x.2.flt=y.2.flt))))
def itE (x y:List UInt8×Aut):Bool:=decide (x.1=y.1)&&autB x.2 y.2
def loE (x y:Nat×Nat):Bool:=decide (x=y)
def teE (x y:Nat×Int):Bool:=decide (x=y)
def exE (x y:Nat×List (Nat×Nat)):Bool:=decide (([101,UInt8.ofNat (48+x.1)]:List UInt8)=[101,UInt8.ofNat (48+y.1)])&&eqL loE x.2 y.2
def coE (x y:List (Nat×Int)×Int):Bool:=decide (x.2=y.2)&&eqL teE x.1 y.1
theorem QnY (x y:List UInt8×Evt):aEq (.flat true [.s,.b,.b,.b,.i]) true (evNV x) (evNV y)=some (.bool (!evE x y)):=by
 have:∀n m:Nat,decide ((n:Int)=(m:Int))=decide (n=m):=fun n m=>decide_eq_decide.2 (by omega)
 simp only[aEq,eqCells,eqCell,if_true,this]
 unfold evE
 cases decide (x.1=y.1)<;>cases decide (x.2.c=y.2.c)<;>cases decide (x.2.o=y.2.o)<;>cases decide (x.2.f=y.2.f)<;>cases decide (x.2.flt=y.2.flt)<;>rfl
theorem QoM (x y:Nat×Nat):aEq (.flat true [.i,.i]) true (.agg [.int .i64 (x.1:Int),.int .i64 (x.2:Int)]) (.agg [.int .i64 (y.1:Int),.int .i64 (y.2:Int)])=some (.bool (!loE x y)):=by
 unfold loE
 have:∀n m:Nat,decide ((n:Int)=(m:Int))=decide (n=m):=fun n m=>decide_eq_decide.2 (by omega)
 obtain⟨a,b⟩:=x
 obtain⟨a',b'⟩:=y
 simp only[aEq,eqCells,eqCell,if_true]
 simp only[Prod.mk.injEq,Bool.decide_and,this]
 cases decide (a=a')<;>cases decide (b=b')<;>rfl
theorem QoN (x y:Nat×Int):aEq (.flat true [.i,.i]) true (.agg [.int .i64 (x.1:Int),.int .i64 x.2]) (.agg [.int .i64 (y.1:Int),.int .i64 y.2])=some (.bool (!teE x y)):=by
 unfold teE
 have:∀n m:Nat,decide ((n:Int)=(m:Int))=decide (n=m):=fun n m=>decide_eq_decide.2 (by omega)
 obtain⟨a,b⟩:=x
 obtain⟨a',b'⟩:=y
 simp only[aEq,eqCells,eqCell,if_true]
 simp only[Prod.mk.injEq,Bool.decide_and,this]
 cases decide (a=a')<;>cases decide (b=b')<;>rfl
theorem _root_.Go.AM.au17 {p:Prop} (h:p:=by repeat' (first|exact RB.nil|(refine RnL.same ?_;first|rfl|(simp only[noRef,noRefs,Qah,Bool.and_self,Bool.and_true,Bool.true_and,Qaa,Qaw,Qac,SU.QaR,SU.Qay,SU.Qbi,SU.QaJ,SU.Qbo,Qbj,Qcp];done))|exact RnM.keyM rfl|exact RnL.nil|exact(True.intro:RnM _ _ _ [] [])|refine RnL.cons ?_ ?_|(refine Rn.same ?_;first|rfl|(simp only[noRef,noRefs,Qah,Bool.and_self,Bool.and_true,Bool.true_and,Qaa,Qaw,Qac,SU.QaR,SU.Qay,SU.Qbi,SU.QaJ,SU.Qbo,Qbj,Qcp];done))|exact Rn.x1 rfl rfl|exact Rn.x2 rfl rfl|exact Rn.x3 rfl rfl|exact Rn.x4 rfl rfl|exact Rn.x5 rfl|exact Rn.x6 rfl|exact Rn.x7 rfl|refine RB.newnil rfl rfl ?_|refine RB.cells rfl rfl rfl ?_ ?_|refine RB.map rfl rfl rfl ?_ ?_|refine RB.cellsB rfl rfl ?_ ?_|refine RB.mapB rfl rfl ?_ ?_)):p:=h
theorem _root_.Go.AM.au18 {p:Prop} (h:p:=by repeat (first|exact RT.nil|(refine RT.cons ?_ ?_; · (first|exact Rn.any|exact Rn.x1 rfl rfl|exact Rn.x2 rfl rfl|exact Rn.x3 rfl rfl|exact Rn.x4 rfl rfl|exact Rn.x5 rfl|exact Rn.x6 rfl|exact Rn.x7 rfl|(refine Rn.slot ?_ ?_;(first|rfl|(rw[Int.natCast_add];rfl));(first|rfl|(simp only[noRef,noRefs,Qah,Bool.and_self,Bool.and_true,Bool.true_and,Qaa,Qaw,Qac,SU.QaR,SU.Qay,SU.Qbi,SU.QaJ,SU.Qbo,Qbj,Qcp];done)))|(refine Rn.fn ?_ ?_<;>(repeat' (first|exact RnL.nil|refine RnL.cons ?_ ?_|exact Rn.same rfl|exact Rn.x6 rfl|exact Rn.x2 rfl rfl|exact Rn.x5 rfl|exact Rn.x1 rfl rfl))))))):p:=h
theorem eq123 (a b : List (List UInt8 × Evt)) (ha : a.length <= 1000) (hbl : b.length <= 1000) : PSpec Tryz.prog 123 [evsN a, evsN b] (.bool (eqL evE a b)) := by
    refine PSpec.Qaj 64 ok123 rfl (by simp only[noRefs,noRef,Qcp];rfl) rfl ?_
    have hla:=QkD a
    have hlb:=QkD b
    by_cases hab:a.length=b.length
    · simp (disch := first | omega | (simp only [lenW] <;> omega)) only [s123, hab, Bool.and_true, Bool.and_false, Bool.true_and, Bool.false_and, wW, wV, simprocAttr]
      refine Qat 100 (fun i:Nat=>[(0,evsN a),(1,evsN b),(12,.int .i64 b.length),(13,.int .i64 i)]) (fun _=>[]) (fun i=>i<=b.length/\∀(j:Nat) x y,j<i->a[j]?=some x->b[j]?=some y->evE x y=true) (fun i=>b.length-i) 0 ⟨[],rfl,au0,au17,au18⟩ ⟨Nat.zero_le _,fun j x y hj=>absurd hj (Nat.not_lt_zero _)⟩ ?_
      rintro i ⟨hi,hb⟩
      by_cases hlt:i<b.length
      · obtain ⟨x, hx⟩ := Qak (l := a) (i := i) (by omega)
        obtain⟨y,hy⟩:=Qak (l:=b) (i:=i) (by omega)
        have hlt2:i<a.length:=by omega
        have hdx:=Qje hx
        have hdy:=Qje hy
        have h1:5<=(List.drop (i*5) (List.flatMap evN a)).length:=by rw[List.length_drop,hla];omega
        have h2:5<=(List.drop (i*5) (List.flatMap evN b)).length:=by rw[List.length_drop,hlb];omega
        have hq:=QnY x y
        cases h0:evE x y
        · rw [h0, Bool.not_false] at hq
          simp(disch:=first|omega|(simp only[lenW]<;>omega)) only[hlt,hlt2,hdx,hdy,h1,h2,hq,Bool.and_true,Bool.and_false,Bool.true_and,Bool.false_and,wW,wV,simprocAttr]
          refine⟨.inr trivial,_,rfl,?_⟩
          rw[Qcf hx hy h0];rfl
        · rw [h0, Bool.not_true] at hq
          simp(disch:=first|omega|(simp only[lenW]<;>omega)) only[hlt,hlt2,hdx,hdy,h1,h2,hq,Bool.and_true,Bool.and_false,Bool.true_and,Bool.false_and,wW,wV,simprocAttr]
          refine⟨i+1,by omega,⟨by omega,fun j x' y' hj hx' hy'=>?_⟩,⟨[],rfl,au0,au17,au18⟩⟩
          by_cases e:j=i
          · subst e;rw[hx]at hx';rw[hy]at hy';cases hx';cases hy';exact h0
          · exact hb j x' y' (by omega) hx' hy'
      · have h0 : eqL evE a b = true := Qb0 hab fun j x y hx hy => by
          have hj:j<b.length:=by
            rcases Nat.lt_or_ge j b.length with h|h
            · exact h
            · rw[List.getElem?_eq_none h]at hy;cases hy
          exact hb j x y (by omega) hx hy
        simp(disch:=first|omega|(simp only[lenW]<;>omega)) only[hlt,Bool.and_true,Bool.and_false,Bool.true_and,Bool.false_and,wW,wV,simprocAttr]
        refine⟨.inr trivial,_,rfl,?_⟩
        rw[h0];rfl
    · have h0 : eqL evE a b = false := Qc4 hab
      simp(disch:=first|omega|(simp only[lenW]<;>omega)) only[s123,hab,Bool.and_true,Bool.and_false,Bool.true_and,Bool.false_and,wW,wV,simprocAttr]
      refine⟨.inr trivial,_,rfl,?_⟩
      rw[h0];rfl
theorem eq127 (a b : List (Nat × Nat)) (ha : a.length <= 1000) (hbl : b.length <= 1000) : PSpec Tryz.prog 127 [los a, los b] (.bool (eqL loE a b)) := by
    refine PSpec.Qaj 64 ok127 rfl (by simp only[noRefs,noRef,SU.QaR];rfl) rfl ?_
    have hla:=SU.QdR a
    have hlb:=SU.QdR b
    by_cases hab:a.length=b.length
    · simp (disch := first | omega | (simp only [lenW] <;> omega)) only [s127, hab, Bool.and_true, Bool.and_false, Bool.true_and, Bool.false_and, wW, wV, simprocAttr]
      refine Qat 100 (fun i:Nat=>[(0,los a),(1,los b),(12,.int .i64 b.length),(13,.int .i64 i)]) (fun _=>[]) (fun i=>i<=b.length/\∀(j:Nat) x y,j<i->a[j]?=some x->b[j]?=some y->loE x y=true) (fun i=>b.length-i) 0 ⟨[],rfl,au0,au17,au18⟩ ⟨Nat.zero_le _,fun j x y hj=>absurd hj (Nat.not_lt_zero _)⟩ ?_
      rintro i ⟨hi,hb⟩
      by_cases hlt:i<b.length
      · obtain ⟨x, hx⟩ := Qak (l := a) (i := i) (by omega)
        obtain⟨y,hy⟩:=Qak (l:=b) (i:=i) (by omega)
        have hlt2:i<a.length:=by omega
        have hdx:=QeU hx
        have hdy:=QeU hy
        have h1:2<=(List.drop (i*2) (List.flatMap loC a)).length:=by rw[List.length_drop,hla];omega
        have h2:2<=(List.drop (i*2) (List.flatMap loC b)).length:=by rw[List.length_drop,hlb];omega
        have hq:=QoM x y
        cases h0:loE x y
        · rw [h0, Bool.not_false] at hq
          simp(disch:=first|omega|(simp only[lenW]<;>omega)) only[hlt,hlt2,hdx,hdy,h1,h2,hq,Bool.and_true,Bool.and_false,Bool.true_and,Bool.false_and,wW,wV,simprocAttr]
          refine⟨.inr trivial,_,rfl,?_⟩
          rw[Qcf hx hy h0];rfl
        · rw [h0, Bool.not_true] at hq
          simp(disch:=first|omega|(simp only[lenW]<;>omega)) only[hlt,hlt2,hdx,hdy,h1,h2,hq,Bool.and_true,Bool.and_false,Bool.true_and,Bool.false_and,wW,wV,simprocAttr]
          refine⟨i+1,by omega,⟨by omega,fun j x' y' hj hx' hy'=>?_⟩,⟨[],rfl,au0,au17,au18⟩⟩
          by_cases e:j=i
          · subst e;rw[hx]at hx';rw[hy]at hy';cases hx';cases hy';exact h0
          · exact hb j x' y' (by omega) hx' hy'
      · have h0 : eqL loE a b = true := Qb0 hab fun j x y hx hy => by
          have hj:j<b.length:=by
            rcases Nat.lt_or_ge j b.length with h|h
            · exact h
            · rw[List.getElem?_eq_none h]at hy;cases hy
          exact hb j x y (by omega) hx hy
        simp(disch:=first|omega|(simp only[lenW]<;>omega)) only[hlt,Bool.and_true,Bool.and_false,Bool.true_and,Bool.false_and,wW,wV,simprocAttr]
        refine⟨.inr trivial,_,rfl,?_⟩
        rw[h0];rfl
    · have h0 : eqL loE a b = false := Qc4 hab
      simp(disch:=first|omega|(simp only[lenW]<;>omega)) only[s127,hab,Bool.and_true,Bool.and_false,Bool.true_and,Bool.false_and,wW,wV,simprocAttr]
      refine⟨.inr trivial,_,rfl,?_⟩
      rw[h0];rfl
theorem eq130 (a b : List (Nat × Int)) (ha : a.length <= 1000) (hbl : b.length <= 1000) : PSpec Tryz.prog 130 [tes a, tes b] (.bool (eqL teE a b)) := by
    refine PSpec.Qaj 64 ok130 rfl (by simp only[noRefs,noRef,SU.Qay];rfl) rfl ?_
    have hla:=SU.QbV a
    have hlb:=SU.QbV b
    by_cases hab:a.length=b.length
    · simp (disch := first | omega | (simp only [lenW] <;> omega)) only [s130, hab, Bool.and_true, Bool.and_false, Bool.true_and, Bool.false_and, wW, wV, simprocAttr]
      refine Qat 100 (fun i:Nat=>[(0,tes a),(1,tes b),(12,.int .i64 b.length),(13,.int .i64 i)]) (fun _=>[]) (fun i=>i<=b.length/\∀(j:Nat) x y,j<i->a[j]?=some x->b[j]?=some y->teE x y=true) (fun i=>b.length-i) 0 ⟨[],rfl,au0,au17,au18⟩ ⟨Nat.zero_le _,fun j x y hj=>absurd hj (Nat.not_lt_zero _)⟩ ?_
      rintro i ⟨hi,hb⟩
      by_cases hlt:i<b.length
      · obtain ⟨x, hx⟩ := Qak (l := a) (i := i) (by omega)
        obtain⟨y,hy⟩:=Qak (l:=b) (i:=i) (by omega)
        have hlt2:i<a.length:=by omega
        have hdx:=SU.Qcd hx
        have hdy:=SU.Qcd hy
        have h1:2<=(List.drop (i*2) (List.flatMap teC a)).length:=by rw[List.length_drop,hla];omega
        have h2:2<=(List.drop (i*2) (List.flatMap teC b)).length:=by rw[List.length_drop,hlb];omega
        have hq:=QoN x y
        cases h0:teE x y
        · rw [h0, Bool.not_false] at hq
          simp(disch:=first|omega|(simp only[lenW]<;>omega)) only[hlt,hlt2,hdx,hdy,h1,h2,hq,Bool.and_true,Bool.and_false,Bool.true_and,Bool.false_and,wW,wV,simprocAttr]
          refine⟨.inr trivial,_,rfl,?_⟩
          rw[Qcf hx hy h0];rfl
        · rw [h0, Bool.not_true] at hq
          simp(disch:=first|omega|(simp only[lenW]<;>omega)) only[hlt,hlt2,hdx,hdy,h1,h2,hq,Bool.and_true,Bool.and_false,Bool.true_and,Bool.false_and,wW,wV,simprocAttr]
          refine⟨i+1,by omega,⟨by omega,fun j x' y' hj hx' hy'=>?_⟩,⟨[],rfl,au0,au17,au18⟩⟩
          by_cases e:j=i
          · subst e;rw[hx]at hx';rw[hy]at hy';cases hx';cases hy';exact h0
          · exact hb j x' y' (by omega) hx' hy'
      · have h0 : eqL teE a b = true := Qb0 hab fun j x y hx hy => by
          have hj:j<b.length:=by
            rcases Nat.lt_or_ge j b.length with h|h
            · exact h
            · rw[List.getElem?_eq_none h]at hy;cases hy
          exact hb j x y (by omega) hx hy
        simp(disch:=first|omega|(simp only[lenW]<;>omega)) only[hlt,Bool.and_true,Bool.and_false,Bool.true_and,Bool.false_and,wW,wV,simprocAttr]
        refine⟨.inr trivial,_,rfl,?_⟩
        rw[h0];rfl
    · have h0 : eqL teE a b = false := Qc4 hab
      simp(disch:=first|omega|(simp only[lenW]<;>omega)) only[s130,hab,Bool.and_true,Bool.and_false,Bool.true_and,Bool.false_and,wW,wV,simprocAttr]
      refine⟨.inr trivial,_,rfl,?_⟩
      rw[h0];rfl
abbrev exV (x:Nat×List (Nat×Nat)):AV:= .agg [.str [101,UInt8.ofNat (48+x.1)],los x.2]
abbrev coV (x:List (Nat×Int)×Int):AV:= .agg [.str [107],tes x.1,.int .i64 x.2]
theorem eq124 (K : Nat) (a b : List (List UInt8 × Aut)) (ha : a.length <= 1000) (hbl : b.length <= 1000) (hk : ∀ x ∈ a, ∀ y ∈ b, PSpec Tryz.prog K [itNV x, itNV y] (.bool (itE x y))) : PSpec Tryz.prog 124 [itsN a, itsN b, .fn K [] []] (.bool (eqL itE a b)) := by
    refine PSpec.Qaj 64 ok124 rfl (by simp only[noRefs,noRef,Qbj];rfl) rfl ?_
    have hla:=Qds a
    have hlb:=Qds b
    by_cases hab:a.length=b.length
    · simp (disch := first | omega | (simp only [lenW] <;> omega)) only [s124, hab, Bool.and_true, Bool.and_false, Bool.true_and, Bool.false_and, wW, wV, simprocAttr]
      refine Qat 100 (fun i:Nat=>[(1,itsN b),(2,.fn K [] []),(15,itsN a),(16,.int .i64 b.length),(17,.int .i64 i)]) (fun _=>[]) (fun i=>i<=b.length/\∀(j:Nat) x y,j<i->a[j]?=some x->b[j]?=some y->itE x y=true) (fun i=>b.length-i) 0 ⟨[],rfl,au0,au17,au18⟩ ⟨Nat.zero_le _,fun j x y hj=>absurd hj (Nat.not_lt_zero _)⟩ ?_
      rintro i ⟨hi,hb⟩
      by_cases hlt:i<b.length
      · obtain ⟨x, hx⟩ := Qak (l := a) (i := i) (by omega)
        obtain⟨y,hy⟩:=Qak (l:=b) (i:=i) (by omega)
        have hlt2:i<a.length:=by omega
        have hdx:=QeY hx
        have hdy:=QeY hy
        have h1:5<=(List.drop (i*5) (List.flatMap itN a)).length:=by rw[List.length_drop,hla];omega
        have h2:5<=(List.drop (i*5) (List.flatMap itN b)).length:=by rw[List.length_drop,hlb];omega
        have hq:=hk x (List.mem_of_getElem? hx) y (List.mem_of_getElem? hy)
        cases h0:itE x y
        · rw [h0] at hq
          simp(disch:=first|omega|(simp only[lenW]<;>omega)) only[hlt,hlt2,hdx,hdy,h1,h2,Bool.and_true,Bool.and_false,Bool.true_and,Bool.false_and,wW,wV,simprocAttr]
          refine cp hq ?_
          simp(disch:=first|omega|(simp only[lenW]<;>omega)) only[Bool.and_true,Bool.and_false,Bool.true_and,Bool.false_and,wW,wV,simprocAttr]
          refine⟨.inr trivial,_,rfl,?_⟩
          rw[Qcf hx hy h0];rfl
        · rw [h0] at hq
          simp(disch:=first|omega|(simp only[lenW]<;>omega)) only[hlt,hlt2,hdx,hdy,h1,h2,Bool.and_true,Bool.and_false,Bool.true_and,Bool.false_and,wW,wV,simprocAttr]
          refine cp hq ?_
          simp(disch:=first|omega|(simp only[lenW]<;>omega)) only[Bool.and_true,Bool.and_false,Bool.true_and,Bool.false_and,wW,wV,simprocAttr]
          refine⟨i+1,by omega,⟨by omega,fun j x' y' hj hx' hy'=>?_⟩,⟨[],rfl,au0,au17,au18⟩⟩
          by_cases e:j=i
          · subst e;rw[hx]at hx';rw[hy]at hy';cases hx';cases hy';exact h0
          · exact hb j x' y' (by omega) hx' hy'
      · have h0 : eqL itE a b = true := Qb0 hab fun j x y hx hy => by
          have hj:j<b.length:=by
            rcases Nat.lt_or_ge j b.length with h|h
            · exact h
            · rw[List.getElem?_eq_none h]at hy;cases hy
          exact hb j x y (by omega) hx hy
        simp(disch:=first|omega|(simp only[lenW]<;>omega)) only[hlt,Bool.and_true,Bool.and_false,Bool.true_and,Bool.false_and,wW,wV,simprocAttr]
        refine⟨.inr trivial,_,rfl,?_⟩
        rw[h0];rfl
    · have h0 : eqL itE a b = false := Qc4 hab
      simp(disch:=first|omega|(simp only[lenW]<;>omega)) only[s124,hab,Bool.and_true,Bool.and_false,Bool.true_and,Bool.false_and,wW,wV,simprocAttr]
      refine⟨.inr trivial,_,rfl,?_⟩
      rw[h0];rfl
theorem eq125 (K : Nat) (a b : List (Nat × List (Nat × Nat))) (ha : a.length <= 1000) (hbl : b.length <= 1000) (hk : ∀ x ∈ a, ∀ y ∈ b, PSpec Tryz.prog K [exV x, exV y] (.bool (exE x y))) : PSpec Tryz.prog 125 [exs a, exs b, .fn K [] []] (.bool (eqL exE a b)) := by
    refine PSpec.Qaj 64 ok125 rfl (by simp only[noRefs,noRef,SU.QaJ];rfl) rfl ?_
    have hla:=SU.QcP a
    have hlb:=SU.QcP b
    by_cases hab:a.length=b.length
    · simp (disch := first | omega | (simp only [lenW] <;> omega)) only [s125, hab, Bool.and_true, Bool.and_false, Bool.true_and, Bool.false_and, wW, wV, simprocAttr]
      refine Qat 100 (fun i:Nat=>[(1,exs b),(2,.fn K [] []),(15,exs a),(16,.int .i64 b.length),(17,.int .i64 i)]) (fun _=>[]) (fun i=>i<=b.length/\∀(j:Nat) x y,j<i->a[j]?=some x->b[j]?=some y->exE x y=true) (fun i=>b.length-i) 0 ⟨[],rfl,au0,au17,au18⟩ ⟨Nat.zero_le _,fun j x y hj=>absurd hj (Nat.not_lt_zero _)⟩ ?_
      rintro i ⟨hi,hb⟩
      by_cases hlt:i<b.length
      · obtain ⟨x, hx⟩ := Qak (l := a) (i := i) (by omega)
        obtain⟨y,hy⟩:=Qak (l:=b) (i:=i) (by omega)
        have hlt2:i<a.length:=by omega
        have hdx:=QeV hx
        have hdy:=QeV hy
        have h1:2<=(List.drop (i*2) (List.flatMap exC a)).length:=by rw[List.length_drop,hla];omega
        have h2:2<=(List.drop (i*2) (List.flatMap exC b)).length:=by rw[List.length_drop,hlb];omega
        have hq:=hk x (List.mem_of_getElem? hx) y (List.mem_of_getElem? hy)
        cases h0:exE x y
        · rw [h0] at hq
          simp(disch:=first|omega|(simp only[lenW]<;>omega)) only[hlt,hlt2,hdx,hdy,h1,h2,Bool.and_true,Bool.and_false,Bool.true_and,Bool.false_and,wW,wV,simprocAttr]
          refine cp hq ?_
          simp(disch:=first|omega|(simp only[lenW]<;>omega)) only[Bool.and_true,Bool.and_false,Bool.true_and,Bool.false_and,wW,wV,simprocAttr]
          refine⟨.inr trivial,_,rfl,?_⟩
          rw[Qcf hx hy h0];rfl
        · rw [h0] at hq
          simp(disch:=first|omega|(simp only[lenW]<;>omega)) only[hlt,hlt2,hdx,hdy,h1,h2,Bool.and_true,Bool.and_false,Bool.true_and,Bool.false_and,wW,wV,simprocAttr]
          refine cp hq ?_
          simp(disch:=first|omega|(simp only[lenW]<;>omega)) only[Bool.and_true,Bool.and_false,Bool.true_and,Bool.false_and,wW,wV,simprocAttr]
          refine⟨i+1,by omega,⟨by omega,fun j x' y' hj hx' hy'=>?_⟩,⟨[],rfl,au0,au17,au18⟩⟩
          by_cases e:j=i
          · subst e;rw[hx]at hx';rw[hy]at hy';cases hx';cases hy';exact h0
          · exact hb j x' y' (by omega) hx' hy'
      · have h0 : eqL exE a b = true := Qb0 hab fun j x y hx hy => by
          have hj:j<b.length:=by
            rcases Nat.lt_or_ge j b.length with h|h
            · exact h
            · rw[List.getElem?_eq_none h]at hy;cases hy
          exact hb j x y (by omega) hx hy
        simp(disch:=first|omega|(simp only[lenW]<;>omega)) only[hlt,Bool.and_true,Bool.and_false,Bool.true_and,Bool.false_and,wW,wV,simprocAttr]
        refine⟨.inr trivial,_,rfl,?_⟩
        rw[h0];rfl
    · have h0 : eqL exE a b = false := Qc4 hab
      simp(disch:=first|omega|(simp only[lenW]<;>omega)) only[s125,hab,Bool.and_true,Bool.and_false,Bool.true_and,Bool.false_and,wW,wV,simprocAttr]
      refine⟨.inr trivial,_,rfl,?_⟩
      rw[h0];rfl
theorem eq128 (K : Nat) (a b : List (List (Nat × Int) × Int)) (ha : a.length <= 1000) (hbl : b.length <= 1000) (hk : ∀ x ∈ a, ∀ y ∈ b, PSpec Tryz.prog K [coV x, coV y] (.bool (coE x y))) : PSpec Tryz.prog 128 [cos a, cos b, .fn K [] []] (.bool (eqL coE a b)) := by
    refine PSpec.Qaj 64 ok128 rfl (by simp only[noRefs,noRef,SU.Qbo];rfl) rfl ?_
    have hla:=QdS a
    have hlb:=QdS b
    by_cases hab:a.length=b.length
    · simp (disch := first | omega | (simp only [lenW] <;> omega)) only [s128, hab, Bool.and_true, Bool.and_false, Bool.true_and, Bool.false_and, wW, wV, simprocAttr]
      refine Qat 100 (fun i:Nat=>[(1,cos b),(2,.fn K [] []),(15,cos a),(16,.int .i64 b.length),(17,.int .i64 i)]) (fun _=>[]) (fun i=>i<=b.length/\∀(j:Nat) x y,j<i->a[j]?=some x->b[j]?=some y->coE x y=true) (fun i=>b.length-i) 0 ⟨[],rfl,au0,au17,au18⟩ ⟨Nat.zero_le _,fun j x y hj=>absurd hj (Nat.not_lt_zero _)⟩ ?_
      rintro i ⟨hi,hb⟩
      by_cases hlt:i<b.length
      · obtain ⟨x, hx⟩ := Qak (l := a) (i := i) (by omega)
        obtain⟨y,hy⟩:=Qak (l:=b) (i:=i) (by omega)
        have hlt2:i<a.length:=by omega
        have hdx:=QeW hx
        have hdy:=QeW hy
        have h1:3<=(List.drop (i*3) (List.flatMap coC a)).length:=by rw[List.length_drop,hla];omega
        have h2:3<=(List.drop (i*3) (List.flatMap coC b)).length:=by rw[List.length_drop,hlb];omega
        have hq:=hk x (List.mem_of_getElem? hx) y (List.mem_of_getElem? hy)
        cases h0:coE x y
        · rw [h0] at hq
          simp(disch:=first|omega|(simp only[lenW]<;>omega)) only[hlt,hlt2,hdx,hdy,h1,h2,Bool.and_true,Bool.and_false,Bool.true_and,Bool.false_and,wW,wV,simprocAttr]
          refine cp hq ?_
          simp(disch:=first|omega|(simp only[lenW]<;>omega)) only[Bool.and_true,Bool.and_false,Bool.true_and,Bool.false_and,wW,wV,simprocAttr]
          refine⟨.inr trivial,_,rfl,?_⟩
          rw[Qcf hx hy h0];rfl
        · rw [h0] at hq
          simp(disch:=first|omega|(simp only[lenW]<;>omega)) only[hlt,hlt2,hdx,hdy,h1,h2,Bool.and_true,Bool.and_false,Bool.true_and,Bool.false_and,wW,wV,simprocAttr]
          refine cp hq ?_
          simp(disch:=first|omega|(simp only[lenW]<;>omega)) only[Bool.and_true,Bool.and_false,Bool.true_and,Bool.false_and,wW,wV,simprocAttr]
          refine⟨i+1,by omega,⟨by omega,fun j x' y' hj hx' hy'=>?_⟩,⟨[],rfl,au0,au17,au18⟩⟩
          by_cases e:j=i
          · subst e;rw[hx]at hx';rw[hy]at hy';cases hx';cases hy';exact h0
          · exact hb j x' y' (by omega) hx' hy'
      · have h0 : eqL coE a b = true := Qb0 hab fun j x y hx hy => by
          have hj:j<b.length:=by
            rcases Nat.lt_or_ge j b.length with h|h
            · exact h
            · rw[List.getElem?_eq_none h]at hy;cases hy
          exact hb j x y (by omega) hx hy
        simp(disch:=first|omega|(simp only[lenW]<;>omega)) only[hlt,Bool.and_true,Bool.and_false,Bool.true_and,Bool.false_and,wW,wV,simprocAttr]
        refine⟨.inr trivial,_,rfl,?_⟩
        rw[h0];rfl
    · have h0 : eqL coE a b = false := Qc4 hab
      simp(disch:=first|omega|(simp only[lenW]<;>omega)) only[s128,hab,Bool.and_true,Bool.and_false,Bool.true_and,Bool.false_and,wW,wV,simprocAttr]
      refine⟨.inr trivial,_,rfl,?_⟩
      rw[h0];rfl
end Go.AM.SO
namespace Go.AM.SO
open Go.Proofs Go.AM.SD Go.AM.SE
theorem Qa4 {a b:List UInt8}:aBin .eql (.str a) (.str b)=some (.bool (decide (a=b))):=rfl
structure ShortA (a:Aut):Prop where
 al:a.al.length<=1000
 ms:a.ms.length<=1000
 es:a.es.length<=1000
theorem ShortA.ok {a:Aut} (h:ShortA a):AOk a:=⟨by have:=h.al;omega,by have:=h.ms;omega,by have:=h.es;omega⟩
theorem WfI.short {a:Aut} (h:WfI a):ShortA a:=⟨by have:=Qjc h.wf;omega,by have:=QaM a.n a.ms h.wf.nd h.wf.msn;have:=h.n3;omega,by have:=h.el;omega⟩
theorem itm122 (x y:List UInt8×Aut) (hx:ShortA x.2) (hy:ShortA y.2):PSpec Tryz.prog 122 [itNV x,itNV y] (.bool (itE x y)):=by
  refine PSpec.Qaj 64 ok122 rfl (by simp only[noRefs,noRef,Qaa,Qad];rfl) rfl ?_
  have hE:=eq43 x.2 y.2 hx.ok hy.ok
  unfold itE
  cases h0:decide (x.1=y.1)
  · simp (disch := first | omega | (simp only [lenW] <;> omega)) only [s122, Qa4, h0, Bool.and_true, Bool.and_false, Bool.true_and, Bool.false_and, wW, wV, simprocAttr]
    exact⟨.inr trivial,_,rfl,rfl⟩
  · simp (disch := first | omega | (simp only [lenW] <;> omega)) only [s122, Qa4, h0, Bool.and_true, Bool.and_false, Bool.true_and, Bool.false_and, wW, wV, simprocAttr]
    refine cp hE ?_
    simp(disch:=first|omega|(simp only[lenW]<;>omega)) only[Bool.and_true,Bool.and_false,Bool.true_and,Bool.false_and,wW,wV,simprocAttr]
    exact⟨.inr trivial,_,rfl,rfl⟩
theorem itm131 (x y:List UInt8×Aut) (hx:ShortA x.2) (hy:ShortA y.2):PSpec Tryz.prog 131 [itNV x,itNV y] (.bool (itE x y)):=by
  refine PSpec.Qaj 64 ok131 rfl (by simp only[noRefs,noRef,Qaa,Qad];rfl) rfl ?_
  have hE:=eq43 x.2 y.2 hx.ok hy.ok
  unfold itE
  cases h0:decide (x.1=y.1)
  · simp (disch := first | omega | (simp only [lenW] <;> omega)) only [s131, Qa4, h0, Bool.and_true, Bool.and_false, Bool.true_and, Bool.false_and, wW, wV, simprocAttr]
    exact⟨.inr trivial,_,rfl,rfl⟩
  · simp (disch := first | omega | (simp only [lenW] <;> omega)) only [s131, Qa4, h0, Bool.and_true, Bool.and_false, Bool.true_and, Bool.false_and, wW, wV, simprocAttr]
    refine cp hE ?_
    simp(disch:=first|omega|(simp only[lenW]<;>omega)) only[Bool.and_true,Bool.and_false,Bool.true_and,Bool.false_and,wW,wV,simprocAttr]
    exact⟨.inr trivial,_,rfl,rfl⟩
theorem exm126 (x y:Nat×List (Nat×Nat)) (hx:x.2.length<=1000) (hy:y.2.length<=1000):PSpec Tryz.prog 126 [exV x,exV y] (.bool (exE x y)):=by
  refine PSpec.Qaj 64 ok126 rfl (by simp only[noRefs,noRef,SU.QaR];rfl) rfl ?_
  have hE:=eq127 x.2 y.2 hx hy
  unfold exE
  cases h0:decide (([101,UInt8.ofNat (48+x.1)]:List UInt8)=[101,UInt8.ofNat (48+y.1)])
  · simp (disch := first | omega | (simp only [lenW] <;> omega)) only [s126, Qa4, h0, Bool.and_true, Bool.and_false, Bool.true_and, Bool.false_and, wW, wV, simprocAttr]
    exact⟨.inr trivial,_,rfl,rfl⟩
  · simp (disch := first | omega | (simp only [lenW] <;> omega)) only [s126, Qa4, h0, Bool.and_true, Bool.and_false, Bool.true_and, Bool.false_and, wW, wV, simprocAttr]
    refine cp hE ?_
    simp(disch:=first|omega|(simp only[lenW]<;>omega)) only[Bool.and_true,Bool.and_false,Bool.true_and,Bool.false_and,wW,wV,simprocAttr]
    exact⟨.inr trivial,_,rfl,rfl⟩
theorem exm132 (x y:Nat×List (Nat×Nat)) (hx:x.2.length<=1000) (hy:y.2.length<=1000):PSpec Tryz.prog 132 [exV x,exV y] (.bool (exE x y)):=by
  refine PSpec.Qaj 64 ok132 rfl (by simp only[noRefs,noRef,SU.QaR];rfl) rfl ?_
  have hE:=eq127 x.2 y.2 hx hy
  unfold exE
  cases h0:decide (([101,UInt8.ofNat (48+x.1)]:List UInt8)=[101,UInt8.ofNat (48+y.1)])
  · simp (disch := first | omega | (simp only [lenW] <;> omega)) only [s132, Qa4, h0, Bool.and_true, Bool.and_false, Bool.true_and, Bool.false_and, wW, wV, simprocAttr]
    exact⟨.inr trivial,_,rfl,rfl⟩
  · simp (disch := first | omega | (simp only [lenW] <;> omega)) only [s132, Qa4, h0, Bool.and_true, Bool.and_false, Bool.true_and, Bool.false_and, wW, wV, simprocAttr]
    refine cp hE ?_
    simp(disch:=first|omega|(simp only[lenW]<;>omega)) only[Bool.and_true,Bool.and_false,Bool.true_and,Bool.false_and,wW,wV,simprocAttr]
    exact⟨.inr trivial,_,rfl,rfl⟩
theorem com129 (x y:List (Nat×Int)×Int) (hx:x.1.length<=1000) (hy:y.1.length<=1000):PSpec Tryz.prog 129 [coV x,coV y] (.bool (coE x y)):=by
  refine PSpec.Qaj 64 ok129 rfl (by simp only[noRefs,noRef,SU.Qay];rfl) rfl ?_
  have hE:=eq130 x.1 y.1 hx hy
  have h107:decide (([107]:List UInt8)=[107])=true:=rfl
  unfold coE
  cases h0:decide (x.2=y.2)
  · simp (disch := first | omega | (simp only [lenW] <;> omega)) only [s129, Qa4, h107, h0, Bool.and_true, Bool.and_false, Bool.true_and, Bool.false_and, wW, wV, simprocAttr]
    exact⟨.inr trivial,_,rfl,rfl⟩
  · simp (disch := first | omega | (simp only [lenW] <;> omega)) only [s129, Qa4, h107, h0, Bool.and_true, Bool.and_false, Bool.true_and, Bool.false_and, wW, wV, simprocAttr]
    refine cp hE ?_
    simp(disch:=first|omega|(simp only[lenW]<;>omega)) only[Bool.and_true,Bool.and_false,Bool.true_and,Bool.false_and,wW,wV,simprocAttr]
    exact⟨.inr trivial,_,rfl,rfl⟩
theorem com133 (x y:List (Nat×Int)×Int) (hx:x.1.length<=1000) (hy:y.1.length<=1000):PSpec Tryz.prog 133 [coV x,coV y] (.bool (coE x y)):=by
  refine PSpec.Qaj 64 ok133 rfl (by simp only[noRefs,noRef,SU.Qay];rfl) rfl ?_
  have hE:=eq130 x.1 y.1 hx hy
  have h107:decide (([107]:List UInt8)=[107])=true:=rfl
  unfold coE
  cases h0:decide (x.2=y.2)
  · simp (disch := first | omega | (simp only [lenW] <;> omega)) only [s133, Qa4, h107, h0, Bool.and_true, Bool.and_false, Bool.true_and, Bool.false_and, wW, wV, simprocAttr]
    exact⟨.inr trivial,_,rfl,rfl⟩
  · simp (disch := first | omega | (simp only [lenW] <;> omega)) only [s133, Qa4, h107, h0, Bool.and_true, Bool.and_false, Bool.true_and, Bool.false_and, wW, wV, simprocAttr]
    refine cp hE ?_
    simp(disch:=first|omega|(simp only[lenW]<;>omega)) only[Bool.and_true,Bool.and_false,Bool.true_and,Bool.false_and,wW,wV,simprocAttr]
    exact⟨.inr trivial,_,rfl,rfl⟩
def cellEq (c d:Cel):Bool:=eqL evE (evl c.ev) (evl d.ev)&&(eqL itE (nmL' 99 c.cs) (nmL' 99 d.cs)&&(eqL itE (nmL' 114 c.rs) (nmL' 114 d.rs)&&(eqL exE c.xs d.xs&&eqL coE c.ks d.ks)))
theorem autB_refl' (a:Aut):autB a a=true:=by simp[autB]
theorem QjH (c:Cel):cellEq c c=true:=by
  unfold cellEq
  rw[Qb1 fun x _=>by simp[evE],Qb1 fun x _=>by simp[itE,autB_refl'],Qb1 fun x _=>by simp[itE,autB_refl'],Qb1 fun x _=>by simp only[exE,decide_true,Bool.true_and];exact Qb1 fun x _=>by simp[loE],
    Qb1 fun x _=>by simp only[coE,decide_true,Bool.true_and];exact Qb1 fun x _=>by simp[teE]]
  rfl
structure ShortC (c:Cel):Prop where
 cs:c.cs.length<=1000
 rs:c.rs.length<=1000
 xs:c.xs.length<=1000
 ks:c.ks.length<=1000
 ca:∀x∈c.cs,ShortA x.2
 ra:∀x∈c.rs,ShortA x.2
 xl:∀x∈c.xs,x.2.length<=1000
 kl:∀x∈c.ks,x.1.length<=1000
theorem WfCel.short {c:Cel} (h:WfCel c):ShortC c:=⟨by have:=h.c3;omega,by have:=h.r2;omega,by have:=h.x2;omega,by have:=h.k1;omega,fun x hx=>(h.ca x hx).short,fun x hx=>(h.ra x hx).short,fun x hx=>by have:=h.xlen hx;omega,fun x hx=>by have:=h.klen hx;omega⟩
theorem QbO {ch:UInt8} {l:List (Nat×Aut)} (h:∀x∈l,ShortA x.2):∀x∈nmL' ch l,ShortA x.2:=fun x hx=>by
 obtain⟨y,hy,rfl⟩:=List.mem_map.1 hx
 exact h y hy
theorem Qbd {ch:UInt8} {l:List (Nat×Aut)}:(nmL' ch l).length=l.length:=by simp[nmL']
theorem equal50 (c d:Cel) (hc:ShortC c) (hd:ShortC d):PSpec Tryz.prog 50 [celV c,celV d] (.bool (cellEq c d)):=by
  refine PSpec.Qaj 64 ok50 rfl (by rw[noRefs,noRefs,SU.Qba,SU.Qba];rfl) rfl ?_
  have h1:=eq123 (evl c.ev) (evl d.ev) (by simp[evl]) (by simp[evl])
  have h2:=eq124 122 (nmL' 99 c.cs) (nmL' 99 d.cs) (by rw[Qbd];exact hc.cs) (by rw[Qbd];exact hd.cs) (fun x hx y hy=>itm122 x y (QbO hc.ca x hx) (QbO hd.ca y hy))
  have h3:=eq124 122 (nmL' 114 c.rs) (nmL' 114 d.rs) (by rw[Qbd];exact hc.rs) (by rw[Qbd];exact hd.rs) (fun x hx y hy=>itm122 x y (QbO hc.ra x hx) (QbO hd.ra y hy))
  have h4:=eq125 126 c.xs d.xs hc.xs hd.xs (fun x hx y hy=>exm126 x y (hc.xl x hx) (hd.xl y hy))
  have h5:=eq128 129 c.ks d.ks hc.ks hd.ks (fun x hx y hy=>com129 x y (hc.kl x hx) (hd.kl y hy))
  rw[<-QeZ,<-QeZ]at h1
  rw[<-QcU,<-QcU]at h2 h3
  unfold cellEq
  generalize eqL evE (evl c.ev) (evl d.ev)=b1 at*
  generalize eqL itE (nmL' 99 c.cs) (nmL' 99 d.cs)=b2 at*
  generalize eqL itE (nmL' 114 c.rs) (nmL' 114 d.rs)=b3 at*
  generalize eqL exE c.xs d.xs=b4 at*
  generalize eqL coE c.ks d.ks=b5 at*
  simp(disch:=first|omega|(simp only[lenW]<;>omega)) only[s50,Bool.and_true,Bool.and_false,Bool.true_and,Bool.false_and,wW,wV,simprocAttr]
  refine cp h1 ?_
  cases b1
  · simp (disch := first | omega | (simp only [lenW] <;> omega)) only [Bool.and_true, Bool.and_false, Bool.true_and, Bool.false_and, wW, wV, simprocAttr]
    exact⟨.inr trivial,_,rfl,rfl⟩
  simp(disch:=first|omega|(simp only[lenW]<;>omega)) only[Bool.and_true,Bool.and_false,Bool.true_and,Bool.false_and,wW,wV,simprocAttr]
  refine cp h2 ?_
  cases b2
  · simp (disch := first | omega | (simp only [lenW] <;> omega)) only [Bool.and_true, Bool.and_false, Bool.true_and, Bool.false_and, wW, wV, simprocAttr]
    exact⟨.inr trivial,_,rfl,rfl⟩
  simp(disch:=first|omega|(simp only[lenW]<;>omega)) only[Bool.and_true,Bool.and_false,Bool.true_and,Bool.false_and,wW,wV,simprocAttr]
  refine cp h3 ?_
  cases b3
  · simp (disch := first | omega | (simp only [lenW] <;> omega)) only [Bool.and_true, Bool.and_false, Bool.true_and, Bool.false_and, wW, wV, simprocAttr]
    exact⟨.inr trivial,_,rfl,rfl⟩
  simp(disch:=first|omega|(simp only[lenW]<;>omega)) only[Bool.and_true,Bool.and_false,Bool.true_and,Bool.false_and,wW,wV,simprocAttr]
  refine cp h4 ?_
  cases b4
  · simp (disch := first | omega | (simp only [lenW] <;> omega)) only [Bool.and_true, Bool.and_false, Bool.true_and, Bool.false_and, wW, wV, simprocAttr]
    exact⟨.inr trivial,_,rfl,rfl⟩
  simp(disch:=first|omega|(simp only[lenW]<;>omega)) only[Bool.and_true,Bool.and_false,Bool.true_and,Bool.false_and,wW,wV,simprocAttr]
  refine cp h5 ?_
  simp(disch:=first|omega|(simp only[lenW]<;>omega)) only[Bool.and_true,Bool.and_false,Bool.true_and,Bool.false_and,wW,wV,simprocAttr]
  exact⟨.inr trivial,_,rfl,rfl⟩
theorem equal51 (c d:Cel) (hc:ShortC c) (hd:ShortC d):PSpec Tryz.prog 51 [celV c,celV d] (.bool (cellEq c d)):=by
  refine PSpec.Qaj 64 ok51 rfl (by rw[noRefs,noRefs,SU.Qba,SU.Qba];rfl) rfl ?_
  have h1:=eq123 (evl c.ev) (evl d.ev) (by simp[evl]) (by simp[evl])
  have h2:=eq124 131 (nmL' 99 c.cs) (nmL' 99 d.cs) (by rw[Qbd];exact hc.cs) (by rw[Qbd];exact hd.cs) (fun x hx y hy=>itm131 x y (QbO hc.ca x hx) (QbO hd.ca y hy))
  have h3:=eq124 131 (nmL' 114 c.rs) (nmL' 114 d.rs) (by rw[Qbd];exact hc.rs) (by rw[Qbd];exact hd.rs) (fun x hx y hy=>itm131 x y (QbO hc.ra x hx) (QbO hd.ra y hy))
  have h4:=eq125 132 c.xs d.xs hc.xs hd.xs (fun x hx y hy=>exm132 x y (hc.xl x hx) (hd.xl y hy))
  have h5:=eq128 133 c.ks d.ks hc.ks hd.ks (fun x hx y hy=>com133 x y (hc.kl x hx) (hd.kl y hy))
  rw[<-QeZ,<-QeZ]at h1
  rw[<-QcU,<-QcU]at h2 h3
  unfold cellEq
  generalize eqL evE (evl c.ev) (evl d.ev)=b1 at*
  generalize eqL itE (nmL' 99 c.cs) (nmL' 99 d.cs)=b2 at*
  generalize eqL itE (nmL' 114 c.rs) (nmL' 114 d.rs)=b3 at*
  generalize eqL exE c.xs d.xs=b4 at*
  generalize eqL coE c.ks d.ks=b5 at*
  simp(disch:=first|omega|(simp only[lenW]<;>omega)) only[s51,Bool.and_true,Bool.and_false,Bool.true_and,Bool.false_and,wW,wV,simprocAttr]
  refine cp h1 ?_
  cases b1
  · simp (disch := first | omega | (simp only [lenW] <;> omega)) only [Bool.and_true, Bool.and_false, Bool.true_and, Bool.false_and, wW, wV, simprocAttr]
    exact⟨.inr trivial,_,rfl,rfl⟩
  simp(disch:=first|omega|(simp only[lenW]<;>omega)) only[Bool.and_true,Bool.and_false,Bool.true_and,Bool.false_and,wW,wV,simprocAttr]
  refine cp h2 ?_
  cases b2
  · simp (disch := first | omega | (simp only [lenW] <;> omega)) only [Bool.and_true, Bool.and_false, Bool.true_and, Bool.false_and, wW, wV, simprocAttr]
    exact⟨.inr trivial,_,rfl,rfl⟩
  simp(disch:=first|omega|(simp only[lenW]<;>omega)) only[Bool.and_true,Bool.and_false,Bool.true_and,Bool.false_and,wW,wV,simprocAttr]
  refine cp h3 ?_
  cases b3
  · simp (disch := first | omega | (simp only [lenW] <;> omega)) only [Bool.and_true, Bool.and_false, Bool.true_and, Bool.false_and, wW, wV, simprocAttr]
    exact⟨.inr trivial,_,rfl,rfl⟩
  simp(disch:=first|omega|(simp only[lenW]<;>omega)) only[Bool.and_true,Bool.and_false,Bool.true_and,Bool.false_and,wW,wV,simprocAttr]
  refine cp h4 ?_
  cases b4
  · simp (disch := first | omega | (simp only [lenW] <;> omega)) only [Bool.and_true, Bool.and_false, Bool.true_and, Bool.false_and, wW, wV, simprocAttr]
    exact⟨.inr trivial,_,rfl,rfl⟩
  simp(disch:=first|omega|(simp only[lenW]<;>omega)) only[Bool.and_true,Bool.and_false,Bool.true_and,Bool.false_and,wW,wV,simprocAttr]
  refine cp h5 ?_
  simp(disch:=first|omega|(simp only[lenW]<;>omega)) only[Bool.and_true,Bool.and_false,Bool.true_and,Bool.false_and,wW,wV,simprocAttr]
  exact⟨.inr trivial,_,rfl,rfl⟩
end Go.AM.SO
namespace Go.AM.SW
open Go.Proofs
def s10:SFn:=⟨137,[.tmp 6],
 (.seq (.region [Zz 3 (.box .dyn (.t 0)) [],
 Zz 4 (.box .dyn (.t 1)) [],
 Zz 6 (.mov (.c (.bool false))) []] [] [0,1,6])
 (.seq (.seq (.region [Zz 18 (.call .pure (.f 15) []) [],
 Zz 19 (.un .not (.t 18)) [0],
 Zm 20 19 [1,0],
 Zx 21 (.load (some 152) (.t 3)) [2] 20 false,
 Zx 22 (.call .pure (.f 25) [(.t 21)]) [3,2,2] 20 false,
 Zx 23 (.un .not (.t 22)) [4,2] 20 false,
 Zz 24 (.pick (.t 20) (.c (.bool true)) (.t 23)) [2,5],
 Zm 25 24 [6,4],
 Zx 26 (.load (some 152) (.t 4)) [7] 25 false,
 Zx 27 (.call .pure (.f 25) [(.t 26)]) [8,7,7] 25 false,
 Zx 28 (.un .not (.t 27)) [9,7] 25 false,
 Zz 29 (.pick (.t 25) (.c (.bool true)) (.t 28)) [7,10],
 Zm 30 29 [11,9],
 Zx 31 (.mov (.t 2)) [12] 30 false,
 Zx 32 (.len 0 (.t 31)) [13,12] 30 false,
 Zx 33 (.bin .gtr (.t 32) (.c (.int .i64 50))) [14,12] 30 false,
 Zz 34 (.pick (.t 30) (.c (.bool true)) (.t 33)) [12,15]] [] [18,19,20,21,22,23,24,25,26,27,28,29,30,31,32,33])
 (.cond (.t 34)
 (.seq (.region [Zz 35 (.call .pure (.f 15) []) [],
 Zm 6 35 [0,0,0]] [] [2,3,4,34,35])
 .ret)
 .skip))
 (.seq (.region [Zw 36 152 3 [],
 Zz 37 (.call .pure (.f 26) [(.t 36)]) [0],
 Zw 38 152 4 [],
 Zz 39 (.call .pure (.f 26) [(.t 38)]) [2,1],
 Zz 7 (.alloc .dyn (.agg [.nilsl,.nilsl,.nilsl,.nilsl,.nilsl])) [],
 Zz 8 (.alloc .dyn (.agg [.nilsl,.nilsl,.nilsl,.nilsl,.nilsl])) [],
 Zs 5 7 37 [4,1,3,0,1,4,5],
 Zs 5 8 39 (Za [5,3,6] 7)] [(1,4),(3,4),(1,5),(3,5)] [6,4,34,36,37,38,39])
 (.seq (.seq (.region [Zw 40 5 7 [],
 Zz 41 (.call .pure (.f 21) [(.t 40)]) [0],
 Zz 42 (.bin .neq (.t 41) (.c (.int .i64 0))) [1],
 Zm 43 42 [2,1],
 Zx 44 (.load (some 5) (.t 7)) [3] 43 false,
 Zx 45 (.load (some 152) (.t 3)) [3] 43 false,
 Zx 46 (.call .pure (.f 26) [(.t 45)]) [5,3,3] 43 false,
 Zx 47 (.call .pure (.f 50) [(.t 44),(.t 46)]) [4,6,6,3] 43 false,
 Zx 48 (.un .not (.t 47)) [7,3] 43 false,
 Zz 49 (.pick (.t 43) (.c (.bool true)) (.t 48)) [3,8],
 Zm 50 49 [9,7],
 Zx 51 (.load (some 5) (.t 7)) [10] 50 false,
 Zx 52 (.load (some 5) (.t 8)) [10] 50 false,
 Zx 53 (.call .pure (.f 50) [(.t 51),(.t 52)]) [11,12,10,10] 50 false,
 Zx 54 (.load (some 5) (.t 7)) [10] 50 false,
 Zx 55 (.load (some 5) (.t 8)) [10] 50 false,
 Zx 56 (.call .pure (.f 51) [(.t 54),(.t 55)]) [14,15,13,10] 50 false,
 Zx 57 (.eq (.flat false [.b]) true (.t 53) (.t 56)) [13,16,10] 50 false,
 Zz 58 (.pick (.t 50) (.c (.bool true)) (.t 57)) [10,17]] [] [3,8,40,41,42,43,44,45,46,47,48,49,50,51,52,53,54,55,56,57])
 (.cond (.t 58)
 (.seq (.region [Zz 6 (.mov (.c (.bool false))) []] [] [2,7,58])
 .ret)
 .skip))
 (.seq (.region [Zm 59 2 [],
 Zz 60 (.bslice false .dyn 1 1 [(.str [])] [(0,1,(.t 59))]) [0],
 Zm 9 60 [1,0,1]] [] [6,2,58,59,60])
 (.seq (.seq (.region [Zw 61 5 7 [],
 Zz 62 (.call .pure (.f 43) [(.t 61)]) [0],
 Zv 63 62 [1],
 Zz 64 (.mov (.c (.int .i64 0))) []] [] [61])
 (.block 0 (.loop (.seq (.region [Zb 65 .lss 64 63 []] [] [])
 (.seq (.cond (.t 65)
 .skip
 (.exit 0))
 (.seq (.block 1 (.seq (.region [Zi 66 5 62 64 [],
 Zw 67 5 66 [0],
 Zz 11 (.alloc .dyn (.agg [(.str []),.nilsl,(.int .i64 0),.nilsl,.nilsl])) [],
 Zs 5 11 67 [2,1,0,1,2]] [] [65,66,67])
 (.region [Zm 68 9 [],
 Zf 69 0 11 [],
 Zl 70 69 [1],
 Zz 71 (.bslice false .dyn 1 1 [(.str [])] [(0,1,(.t 70))]) [2],
 Zz 72 (.append .dyn 1 16 (.t 68) (.t 71)) [0,3],
 Zm 9 72 (Za [4,4] 5)] [] [11,68,69,70,71,72])))
 (.region [Zz 73 (.bin .add (.t 64) (.c (.int .i64 1))) [],
 Zm 64 73 [0]] [] [73])))))))
 (.seq (.seq (.region [Zm 74 9 [],
 Zv 75 74 [0],
 Zz 76 (.mov (.c (.int .i64 0))) []] [] [9,62,63,64])
 (.block 2 (.loop (.seq (.region [Zb 77 .lss 76 75 []] [] [])
 (.seq (.cond (.t 77)
 .skip
 (.exit 2))
 (.seq (.block 3 (.seq (.region [Zi 78 1 74 76 [],
 Zl 79 78 [0],
 Zz 13 (.alloc .dyn (.str [])) [],
 Zs 1 13 79 [2,1,0,1,2]] [] [77,78,79])
 (.seq (.region [Zw 80 5 7 [],
 Zz 81 (.call .pure (.f 43) [(.t 80)]) [0],
 Zz 82 (.mkfn 53 [] [(.t 13)]) [],
 Zz 83 (.call .heap (.f 52) [(.t 81),(.t 82)]) [1,2,1],
 Zm 14 83 [3,3,0,1,2,3]] [] [80,81,82,83])
 (.seq (.region [Zw 85 5 7 [],
 Zl 86 13 [],
 Zz 87 (.call .pure (.f 54) [(.t 85),(.t 86)]) [0,1],
 Zm 84 87 [2],
 Zz 88 (.extract 0 (.t 84)) [3],
 Zz 89 (.extract 1 (.t 84)) [3],
 Zz 90 (.extract 2 (.t 84)) [3],
 Zm 15 88 (Za [4,2] 5),
 Zm 16 89 [5,7,0,1,2,3,4,5,7],
 Zm 17 90 (Za [6,8] 9)] [] [13,85,86,87,84,88,89,90])
 (.block 4 (.seq (.region [Zm 92 14 [],
 Zz 93 (.bin .lss (.t 92) (.c (.int .i64 0))) [0],
 Zm 91 93 [1]] [] [92,93])
 (.cond (.t 91)
 (.seq (.region [Zm 94 17 [],
 Zm 95 94 [0],
 Zx 96 (.mov (.t 15)) [1] 95 false,
 Zx 97 (.bin .neq (.t 96) (.c (.int .i64 0))) [2,1] 95 false,
 Zz 98 (.pick (.t 95) (.c (.bool true)) (.t 97)) [1,3],
 Zm 99 98 [4,1],
 Zx 100 (.mov (.t 16)) [5] 99 false,
 Zx 101 (.bin .neq (.t 100) (.c (.int .i64 0))) [6,5] 99 false,
 Zz 102 (.pick (.t 99) (.c (.bool true)) (.t 101)) [5,7]] [] [14,15,16,17,91,94,95,98,99])
 (.cond (.t 102)
 (.seq (.region [Zz 6 (.mov (.c (.bool false))) []] [] [7,101,100,97,96,118,116,117,113,112,134,128,133,129,132,131,130,125,124,74,75,76,102])
 .ret)
 .skip))
 (.seq (.region [Zm 104 14 [],
 Zf 105 1 7 [],
 Zl 106 105 [1],
 Zv 107 106 [2],
 Zb 108 .lss 104 107 [0,3],
 Zm 103 108 [4]] [] [91,104,105,106,107,108])
 (.cond (.t 103)
 (.seq (.region [Zm 109 17 [],
 Zz 110 (.un .not (.t 109)) [0],
 Zm 111 110 [1],
 Zx 112 (.mov (.t 15)) [2] 111 false,
 Zx 113 (.bin .neq (.t 112) (.c (.int .i64 1))) [3,2] 111 false,
 Zz 114 (.pick (.t 111) (.c (.bool true)) (.t 113)) [2,4],
 Zm 115 114 [5,2],
 Zx 116 (.mov (.t 16)) [6] 115 false,
 Zx 117 (.mov (.t 14)) [6] 115 false,
 Zx 118 (.bin .neq (.t 116) (.t 117)) [7,8,6] 115 false,
 Zz 119 (.pick (.t 115) (.c (.bool true)) (.t 118)) [6,9]] [] [14,15,16,17,103,109,110,111,114,115])
 (.cond (.t 119)
 (.seq (.region [Zz 6 (.mov (.c (.bool false))) []] [] [7,101,100,97,96,118,116,117,113,112,134,128,133,129,132,131,130,125,124,74,75,76,119])
 .ret)
 .skip))
 (.seq (.region [Zm 121 17 [],
 Zz 122 (.un .not (.t 121)) [0],
 Zm 123 122 [1],
 Zx 124 (.mov (.t 15)) [2] 123 false,
 Zx 125 (.bin .neq (.t 124) (.c (.int .i64 2))) [3,2] 123 false,
 Zz 126 (.pick (.t 123) (.c (.bool true)) (.t 125)) [2,4],
 Zm 127 126 [5,2],
 Zx 128 (.mov (.t 16)) [6] 127 false,
 Zx 129 (.mov (.t 14)) [6] 127 false,
 Zx 130 (.faddr 1 (.t 7)) [6] 127 false,
 Zx 131 (.load none (.t 130)) [9,6] 127 false,
 Zx 132 (.len 1 (.t 131)) [10,6] 127 false,
 Zx 133 (.bin .sub (.t 129) (.t 132)) [8,11,6] 127 false,
 Zx 134 (.bin .neq (.t 128) (.t 133)) [7,12,6] 127 false,
 Zz 135 (.pick (.t 127) (.c (.bool true)) (.t 134)) [6,13],
 Zm 120 135 [14,6]] [] [14,15,16,17,103,121,122,123,126,127,135])
 (.cond (.t 120)
 (.seq (.region [Zz 6 (.mov (.c (.bool false))) []] [] [7,101,100,97,96,118,116,117,113,112,134,128,133,129,132,131,130,125,124,74,75,76,120])
 .ret)
 .skip)))))))))))
 (.region [Zz 136 (.bin .add (.t 76) (.c (.int .i64 1))) [],
 Zm 76 136 [0]] [] [6,102,119,120,136])))))))
 (.seq (.region [Zz 6 (.mov (.c (.bool true))) []] [] [7,101,100,97,96,118,116,117,113,112,134,128,133,129,132,131,130,125,124,74,75,76])
 .ret))))))))⟩
def s43:SFn:=⟨9,[.tmp 2],
 (.seq (.region [Zz 1 (.box .dyn (.t 0)) [],
 Zz 2 (.mov (.c .nilsl)) []] [] [0,2])
 (.seq (.region [Zf 3 1 1 [],
 Zl 4 3 [0],
 Zz 5 (.call .heap (.f 114) [(.t 4)]) [1],
 Zf 6 2 1 [],
 Zl 7 6 [3],
 Zz 8 (.append .dyn 5 96 (.t 5) (.t 7)) [2,4,2],
 Zm 2 8 (Za [5,5] 6)] [(2,4)] [1,3,4,5,6,7,8])
 .ret))⟩
def s54:SFn:=⟨30,[.tmp 4,.tmp 5,.tmp 6],
 (.seq (.region [Zz 2 (.box .dyn (.t 0)) [],
 Zz 3 (.box .dyn (.t 1)) [],
 Zz 4 (.mov (.c (.int .i64 0))) [],
 Zz 5 (.mov (.c (.int .i64 0))) [2],
 Zz 6 (.mov (.c (.bool false))) [3]] [] [0,1,4,5,6])
 (.seq (.seq (.region [Zf 10 1 2 [],
 Zl 11 10 [0],
 Zf 12 2 2 [],
 Zl 13 12 [2],
 Zz 14 (.bslice false .dyn 1 2 [.nilsl,.nilsl] [(0,1,(.t 11)),(1,1,(.t 13))]) [1,3],
 Zv 15 14 [4],
 Zz 16 (.mov (.c (.int .i64 0))) []] [] [2,10,11,12,13])
 (.block 0 (.loop (.seq (.region [Zb 17 .lss 16 15 []] [] [])
 (.seq (.cond (.t 17)
 .skip
 (.exit 0))
 (.seq (.block 1 (.seq (.region [Zm 18 16 [],
 Zi 19 1 14 16 [],
 Zl 20 19 [1],
 Zm 7 18 [0,0,1,2],
 Zm 8 20 [2,3,0,1,2,3]] [] [17,18,19,20])
 (.seq (.region [Zm 21 8 [],
 Zz 22 (.mkfn 134 [] [(.t 3)]) [],
 Zz 23 (.call .heap (.f 52) [(.t 21),(.t 22)]) [0,1],
 Zm 9 23 [2,2,0,1,2]] [] [8,21,22,23])
 (.seq (.region [Zm 24 9 [],
 Zz 25 (.bin .geq (.t 24) (.c (.int .i64 0))) [0]] [] [24])
 (.cond (.t 25)
 (.seq (.region [Zm 26 7 [],
 Zz 27 (.bin .add (.c (.int .i64 1)) (.t 26)) [0],
 Zm 28 9 [],
 Zm 4 27 [1,0,1],
 Zm 5 28 [2,3,0,1,2,3],
 Zz 6 (.mov (.c (.bool true))) (Za [4] 5)] [] [3,14,15,16,7,9,25,26,27,28])
 .ret)
 .skip)))))
 (.region [Zz 29 (.bin .add (.t 16) (.c (.int .i64 1))) [],
 Zm 16 29 [0]] [] [4,5,6,7,9,25,29])))))))
 (.seq (.region [Zz 4 (.mov (.c (.int .i64 0))) [],
 Zz 5 (.mov (.c (.int .i64 0))) [0,0],
 Zz 6 (.mov (.c (.bool false))) [1,0,1]] [] [3,14,15,16])
 .ret)))⟩
theorem ok10:okFn Tryz.prog 10 s10=true:=by kernel_rfl
theorem ok43:okFn Tryz.prog 43 s43=true:=by kernel_rfl
theorem ok54:okFn Tryz.prog 54 s54=true:=by kernel_rfl
end Go.AM.SW
