/- A part of the proof of SynthesisChecksSaid: lemmas on the way (AnBx, AnBa, AnBb, AnBc, AmTg, AnBd, AnBe, AnBf, AnBg, AnDk, AmTh, AnBh, AnBi, AnBj). Conditions: none of ours. -/
import Derived.Test.YtgfnbkngfedlkaaProg
import Derived.KernelRfl
import Derived.Test.YtgfnbkngfedlkaaAmW9
set_option linter.unusedSectionVars false
set_option maxHeartbeats 32000000
set_option maxRecDepth 100000
set_option linter.unusedVariables false
set_option linter.unusedSimpArgs false
namespace Go.AM.SE
open Go.Proofs
set_option maxHeartbeats 4000000
noncomputable section
def cf:YA.Cf:={most:= .pure,always:=[40,22,23,31,33,34,50,35,36,38,42,43,44,45,46,47,48,49,18].map fun k=>(k,.heap),value:= .pure,eqn:=false}
def s37:SFn:=by
 refine(?f:YA.Yt Try.prog cf 37 [[4],[0,1,5,6,7,8]]) ?s ?h
 case h=>exact YA.rr
 exact fun s _=>s
def s40:SFn:=by
 refine(?f:YA.Yt Try.prog cf 40 [[2],[3],[0,4],[0,4,5,6,7]]) ?s ?h
 case h=>exact YA.rr
 exact fun s _=>s
def s28:SFn:=by
 refine(?f:YA.Yt Try.prog cf 28 [[0,1,4],[6,7,8,9,10,11,12,13,14,15,16,17,18,19,20,21,22,23,24,25,26,27,28,29,30,31,32,33,34],[2,3,35],[4,35],[36,37,38,39],[40,43,44,45,46,47,48,49,50,51,52],[2,3,5,53],[4,53,41,42],[2,3,5]]) ?s ?h
 case h=>exact YA.rr
 exact fun s _=>s
def s14:SFn:=by
 refine(?f:YA.Yt Try.prog cf 14 [[4],[6,7,8,9],[0,1,10],[4,10],[11,12,13],[14,17,18,19,20,21,22,23,24],[0,1,5,25],[4,25,15,16],[0,1,5]]) ?s ?h
 case h=>exact YA.rr
 exact fun s _=>s
def s9:SFn:=by
 refine(?f:YA.Yt Try.prog cf 9 [[0,7],[9,10,11,12],[13],[1,2,3,8,14,15,16],[1,2,3,8,14,17,18,19,20]]) ?s ?h
 case h=>exact YA.rr
 exact fun s _=>s
def s10:SFn:=by
 refine(?f:YA.Yt Try.prog cf 10 [[0,7],[9,10,11,12],[13],[1,2,3,8,14,15,16],[1,2,3,8,14,17,18,19,20]]) ?s ?h
 case h=>exact YA.rr
 exact fun s _=>s
def s17:SFn:=by
 refine(?f:YA.Yt Try.prog cf 17 [[4],[6,7,8,9],[0,1,10],[4,10],[11,12,13],[14,17,18,19,20,21,22,23,24],[0,1,5,25],[4,25,15,16],[0,1,5]]) ?s ?h
 case h=>exact YA.rr
 exact fun s _=>s
def s21:SFn:=by
 refine(?f:YA.Yt Try.prog cf 21 [[0],[2,4,19,20,21,22],[],[1],[],[26,27,28],[12,29,30,31,32,33,34,35,36,37],[38],[39],[23,24,25],[42,43,44,45],[46,47],[48],[],[52,53,54],[16,55,56,57,58,59,60,61],[62],[14,49,50,51,63,64,65,66,67,68,69],[70,71],[40,41],[3,13,72,73,74,75],[76],[],[80,81,82,83],[84,85,86,87,88,89],[17,90,91,92,93,94,95,96,97,98],[18,99,100,101,102,103,104,105,106],[17,18,90,107],[9,77,78,79,109,110,108,111,112,113,114],[10,115]]) ?s ?h
 case h=>exact YA.rr
 exact fun s _=>s
def s41:SFn:=by
 refine(?f:YA.Yt Try.prog cf 41 [[4],[6],[],[9,10],[11,12,13,14,15],[0,1,7,8,5,16,17],[4,5,16,18],[0,1,7,8]]) ?s ?h
 case h=>exact YA.rr
 exact fun s _=>s
def s19:SFn:=by
 refine(?f:YA.Yt Try.prog cf 19 [[0,2],[5,6,7],[8],[1,3,9,10],[2,3,9,12,13,14],[1,11],[11,16,17,18],[1,15],[2,15,19,20,21,22,23],[24],[1,4,25,26],[1,4,25,27,28]]) ?s ?h
 case h=>exact YA.rr
 exact fun s _=>s
def s20:SFn:=by
 refine(?f:YA.Yt Try.prog cf 20 [[4],[],[],[10,11,12,13],[14,15,16],[0,1,7,8,9,30,24,29,28,25,27,26,19,17,18,5,6,20],[4,5,6,20,21,22,23],[0,1,7,8,9,30,24,29,28,25,27,26,19,17,18,31],[4,31,32],[0,1,7,8,9,30,24,29,28,25,27,26,19,17,18]]) ?s ?h
 case h=>exact YA.rr
 exact fun s _=>s
def s24:SFn:=by
 refine(?f:YA.Yt Try.prog cf 24 [[4],[],[6,7,8],[9,12,13,14,15,16],[0,1,5,17],[4,17,10,11],[0,1,5]]) ?s ?h
 case h=>exact YA.rr
 exact fun s _=>s
def s7:SFn:=by
 refine(?f:YA.Yt Try.prog cf 7 [[0,6],[9,10],[11],[1,2,3,7,12,13],[6,1,3,7,12,14,15,16,17],[18],[2,8,19,20],[2,8,19,21,22]]) ?s ?h
 case h=>exact YA.rr
 exact fun s _=>s
def s22:SFn:=by
 refine(?f:YA.Yt Try.prog cf 22 [[0,6],[2,13,14,15,16,17,18,19,20],[21,22,23,24],[],[27,28],[8,29,30,31,32,33,34],[35],[1,25,26],[],[39,40,41],[10,42,43,44,45,46,47],[48],[3,36,37,38,49],[],[53,54,55],[12,56,57,58,59,60,61,62,63,64,65,66,67,68,69,70,71,72],[73],[7,50,51,52,74]] [(16,[(2,4)]),(2,[(12,15),(3,16),(5,16)])]) ?s ?h
 case h=>exact YA.rr
 exact fun s _=>s
def s23:SFn:=by
 refine(?f:YA.Yt Try.prog cf 23 [[6],[8,9,10],[2,11,12,13,14,15,16],[0,1,7,17,18],[0,1,7,17,19,20,21]]) ?s ?h
 case h=>exact YA.rr
 exact fun s _=>s
def s33:SFn:=by
 refine(?f:YA.Yt Try.prog cf 33 [[2],[11,12,13,14,15,16],[17],[],[20,21],[4,22,23,24],[25],[18,19],[26,27,28,29],[],[33,34,35],[36,37,38,39,40,41],[42,43,44,45],[7,46,47,48,49],[7,42,50],[30,31,32],[51,52,53],[54,57,58,59,60,61,62,63,64],[],[68,69,70],[71,72,73,74,75,76,77,78],[84,85,86,87,88,89,90,91,92,93,94,95],[10,96,97,98,99],[10,84,100],[65,66,67,55,56],[0,3,83,82,81,79,80,5,8,101]]) ?s ?h
 case h=>exact YA.rr
 exact fun s _=>s
def s34:SFn:=by
 refine(?f:YA.Yt Try.prog cf 34 [[3],[15,16,17,18,19,20,21],[22,23,24,25,26,27,28,29,30,31,32,33,34,35],[0,4,36,37],[3,36,38,39,40,41,42,43],[44,45,46,47],[],[51,52,53],[54,55,56,57,58,59,60],[7,61,62,63,64,65,66,67,68,69,70,71,72,73],[7,61,74],[48,49,50,75,76],[77],[],[78,79,80],[81,84,85,86,87,88,89],[],[93,94,95],[97,98,99,100,96,101,102],[14,103],[104,105,106],[107,108,109,110],[111,112,113,114,115],[12,13,104,116,117,118,119,120,121,122,123,124,125],[126],[90,91,92,127,128,129,130,131,132,133,134,135],[136,137,138,139,140,141,142],[136,82,83],[0,5,8,10,143,144,145],[4,9,146,147]] [(20,[(2,10)])]) ?s ?h
 case h=>exact YA.rr
 exact fun s _=>s
def s29:SFn:=by
 refine(?f:YA.Yt Try.prog cf 29 [[4],[],[],[10,11,12,13],[15,16,17,21],[0,1,7,8,9,32,26,31,30,27,29,28,20,18,19,5,6,14],[5,6,14,23,24,25,33],[0,1,7,8,9,32,26,31,30,27,29,28,20,18,19,22],[4,22,34],[0,1,7,8,9,32,26,31,30,27,29,28,20,18,19]]) ?s ?h
 case h=>exact YA.rr
 exact fun s _=>s
def s30:SFn:=by
 refine(?f:YA.Yt Try.prog cf 30 [[0,2],[6],[],[10,11,12,13],[15,16,17,18,24,25,29,30,36],[1,7,8,9,69,63,68,65,67,66,64,62,59,61,60,58,35,32,34,33,31,28,27,26,23,20,22,21,19,4,3,14],[14,38,39,40,41,42,43],[1,7,8,9,69,63,68,65,67,66,64,62,59,61,60,58,35,32,34,33,31,28,27,26,23,20,22,21,19,4,3,37],[2,37,44],[3,45,46,47,48,49,50,51],[4,5,52,53,54,55,56,57],[1,7,8,9,69,63,68,65,67,66,64,62,59,61,60,58,35,32,34,33,31,28,27,26,23,20,22,21,19,70],[2,70,71],[1,7,8,9,69,63,68,65,67,66,64,62,59,61,60,58,35,32,34,33,31,28,27,26,23,20,22,21,19]]) ?s ?h
 case h=>exact YA.rr
 exact fun s _=>s
def s35:SFn:=by
 refine(?f:YA.Yt Try.prog cf 35 [[4],[],[9,10,11,12],[],[16,17,18],[19,20,21,22,23,24,25,26,27,28,37,38],[47,48,49],[8,50,51,52],[7,62,63,64,65,66,67,68,69,70,71],[72],[0,1,5,13,14,15,61,58,60,59,57,56,53,55,54,46,45,42,44,43,41,40,39,36,35,32,34,33,31,30,29,73]]) ?s ?h
 case h=>exact YA.rr
 exact fun s _=>s
def s36:SFn:=by
 refine(?f:YA.Yt Try.prog cf 36 [[4],[],[8],[],[12,13,14,15],[7,16,17,18,19,20,21,22,23],[6,26,27,28,29,30,31,32],[6,26,33],[0,1,5,9,10,11,25,24,34]]) ?s ?h
 case h=>exact YA.rr
 exact fun s _=>s
theorem ok37:okFn Try.prog 37 s37=true:=by kernel_rfl
theorem ok40:okFn Try.prog 40 s40=true:=by kernel_rfl
theorem ok28:okFn Try.prog 28 s28=true:=by kernel_rfl
theorem ok14:okFn Try.prog 14 s14=true:=by kernel_rfl
theorem ok9:okFn Try.prog 9 s9=true:=by kernel_rfl
theorem ok10:okFn Try.prog 10 s10=true:=by kernel_rfl
theorem ok17:okFn Try.prog 17 s17=true:=by kernel_rfl
theorem ok21:okFn Try.prog 21 s21=true:=by kernel_rfl
theorem ok41:okFn Try.prog 41 s41=true:=by kernel_rfl
theorem ok19:okFn Try.prog 19 s19=true:=by kernel_rfl
theorem ok20:okFn Try.prog 20 s20=true:=by kernel_rfl
theorem ok24:okFn Try.prog 24 s24=true:=by kernel_rfl
theorem ok7:okFn Try.prog 7 s7=true:=by kernel_rfl
theorem ok22:okFn Try.prog 22 s22=true:=by kernel_rfl
theorem ok23:okFn Try.prog 23 s23=true:=by kernel_rfl
theorem ok33:okFn Try.prog 33 s33=true:=by kernel_rfl
theorem ok34:okFn Try.prog 34 s34=true:=by kernel_rfl
theorem ok29:okFn Try.prog 29 s29=true:=by kernel_rfl
theorem ok30:okFn Try.prog 30 s30=true:=by kernel_rfl
theorem ok35:okFn Try.prog 35 s35=true:=by kernel_rfl
theorem ok36:okFn Try.prog 36 s36=true:=by kernel_rfl
end
end Go.AM.SE
namespace Go.AM.SE
open Go.Proofs Go.AM.SD
theorem _root_.Go.AM.au0 {p:Prop} (h:p:=by repeat (first|exact RO.zero|exact RO.e|refine RO.set rfl ?_)):p:=h
theorem _root_.Go.AM.au1 {p:Prop} (h:p:=by repeat' (first|exact RB.nil|(refine RnL.same ?_;first|rfl|(simp only[noRef,noRefs,Qah,Bool.and_self,Bool.and_true,Bool.true_and,Qaa,Qaf,Qac,Qad,Qab,Qam,Qai,Qal,Qaj];done))|exact RnM.keyM rfl|exact RnL.nil|exact(True.intro:RnM _ _ _ [] [])|refine RnL.cons ?_ ?_|(refine Rn.same ?_;first|rfl|(simp only[noRef,noRefs,Qah,Bool.and_self,Bool.and_true,Bool.true_and,Qaa,Qaf,Qac,Qad,Qab,Qam,Qai,Qal,Qaj];done))|exact Rn.x1 rfl rfl|exact Rn.x2 rfl rfl|exact Rn.x3 rfl rfl|exact Rn.x4 rfl rfl|exact Rn.x5 rfl|exact Rn.x6 rfl|exact Rn.x7 rfl|refine RB.newnil rfl rfl ?_|refine RB.cells rfl rfl rfl ?_ ?_|refine RB.map rfl rfl rfl ?_ ?_|refine RB.cellsB rfl rfl ?_ ?_|refine RB.mapB rfl rfl ?_ ?_)):p:=h
theorem _root_.Go.AM.au2 {p:Prop} (h:p:=by repeat (first|exact RT.nil|(refine RT.cons ?_ ?_; · (first|exact Rn.any|exact Rn.x1 rfl rfl|exact Rn.x2 rfl rfl|exact Rn.x3 rfl rfl|exact Rn.x4 rfl rfl|exact Rn.x5 rfl|exact Rn.x6 rfl|exact Rn.x7 rfl|(refine Rn.slot ?_ ?_;(first|rfl|(rw[Int.natCast_add];rfl));(first|rfl|(simp only[noRef,noRefs,Qah,Bool.and_self,Bool.and_true,Bool.true_and,Qaa,Qaf,Qac,Qad,Qab,Qam,Qai,Qal,Qaj];done)))|(refine Rn.fn ?_ ?_<;>(repeat' (first|exact RnL.nil|refine RnL.cons ?_ ?_|exact Rn.same rfl|exact Rn.x6 rfl|exact Rn.x2 rfl rfl|exact Rn.x5 rfl|exact Rn.x1 rfl rfl))))))):p:=h
theorem has15 (l:List Int) (n:Int) (hl:l.length<=140737488355328):PSpec Try.prog 24 [sli l,.int .i64 n] (.bool (decide (n∈l))):=by
  refine PSpec.QaI 64 ok24 rfl (by(try simp only[noRefs,Qaa,Qaf,Qac,Qad,Qab,noRef,Bool.and_self,Bool.and_true])<;>rfl) rfl ?_
  simp(disch:=first|omega|(simp only[lenW]<;>omega)) only[s24,wV,simprocAttr]
  refine Qa0 100 (fun i:Nat=>[(0,sli l),(1,.int .i64 n),(5,.int .i64 i)]) (fun _=>[]) (fun i=>i<=l.length/\∀(j:Nat) y,j<i->l[j]?=some y->y≠n) (fun i=>l.length-i) 0 ⟨[],rfl,au0,au1,au2⟩ ⟨Nat.zero_le _,fun j y hj=>absurd hj (Nat.not_lt_zero _)⟩ ?_
  rintro i ⟨hi,hb⟩
  by_cases hlt:i<l.length
  · obtain ⟨x, hx⟩ := Qax hlt
    by_cases h0:x=n
    · simp (disch := first | omega | (simp only [lenW] <;> omega)) only [hlt, Qas hx, h0, wV, simprocAttr]
      refine⟨.inr trivial,_,rfl,?_⟩
      have:n∈l:=h0▸List.mem_of_getElem? hx
      simp[resOf,QaM,this]
    · simp (disch := first | omega | (simp only [lenW] <;> omega)) only [hlt, Qas hx, h0, wV, simprocAttr]
      refine⟨i+1,by omega,⟨by omega,fun j y hj hy=>?_⟩,⟨[],rfl,au0,au1,au2⟩⟩
      by_cases e:j=i
      · subst e;rw[hx]at hy;cases hy;exact h0
      · exact hb j y (by omega) hy
  · have : n ∉ l := fun h => by
      obtain⟨j,hj,hjl⟩:=Qf7 h
      exact hb j n (by omega) hj rfl
    simp(disch:=first|omega|(simp only[lenW]<;>omega)) only[hlt,wV,simprocAttr]
    exact⟨.inr trivial,_,rfl,by simp[resOf,QaM,this]⟩
theorem sameInts (a b : List Int) (hl : a.length <= 140737488355328) : PSpec Try.prog 14 [sli a, sli b] (.bool (decide (a = b))) := by
  refine PSpec.QaI 64 ok14 rfl (by(try simp only[noRefs,Qaa,Qaf,Qac,Qad,Qab,noRef,Bool.and_self,Bool.and_true])<;>rfl) rfl ?_
  by_cases hab:a.length=b.length
  · simp (disch := first | omega | (simp only [lenW] <;> omega)) only [s14, hab, wV, simprocAttr]
    refine Qa0 100 (fun i:Nat=>[(0,sli a),(1,sli b),(5,.int .i64 i)]) (fun _=>[]) (fun i=>i<=a.length/\∀j,j<i->a[j]?=b[j]?) (fun i=>a.length-i) 0 ⟨[],rfl,au0,au1,au2⟩ ⟨Nat.zero_le _,fun j hj=>absurd hj (Nat.not_lt_zero _)⟩ ?_
    rintro i ⟨hi,hb⟩
    by_cases hlt:i<a.length
    · obtain ⟨x, hx⟩ := Qax hlt
      obtain⟨y,hy⟩:=Qax (l:=b) (i:=i) (by omega)
      have hlt2:i<b.length:=by omega
      by_cases h0:x=y
      · simp (disch := first | omega | (simp only [lenW] <;> omega)) only [hlt, hlt2, Qas hx, Qas hy, h0, wV, simprocAttr]
        refine⟨i+1,by omega,⟨by omega,fun j hj=>?_⟩,⟨[],rfl,au0,au1,au2⟩⟩
        by_cases e:j=i
        · subst e;rw[hx,hy,h0]
        · exact hb j (by omega)
      · simp (disch := first | omega | (simp only [lenW] <;> omega)) only [hlt, hlt2, Qas hx, Qas hy, h0, wV, simprocAttr]
        refine⟨.inr trivial,_,rfl,?_⟩
        have:a≠b:=fun e=>by subst e;rw[hx]at hy;cases hy;exact h0 rfl
        simp[resOf,QaM,this]
    · have : a = b := List.ext_getElem? fun j => by
        by_cases hj:j<i
        · exact hb j hj
        · rw[List.getElem?_eq_none (by omega),List.getElem?_eq_none (by omega)]
      simp(disch:=first|omega|(simp only[lenW]<;>omega)) only[hlt,wV,simprocAttr]
      exact⟨.inr trivial,_,rfl,by simp[resOf,QaM,this]⟩
  · simp (disch := first | omega | (simp only [lenW] <;> omega)) only [s14, hab, wV, simprocAttr]
    have:a≠b:=fun e=>hab (by rw[e])
    exact⟨.inr trivial,_,rfl,by simp[resOf,QaM,this]⟩
def indexR (l:List Int) (n:Int):Int:=if n∈l then(l.findIdx (· ==n):Int)else-1
theorem index70 (l : List Int) (n : Int) (hl : l.length <= 140737488355328) : PSpec Try.prog 41 [sli l, .int .i64 n] (.int .i64 (indexR l n)) := by
  refine PSpec.QaI 64 ok41 rfl (by(try simp only[noRefs,Qaa,Qaf,Qac,Qad,Qab,noRef,Bool.and_self,Bool.and_true])<;>rfl) rfl ?_
  simp(disch:=first|omega|(simp only[lenW]<;>omega)) only[s41,wV,simprocAttr]
  refine Qa0 100 (fun i:Nat=>[(0,sli l),(1,.int .i64 n),(7,.int .i64 l.length),(8,.int .i64 i)]) (fun _=>[]) (fun i=>i<=l.length/\∀(j:Nat) y,j<i->l[j]?=some y->y≠n) (fun i=>l.length-i) 0 ⟨[],rfl,au0,au1,au2⟩ ⟨Nat.zero_le _,fun j y hj=>absurd hj (Nat.not_lt_zero _)⟩ ?_
  rintro i ⟨hi,hb⟩
  by_cases hlt:i<l.length
  · obtain ⟨x, hx⟩ := Qax hlt
    by_cases h0:n=x
    · simp (disch := first | omega | (simp only [lenW] <;> omega)) only [hlt, Qas hx, h0, wV, simprocAttr]
      refine⟨.inr trivial,_,rfl,?_⟩
      have h1:n∈l:=h0▸List.mem_of_getElem? hx
      have h2:l.findIdx (· ==n)=i:=by
        rw[List.findIdx_eq hlt]
        refine⟨by rw[List.getElem?_eq_getElem hlt]at hx;cases hx;simp[h0],fun j hj=>?_⟩
        have:=hb j l[j] hj (List.getElem?_eq_getElem (by omega))
        simpa using this
      subst h0
      simp only[indexR,if_pos h1,h2];rfl
    · simp (disch := first | omega | (simp only [lenW] <;> omega)) only [hlt, Qas hx, h0, wV, simprocAttr]
      refine⟨i+1,by omega,⟨by omega,fun j y hj hy=>?_⟩,⟨[],rfl,au0,au1,au2⟩⟩
      by_cases e:j=i
      · subst e;rw[hx]at hy;cases hy;exact fun e=>h0 e.symm
      · exact hb j y (by omega) hy
  · have : n ∉ l := fun h => by
      obtain⟨j,hj,hjl⟩:=Qf7 h
      exact hb j n (by omega) hj rfl
    simp(disch:=first|omega|(simp only[lenW]<;>omega)) only[hlt,wV,simprocAttr]
    exact⟨.inr trivial,_,rfl,by simp only[indexR,if_neg this];rfl⟩
theorem contains62 (l:List Int) (n:Int) (hl:l.length<=140737488355328):PSpec Try.prog 37 [sli l,.int .i64 n] (.bool (decide (n∈l))):=by
  refine PSpec.QaI 64 ok37 rfl (by(try simp only[noRefs,Qaa,Qaf,Qac,Qad,Qab,noRef,Bool.and_self,Bool.and_true])<;>rfl) rfl ?_
  simp(disch:=first|omega|(simp only[lenW]<;>omega)) only[s37,wV,simprocAttr]
  refine cp (index70 l n hl) ?_
  have e:decide (0<=indexR l n)=decide (n∈l):=by
    unfold indexR
    by_cases h:n∈l
    · rw[if_pos h];simp[h]
    · rw[if_neg h];simp[h]
  by_cases h:n∈l
  · have e2 : 0 <= indexR l n := by rw [decide_eq_decide] at e; exact e.2 h
    simp(disch:=first|omega|(simp only[lenW]<;>omega)) only[e2,wV,simprocAttr]
    exact⟨.inr trivial,_,rfl,by simp[resOf,QaM,h]⟩
  · have e2 : ¬ 0 <= indexR l n := by rw [decide_eq_decide] at e; exact fun h2 => h (e.1 h2)
    simp(disch:=first|omega|(simp only[lenW]<;>omega)) only[e2,wV,simprocAttr]
    exact⟨.inr trivial,_,rfl,by simp[resOf,QaM,h]⟩
end Go.AM.SE
namespace Go.AM.SE
open Go.Proofs Go.AM.SD
def SetOk (l:List Int) (n:Int):Prop:=(∀x∈l,0<=x/\x<n)/\l.Pairwise (· < ·)
theorem SetOk.up {l:List Int} {n:Int} (h:SetOk l n) {i:Nat} {x y:Int} (hx:l[i]?=some x) (hy:l[i+1]?=some y):x<y:=by
 obtain⟨h1,e1⟩:=List.getElem?_eq_some_iff.1 hx
 obtain⟨h2,e2⟩:=List.getElem?_eq_some_iff.1 hy
 have:=List.pairwise_iff_getElem.1 h.2 i (i+1) h1 h2 (by omega)
 rw[e1,e2]at this;exact this
theorem SetOk.nz {l:List Nat} {n:Nat} (h1:∀x∈l,x<n) (h2:l.Pairwise (· < ·)):SetOk (nz l) n:=by
 refine⟨fun x hx=>?_,?_⟩
 ·obtain ⟨a, ha, rfl⟩ := List.mem_map.1 hx
  have:=h1 a ha;omega
 ·rw[List.pairwise_map];exact h2.imp fun h=>by omega
theorem set38 (l:List Int) (n:Int) (hl:l.length<=140737488355328) (h:SetOk l n):PSpec Try.prog 20 [sli l,.int .i64 n] (.int .i64 0):=by
  refine PSpec.QaI 64 ok20 rfl (by(try simp only[noRefs,Qaa,Qaf,Qac,Qad,Qab,noRef,Bool.and_self,Bool.and_true])<;>rfl) rfl ?_
  simp(disch:=first|omega|(simp only[lenW]<;>omega)) only[s20,wV,simprocAttr]
  refine Qa0 100 (fun i:Nat=>[(0,sli l),(1,.int .i64 n),(7,sli l),(8,.int .i64 l.length),(9,.int .i64 i)]) (fun _=>[]) (fun i=>i<=l.length) (fun i=>l.length-i) 0 ⟨[],rfl,au0,au1,au2⟩ (Nat.zero_le _) ?_
  rintro i hi
  by_cases hlt:i<l.length
  · obtain ⟨x, hx⟩ := Qax hlt
    obtain⟨h1,h2⟩:=h.1 x (List.mem_of_getElem? hx)
    have h1':¬x<0:=by omega
    have h2':¬n<=x:=by omega
    by_cases h0:i=0
    · have h4 : ¬ (0 : Int) < (i : Int) := by omega
      simp(disch:=first|omega|(simp only[lenW]<;>omega)) only[hlt,Qas hx,h1',h2',h4,wV,simprocAttr]
      exact⟨i+1,by omega,by omega,⟨[],rfl,au0,au1,au2⟩⟩
    · obtain ⟨y, hy⟩ := Qax (l := l) (i := i - 1) (by omega)
      have h3:=h.up hy (by rw[show i-1+1=i by omega];exact hx)
      have h3':¬x<=y:=by omega
      have h4:(0:Int)<(i:Int):=by omega
      have h5:(i:Int)-1=((i-1:Nat):Int):=by omega
      have h6:((i-1:Nat):Int)<l.length:=by omega
      simp(disch:=first|omega|(simp only[lenW]<;>omega)) only[hlt,Qas hx,h1',h2',h4,h5,h6,Qas hy,h3',wV,simprocAttr]
      exact⟨i+1,by omega,by omega,⟨[],rfl,au0,au1,au2⟩⟩
  · simp (disch := first | omega | (simp only [lenW] <;> omega)) only [hlt, wV, simprocAttr]
    exact⟨.inr trivial,_,rfl,rfl⟩
theorem set49 (l:List Int) (n:Int) (hl:l.length<=140737488355328) (h:SetOk l n):PSpec Try.prog 29 [sli l,.int .i64 n] (.int .i64 0):=by
  refine PSpec.QaI 64 ok29 rfl (by(try simp only[noRefs,Qaa,Qaf,Qac,Qad,Qab,noRef,Bool.and_self,Bool.and_true])<;>rfl) rfl ?_
  simp(disch:=first|omega|(simp only[lenW]<;>omega)) only[s29,wV,simprocAttr]
  refine Qa0 100 (fun i:Nat=>[(0,sli l),(1,.int .i64 n),(7,sli l),(8,.int .i64 l.length),(9,.int .i64 i)]) (fun _=>[]) (fun i=>i<=l.length) (fun i=>l.length-i) 0 ⟨[],rfl,au0,au1,au2⟩ (Nat.zero_le _) ?_
  rintro i hi
  by_cases hlt:i<l.length
  · obtain ⟨x, hx⟩ := Qax hlt
    obtain⟨h1,h2⟩:=h.1 x (List.mem_of_getElem? hx)
    have h1':¬x<0:=by omega
    have h2':¬n<=x:=by omega
    by_cases h0:i=0
    · have h4 : ¬ (0 : Int) < (i : Int) := by omega
      simp(disch:=first|omega|(simp only[lenW]<;>omega)) only[hlt,Qas hx,h1',h2',h4,wV,simprocAttr]
      exact⟨i+1,by omega,by omega,⟨[],rfl,au0,au1,au2⟩⟩
    · obtain ⟨y, hy⟩ := Qax (l := l) (i := i - 1) (by omega)
      have h3:=h.up hy (by rw[show i-1+1=i by omega];exact hx)
      have h3':¬x<=y:=by omega
      have h4:(0:Int)<(i:Int):=by omega
      have h5:(i:Int)-1=((i-1:Nat):Int):=by omega
      have h6:((i-1:Nat):Int)<l.length:=by omega
      simp(disch:=first|omega|(simp only[lenW]<;>omega)) only[hlt,Qas hx,h1',h2',h4,h5,h6,Qas hy,h3',wV,simprocAttr]
      exact⟨i+1,by omega,by omega,⟨[],rfl,au0,au1,au2⟩⟩
  · simp (disch := first | omega | (simp only [lenW] <;> omega)) only [hlt, wV, simprocAttr]
    exact⟨.inr trivial,_,rfl,rfl⟩
end Go.AM.SE
namespace Go.AM.SE
open Go.Proofs Go.AM.SD
structure EgsOk (a:Au):Prop where
 len:a.es.length<=140737488355328
 all:a.al.length<=140737488355328
 fr:∀e∈a.es,0<=e.fr/\e.fr<a.n
 to:∀e∈a.es,0<=e.to/\e.to<a.n
 ev:∀e∈a.es,e.ev∈a.al
 up:a.es.Pairwise fun x y=>x.fr<y.fr\/(x.fr=y.fr/\x.ev<y.ev)
theorem EgsOk.step {a:Au} (h:EgsOk a) {i:Nat} {x y:Eg} (hx:a.es[i]?=some x) (hy:a.es[i+1]?=some y):x.fr<y.fr\/(x.fr=y.fr/\x.ev<y.ev):=by
 obtain⟨h1,e1⟩:=List.getElem?_eq_some_iff.1 hx
 obtain⟨h2,e2⟩:=List.getElem?_eq_some_iff.1 hy
 have:=List.pairwise_iff_getElem.1 h.up i (i+1) h1 h2 (by omega)
 rw[e1,e2]at this;exact this
theorem edges50 (a : Au) (h : EgsOk a) : PSpec Try.prog 30 [auV a] (.int .i64 0) := by
  refine PSpec.QaI 64 ok30 rfl (by(try simp only[noRefs,Qaa,Qaf,Qac,Qad,Qab,noRef,Bool.and_self,Bool.and_true])<;>rfl) rfl ?_
  have hl:=h.len
  simp(disch:=first|omega|(simp only[lenW]<;>omega)) only[s30,wV,simprocAttr]
  refine Qa0 100 (fun i:Nat=>[(1,.ptr 50 0 0),(7,egs a.es),(8,.int .i64 a.es.length),(9,.int .i64 i)]) (fun _=>[(50,.cells 0 [sli a.al,.int .i64 a.n,sli a.ms,egs a.es])]) (fun i=>i<=a.es.length) (fun i=>a.es.length-i) 0 ⟨[(50,.blk 64 0)],rfl,au0,au1,au2⟩ (Nat.zero_le _) ?_
  rintro i hi
  by_cases hlt:i<a.es.length
  · obtain ⟨x, hx⟩ := Qax hlt
    have hm:=List.mem_of_getElem? hx
    obtain⟨f1,f2⟩:=h.fr x hm
    obtain⟨t1,t2⟩:=h.to x hm
    have f1':¬x.fr<0:=by omega
    have f2':¬a.n<=x.fr:=by omega
    have t1':¬x.to<0:=by omega
    have t2':¬a.n<=x.to:=by omega
    have hev:decide (x.ev∈a.al)=true:=decide_eq_true (h.ev x hm)
    simp(disch:=first|omega|(simp only[lenW]<;>omega)) only[hlt,Qaw hx,f1',f2',t1',t2',wV,simprocAttr]
    refine cp (contains62 a.al x.ev h.all) ?_
    rw[hev]
    by_cases h0:i=0
    · have h4 : (i : Int) = 0 := by omega
      simp(disch:=first|omega|(simp only[lenW]<;>omega)) only[hlt,Qaw hx,h4,wV,simprocAttr]
      exact⟨1,by omega,by omega,⟨[(50,.blk 50 0)],rfl,au0,au1,au2⟩⟩
    · obtain ⟨y, hy⟩ := Qax (l := a.es) (i := i - 1) (by omega)
      have h4:¬(i:Int)=0:=by omega
      have h5:(i:Int)-1=((i-1:Nat):Int):=by omega
      have h6:((i-1:Nat):Int)<a.es.length:=by omega
      rcases h.step hy (by rw[show i-1+1=i by omega];exact hx)with h3|⟨h3,h3b⟩
      · have g1 : ¬ x.fr < y.fr := by omega
        have g2:¬x.fr=y.fr:=by omega
        simp(disch:=first|omega|(simp only[lenW]<;>omega)) only[hlt,Qaw hx,h4,h5,h6,Qaw hy,g1,g2,wV,simprocAttr]
        exact⟨i+1,by omega,by omega,⟨[(50,.blk 50 0)],rfl,au0,au1,au2⟩⟩
      · have g1 : ¬ x.fr < y.fr := by omega
        have g2:x.fr=y.fr:=by omega
        have g3:¬x.ev<=y.ev:=by omega
        simp(disch:=first|omega|(simp only[lenW]<;>omega)) only[hlt,Qaw hx,h4,h5,h6,Qaw hy,g1,g2,g3,wV,simprocAttr]
        exact⟨i+1,by omega,by omega,⟨[(50,.blk 50 0)],rfl,au0,au1,au2⟩⟩
  · simp (disch := first | omega | (simp only [lenW] <;> omega)) only [hlt, wV, simprocAttr]
    exact⟨.inr trivial,_,rfl,rfl⟩
structure AuOk (a:Au):Prop extends EgsOk a where
 alS:SetOk a.al 32
 msS:SetOk a.ms a.n
 mslen:a.ms.length<=140737488355328
 n0:0<=a.n
 nm:a.n<=4096
theorem check37 (a:Au) (h:AuOk a):PSpec Try.prog 19 [auV a] (.int .i64 0):=by
 refine PSpec.QaI 64 ok19 rfl (by(try simp only[noRefs,Qaa,Qaf,Qac,Qad,Qab,noRef,Bool.and_self,Bool.and_true])<;>rfl) rfl ?_
 have h1:¬a.n<0:=by have:=h.n0;omega
 have h2:¬4096<a.n:=by have:=h.nm;omega
 simp(disch:=first|omega|(simp only[lenW]<;>omega)) only[s19,wV,simprocAttr]
 refine cp (set49 a.al 32 h.all h.alS) ?_
 simp(disch:=first|omega|(simp only[lenW]<;>omega)) only[h1,h2,wV,simprocAttr]
 refine cp (set49 a.ms a.n h.mslen h.msS) ?_
 simp(disch:=first|omega|(simp only[lenW]<;>omega)) only[wV,simprocAttr]
 refine cp (edges50 a h.toEgsOk) ?_
 simp(disch:=first|omega|(simp only[lenW]<;>omega)) only[wV,simprocAttr]
 exact⟨.inr trivial,_,rfl,rfl⟩
theorem check22 (a:Au) (f u:List Int) (h:AuOk a) (hf:SetOk f a.n) (hu:SetOk u 32) (hfl:f.length<=140737488355328) (hul:u.length<=140737488355328):PSpec Try.prog 7 [auV a,sli f,sli u] (.int .i64 0):=by
 refine PSpec.QaI 64 ok7 rfl (by(try simp only[noRefs,Qaa,Qaf,Qac,Qad,Qab,noRef,Bool.and_self,Bool.and_true])<;>rfl) rfl ?_
 simp(disch:=first|omega|(simp only[lenW]<;>omega)) only[s7,wV,simprocAttr]
 refine cp (check37 a h) ?_
 simp(disch:=first|omega|(simp only[lenW]<;>omega)) only[wV,simprocAttr]
 refine cp (set38 f a.n hfl hf) ?_
 simp(disch:=first|omega|(simp only[lenW]<;>omega)) only[wV,simprocAttr]
 refine cp (set38 u 32 hul hu) ?_
 simp(disch:=first|omega|(simp only[lenW]<;>omega)) only[wV,simprocAttr]
 exact⟨.inr trivial,_,rfl,rfl⟩
end Go.AM.SE
namespace Go.AM
variable {P:Program}
def rowsL (f:Nat->List AV) (ks:List Nat):HL:=ks.map fun k=>(300+k,.cells 0 (f k))
def psL (s:Nat->Src) (ks:List Nat):List (Nat×Src):=ks.map fun k=>(300+k,s k)
theorem QbJ {f:Nat->List AV}:∀{ks:List Nat},ks.Nodup->(∀k∈ks,k<1000000)->∀{k:Nat},k∈ks->(hp (rowsL f ks)).get (300+k)=some (.cells 0 (f k))
  |[],_,_,k,h=>by cases h
  | j :: ks, hn, hl, k, h => by
    have hj:=hl j (by simp)
    show((hp (rowsL f ks)).set (300+j) _).get (300+k)=_
    by_cases e:k=j
    · grind [QaA]
    · rw [QaE (by omega) (by omega)]
      exact QbJ (List.nodup_cons.1 hn).2 (fun k hk=>hl k (by simp[hk])) (by simp_all)
theorem QdQ {f:Nat->List AV}:∀{ks:List Nat},(∀k∈ks,k<1000000)->∀{b:Nat},(∀k∈ks,b≠300+k)->(hp (rowsL f ks)).get b=none
 |[],_,b,_=>get_e
 |j::ks,hl,b,h=>by
  have hj:=hl j (by simp)
  show((hp (rowsL f ks)).set (300+j) _).get b=_
  rw[QaE (by omega) (h j (by simp))]
  exact QdQ (fun k hk=>hl k (by simp[hk])) (fun k hk=>h k (by simp[hk]))
theorem QbD {b g:Nat} {s:Nat->Src}:∀{ks:List Nat},(∀k∈ks,∀b' g',s k= .blk b' g'->b≠b')->srcNew (.blk b g) (psL s ks)=true
 |[],_=>rfl
 | j :: ks, h => by
  show((match (Src.blk b g),s j with| .blk b _,.blk b' _=> !Nat.beq b b'|_,_=>true)&&srcNew (.blk b g) (psL s ks))=true
  rw[QbD fun k hk=>h k (by simp[hk]),Bool.and_true]
  cases e:s j with
  |nil=>rfl
  |blk b' g'=>
   have:=h j (by simp) b' g' e
   have h2:Nat.beq b b'=false:=by simp_all [Bool.eq_false_iff]
   simp[h2]
theorem QdR {s:Nat->Src}:∀{ks:List Nat},srcNew .nil (psL s ks)=true
 |[]=>rfl
 |j::ks=>by
  show((match Src.nil,s j with| .blk b _,.blk b' _=> !Nat.beq b b'|_,_=>true)&&srcNew .nil (psL s ks))=true
  rw[QdR];rfl
theorem QcD {s:Nat->Src} {f:Nat->List AV}:∀{ks:List Nat},ks.Nodup->(∀k∈ks,k<1000000)->(∀k∈ks,∀j∈ks,k≠j->∀b g b' g',s k= .blk b g->s j= .blk b' g'->b≠b')->okPs 0 (psL s ks) (rowsL f ks)=true
 |[],_,_,_=>rfl
 | j :: ks, hn, hl, hs => by
  have hj:=hl j (by simp)
  obtain⟨h1,h2⟩:=List.nodup_cons.1 hn
  show okPs 0 ((300+j,s j)::psL s ks) ((300+j,.cells 0 (f j))::rowsL f ks)=true
  simp only[okPs,Bool.and_eq_true,Nat.beq_eq,Nat.blt_eq,Bool.or_eq_true,List.all_eq_true]
  refine⟨⟨⟨⟨trivial,by omega⟩,.inr ⟨?_,?_⟩⟩,?_⟩,QcD h2 (fun k hk=>hl k (by simp[hk])) (fun k hk i hi=>hs k (by simp[hk]) i (by simp[hi]))⟩
  ·cases s j with
   |nil=>rfl
   |blk b g=>simp
  ·cases e : s j with
   |nil=>exact QdR
   |blk b g=>exact QbD fun k hk b' g' e'=>hs j (by simp) k (by simp[hk]) (fun e=>h1 (e▸hk)) b g b' g' e e'
  ·rintro ⟨b, x⟩ hp
   obtain⟨k,hk,e⟩:=List.mem_map.1 hp
   cases e
   have:k≠j:=fun e=>h1 (e▸hk)
   simp_all [Bool.eq_false_iff]
theorem QfA {s:Nat->Src}:∀{ks:List Nat} {k:Nat},k∈ks->lkS (psL s ks) (300+k)=some (s k)
 |[],k,h=>by cases h
 |j::ks,k,h=>by
  show(if 300+k=300+j then some (s j)else lkS (psL s ks) (300+k))=_
  by_cases e:k=j
  ·subst e;simp
  ·rw[if_neg (by omega)];exact QfA (by simp_all)
theorem Qco {m:Nat} {π:Nat->Option Src} {h:Heap} {f:Nat->List AV}:∀{ks:List Nat},(∀k∈ks,RB m π h [(300+k,.cells 0 (f k))])->RB m π h (rowsL f ks)
 |[],_=>trivial
 |j::ks,hk=>⟨(hk j (by simp)).1,Qco fun k h=>hk k (by simp[h])⟩
mutual
theorem Qfa:∀v:AV,flatV v=true->noRef v=true
 | .any,_=>rfl
 | .bool _,_=>rfl
 | .int _ _,_=>rfl
 | .str _,_=>rfl
 | .agg cs,h=>by simp only[flatV]at h;simp only[noRef];exact Qbj cs h
 | .tup cs,h=>by simp only[flatV]at h;simp only[noRef];exact Qbj cs h
 | .nilptr,_=>rfl
 | .ptr _ _ _,h=>by simp[flatV]at h
 | .fptr _,h=>by simp[flatV]at h
 | .nilsl,_=>rfl
 | .sl _ _ _ _ _,h=>by simp[flatV]at h
 | .fsl _ _ _,h=>by simp[flatV]at h
 | .esl,_=>rfl
 | .nsl,_=>rfl
 | .nilmap,_=>rfl
 | .map _ _,h=>by simp[flatV]at h
 | .fmap _ _,h=>by simp[flatV]at h
 | .nilfn,_=>rfl
 | .fn f x y,h=>by
  simp only[flatV,Bool.and_eq_true]at h
  simp only[noRef,Bool.and_eq_true]
  exact⟨Qbj x h.1,Qbj y h.2⟩
 | .nilif,_=>rfl
 | .ifc t v,h=>by simp only[flatV]at h;simp only[noRef];exact Qfa v h
 | .typed _ _ _,h=>by simp[flatV]at h
theorem Qbj:∀l:List AV,flatVs l=true->noRefs l=true
 |[],_=>rfl
 |x::l,h=>by
  simp only[flatVs,Bool.and_eq_true]at h
  simp only[noRefs,Bool.and_eq_true]
  exact⟨Qfa x h.1,Qbj l h.2⟩
end
theorem FSpec.Qba {f b len sz:Nat} {args cs:List AV} (hs:HSpec P f args .e (.sl b 0 0 len sz) (hp [(b,.cells 0 cs)])) (ha:noRefs args=true) (hf:flatVs cs=true) (hl:cs.length=len*sz) (hb:Nat.blt b 1099511627775=true):
  FSpec P f args (.fsl cs len sz):=by
 obtain⟨hc,hs⟩:=hs
 refine⟨hc,ha,by simp_all [noRef,Qbj],fun F w cargs hF hargs=>(hs (only F) w cargs (HRel.only hF) hargs).mono ?_⟩
 rintro e w' ⟨cv,c',rfl,E,H',V⟩
 have hnew:∀k,c'.O k->w.heap.size<=k:=fun k hO=>(E.own k hO).elim (fun h=>h.elim) id
 refine⟨cv,c'.O,rfl,?_,fun k hO=>⟨hnew k hO,H'.inO k hO⟩,RnO.sl (h:=hp [(b,.cells 0 cs)]) (by simp_all [hp,QaA]) hf hl _ c' w' cv H' V⟩
 refine⟨E.os,E.tape,E.output,E.size,E.shape,fun k hk _=>E.keep k hk (fun h=>h),fun b g p hb=>absurd hb (Nat.not_lt_zero _),fun k hk=> .inl hk,fun k hk=>?_,fun k hk=>hk.elim,rfl⟩
 rcases hk with hk|hk
 ·exact .inl hk
 simp_all
end Go.AM
namespace Go.AM
theorem Qdp {b g c k g':Nat} {ps:List (Nat×Src)} (hb:b≠k) (h:srcNew (.blk b g) ps=true):srcNew (.blk b g) ((c,.blk k g')::ps)=true:=by
 simp_all [Bool.eq_false_iff,srcNew]
theorem Qeq {b k g:Nat} {x:Blk} {ps:List (Nat×Src)} {L:HL} (hb:b<1099511627775) (hn:srcNew (.blk k g) ps=true) (hd:∀p∈ps,p.1≠b) (h:okPs 0 ps L=true):okPs 0 ((b,.blk k g)::ps) ((b,x)::L)=true:=by
 simp only[okPs,Bool.and_eq_true,Nat.beq_eq,Nat.blt_eq,Bool.or_eq_true,List.all_eq_true]
 refine⟨⟨⟨⟨trivial,by omega⟩,.inr ⟨by simp,hn⟩⟩,fun p hp=>?_⟩,h⟩
 have h2:Nat.beq p.1 b=false:=by rw[Bool.eq_false_iff];simpa using hd p hp
 simp[h2]
theorem Qdg {s:Nat->Src} {ks:List Nat} {p:Nat×Src} (h:p∈psL s ks):300<=p.1:=by
 obtain⟨k,_,rfl⟩:=List.mem_map.1 h;simp
theorem QdS {s:Nat->Src} {f:Nat->List AV} {ks:List Nat} {x1 x2 x3:Blk} {k1 k2 k3 g1 g2 g3:Nat} (hn:ks.Nodup) (hl:∀k∈ks,k<1000000) (hs:∀k∈ks,∀j∈ks,k≠j->∀b g b' g',s k= .blk b g->s j= .blk b' g'->b≠b')
  (hnew:∀k∈ks,∀b g,s k= .blk b g->k1≠b/\k2≠b/\k3≠b) (h12:k1≠k2) (h13:k1≠k3) (h23:k2≠k3):
  okPs 0 ((70,.blk k1 g1)::(71,.blk k2 g2)::(72,.blk k3 g3)::psL s ks) ((70,x1)::(71,x2)::(72,x3)::rowsL f ks)=true:=by
 have n1:=QbD (b:=k1) (g:=g1) (s:=s) (ks:=ks) fun k hk b' g' e=>(hnew k hk b' g' e).1
 have n2:=QbD (b:=k2) (g:=g2) (s:=s) (ks:=ks) fun k hk b' g' e=>(hnew k hk b' g' e).2.1
 have n3:=QbD (b:=k3) (g:=g3) (s:=s) (ks:=ks) fun k hk b' g' e=>(hnew k hk b' g' e).2.2
 refine Qeq (by omega) (Qdp h12 (Qdp h13 n1)) ?_ (Qeq (by omega) (Qdp h23 n2) ?_ (Qeq (by omega) n3 ?_ (QcD hn hl hs)))
 ·intro p hp
  simp only[List.mem_cons]at hp
  rcases hp with rfl|rfl|hp
  ·simp
  ·simp
  grind [Qdg]
 ·intro p hp
  simp only[List.mem_cons]at hp
  rcases hp with rfl|hp
  ·simp
  grind [Qdg]
 ·intro p hp
  grind [Qdg]
theorem Qbq {s:Nat->Src} {ks:List Nat} {k:Nat} {q1 q2 q3:Src} (hk:k∈ks):ow 0 ((70,q1)::(71,q2)::(72,q3)::psL s ks) (300+k)=some (s k):=by
 unfold ow
 rw[if_neg (Nat.not_lt_zero _)]
 simp only[lkS]
 rw[if_neg (by omega),if_neg (by omega),if_neg (by omega)]
 exact QfA hk
end Go.AM
namespace Go.AM
variable {P:Program}
abbrev Claims:=List (Nat×List Nat)
def clm:Claims->Nat->Option (List Nat)
 |[],_=>none
 |(j,bs)::r,d=>bif Nat.beq j d then some bs else clm r d
def absH (C:Claims) (d:Nat) (a:Option (List Nat)):Option (List Nat):=match clm C d with|some bs=>some bs|none=>a
def touch2 (i:Nat) (ax:Opd->Option (List Nat)):SOp->Option (List Nat)
 | .call .pure _ _=>some []
 |s=>s.touch i ax
theorem QiN {i:Nat} {T:Tmps} {ax:Opd->Option (List Nat)} {s:SOper} {h h1:Heap} {v:AV} {f:FP} {ts:List Nat} (hax:∀x bs,ax x=some bs->Pts (ev T x) bs) (ht:touch2 i ax s.op=some ts) (hs:StepV P i s T h v h1 f):
  f.all=false/\∀b,b∈f.R\/b∈f.W->b∈ts:=by
 by_cases hc:∃x asg,s.op= .call .pure x asg
 ·obtain ⟨x, asg, hop⟩ := hc
  have key:StepX P i s.op T h v h1 f->f.all=false/\∀b,b∈f.R\/b∈f.W->b∈ts:=by
   rintro⟨out,h2,hm,ho⟩
   rw[hop]at hm ho
   simp only[aop]at hm ho
   cases hx:ev T x with
   |fn f' first cap=>
    rw[hx]at hm ho
    simp only[aCall,HM.run,Option.some.injEq,Prod.mk.injEq]at hm
    obtain⟨rfl,rfl⟩:=hm
    simp only[aCall,HM.fp]at ho
    obtain⟨_,_,rfl⟩:=ho
    exact⟨rfl,fun b hb=>by simp[fpOf]at hb⟩
   |_=>rw[hx]at hm;simp[aCall,HM.run]at hm
  unfold StepV at hs
  grind
 ·refine Qe4 hax ?_ hs
  simp_all [touch2]
def touchesH (C:Claims) (n:Nat) (T:Tmps):List SOper->Abs->List (Option (List Nat))
 |[],_=>[]
 |s::r,A=>touch2 n (absO T A) s.op::touchesH C (n+1) T r (match s.dst with|some d=>(d,absH C d (s.op.absV n (absO T A)))::A|none=>A)
def ssa (C:Claims):List SOper->Bool
 |[]=>true
 |s::r=>(match s.dst with|some d=>(clm C d).isNone||r.all fun s'=>(match s'.dst with|some e=> !Nat.beq e d|none=>true)|none=>true)&&ssa C r
theorem Qka:∀{r:List SOper} {n:Nat} {T:Tmps} {h:Heap} {K:Tmps->Heap->Nat->Prop},wpR P n r T h K->∃T' h' n',K T' h' n'/\∀d,(∀s∈r,s.dst≠some d)->lk T' d=lk T d
 |[],n,T,h,K,hk=>⟨T,h,n,hk,fun _ _=>rfl⟩
 |s::r,n,T,h,K,⟨v,h1,f,hs,hr⟩=>by
  obtain⟨T',h',n',hk,he⟩:=Qka hr
  refine⟨T',h',n',hk,fun d hd=>?_⟩
  simp_all [Qbi]
theorem QiO {T0:Tmps} {C:Claims}:∀{r:List SOper} {n:Nat} {A:Abs} {T:Tmps} {h:Heap} {K:Tmps->Heap->Nat->Prop} (hA:AbsOK T0 A T) (K':List FP->Tmps->Heap->Nat->Prop)
  (hC:∀T h n,K T h n->∀d bs,clm C d=some bs->Pts (lk T d) bs) (hssa:ssa C r=true),
  (∀fs T h n',fs.length=r.length->(∀(j:Nat) ts,(touchesH C n T0 r A).getD j none=some ts->(fs.getD j ⟨false,[],[]⟩).all=false/\∀b,b∈(fs.getD j ⟨false,[],[]⟩).R\/b∈(fs.getD j ⟨false,[],[]⟩).W->b∈ts)->K T h n'->K' fs T h n')->
  wpR P n r T h K->wpRF P n r T h K'
 |[],n,A,T,h,K,hA,K',hC,hssa,hK,hw=>hK [] T h n rfl (fun j ts hj=>by simp_all) hw
 | s :: r, n, A, T, h, K, hA, K', hC, hssa, hK, hw => by
  obtain⟨v,h1,f,hs,hr⟩:=hw
  simp only[ssa,Bool.and_eq_true]at hssa
  obtain⟨hs1,hs2⟩:=hssa
  refine⟨v,h1,f,hs,?_⟩
  have hA2:AbsOK T0 (match s.dst with|some d=>(d,absH C d (s.op.absV n (absO T0 A)))::A|none=>A) (putD T s.dst v):=by
   cases e:s.dst with
   |none=>exact hA
   | some d =>
    refine AbsOK.up hA fun bs hb=>?_
    unfold absH at hb
    split at hb
    ·rename_i bs' hc
     cases hb
     obtain⟨T',h',n',hk,he⟩:=Qka hr
     have h3:=hC T' h' n' hk d _ hc
     rw[he d ?_,Qbi,if_pos e]at h3
     ·exact h3
     ·intro s' hs'
      rw[e]at hs1
      simp only[hc,Option.isNone_some,Bool.false_or,List.all_eq_true]at hs1
      have:=hs1 s' hs'
      intro e2
      simp_all
    ·exact Qf5 hA.opd hb hs
  refine QiO hA2 (fun fs T h n=>K' (f::fs) T h n) hC hs2 (fun fs T h n' hl hf hk=>?_) hr
  refine hK (f::fs) T h n' (by simp[hl]) (fun j ts hj=>?_) hk
  cases j with
  |zero=>
   simp only[touchesH,List.getD_cons_zero]at hj⊢
   exact QiN hA.opd hj hs
  |succ j=>
   simp only[touchesH,List.getD_cons_succ]at hj⊢
   exact hf j ts hj
def Clms (T:Tmps):Claims->Prop
 |[]=>True
 |(d,bs)::r=>Pts (lk T d) bs/\Clms T r
theorem Clms.get {T:Tmps}:∀{C:Claims},Clms T C->∀d bs,clm C d=some bs->Pts (lk T d) bs
 |[],_,d,bs,h=>by cases h
 | (j, cs) :: r, hh, d, bs, h => by
  simp only[clm]at h
  cases e:Nat.beq j d with
  |true=>
   rw[e]at h
   simp only[cond_true,Option.some.injEq]at h
   have:j=d:=by simpa using e
   subst this;subst h;exact hh.1
  |false=>rw[e]at h;exact Clms.get hh.2 d bs h
theorem QdT (C:Claims) {N:NM} {ops:List SOper} {p:Nat×Nat} {ps:List (Nat×Nat)} {dead:List Nat} {fs:List Fr} {n:Nat} {T:Tmps} {h:Heap} {Q:QC} (hssa:ssa C ops=true) (hp:pairsOK (touchesH C n T ops []) (p::ps)=true)
  (hw:wR P N ops [] [] n T h fun e T h n=>Clms T C/\wX P N .normal fs n (rm T dead) h Q):wS P N (.region ops (p::ps) dead) fs n T h Q:=by
 have rm0:∀T:Tmps,rm T []=T:=by
  intro T
  induction T with
  |nil=>rfl
  |cons p T ih=>obtain⟨j,v⟩:=p;simp[rm,ih]
 refine QiO (C:=C) (K:=fun T h n=>Clms T C/\wX P N .normal fs n (rm T dead) h Q) AbsOK.nil _ (fun T h n hk d bs hc=>hk.1.get d bs hc) hssa (fun fs' T h n' hl hf hk=>⟨?_,hk.2⟩) ?_
 ·rw [List.all_eq_true]
  intro q hq
  have:=List.all_eq_true.1 hp q hq
  split at this
  ·rename_i a b ha hb
   obtain⟨f1,f2⟩:=hf _ _ ha
   obtain⟨g1,g2⟩:=hf _ _ hb
   have hd:∀x y,x∈a->y∈b->x≠y:=by
    grind
   have dj:∀xs ys:List Nat,(∀x∈xs,∀y∈ys,x≠y)->disj xs ys=true:=by
    intro xs ys hh
    unfold disj
    grind
   grind [FP.apart]
  ·cases this
 ·have hw' : wpR P n ops T h fun T h n => Clms (rm T []) C /\ wX P N .normal fs n (rm (rm T []) dead) h Q := hw
  simp_all
end Go.AM
namespace Go.AM
variable {P:Program} {N:NM} {n:Nat} {d:Option Nat} {af dead:List Nat} {r:List SOper} {T:Tmps} {h:Heap} {Q:QC} {fs:List Fr}
def wAn (P:Program) (N:NM) (ys:Option (List AV)) (len sz bytes:Nat) (d:Option Nat) (ops:List SOper) (dead:List Nat) (fs:List Fr) (n:Nat) (T:Tmps) (h:Heap) (Q:QC):Prop:=
 ∃y,ys=some y/\(len*bytes<=140737488355328/\len<=140737488355328)/\y.all AV.one=true/\wN P N y (.sl n 0 0 len sz) d ops dead fs n T h Q
theorem Qer {sz bytes b g off len:Nat} (hl:0<len):wM P N (aAppend .dyn n sz bytes .nilsl (.sl b g off len sz)) d r dead fs n T h Q=wAn P N (srcB (h.get b) g off len sz) len sz bytes d r dead fs n T h Q:=by
 obtain⟨k,rfl⟩:∃k,len=k+1:=⟨len-1,by omega⟩
 rw[Qjj]
 rfl
theorem QiP {ys:List AV} {len sz bytes:Nat} (h1:len*bytes<=140737488355328) (h2:len<=140737488355328):wAn P N (some ys) len sz bytes d r dead fs n T h Q=if ys.all AV.one=true then wN P N ys (.sl n 0 0 len sz) d r dead fs n T h Q else False:=by
 by_cases ho:ys.all AV.one=true
 ·rw [if_pos ho]; apply propext; constructor
  ·rintro⟨y,e1,_,_,h5⟩;simp_all
  ·intro h5;exact⟨ys,rfl,⟨h1,h2⟩,ho,h5⟩
 ·rw [if_neg ho]; apply propext; constructor
  ·rintro⟨y,e1,_,h4,h5⟩;grind
  simp_all
end Go.AM
namespace Go.AM
theorem Qhi {ts:List (Option (List Nat))}:pairsOK ts []=true:=rfl
theorem QcJ {ts:List (Option (List Nat))} {i j:Nat} {a b:List Nat} {ps:List (Nat×Nat)} (h1:ts.getD i none=some a) (h2:ts.getD j none=some b) (hd:∀x∈a,x∉b) (hr:pairsOK ts ps=true):pairsOK ts ((i,j)::ps)=true:=by
 simp_all [pairsOK]
end Go.AM
namespace Go.AM
theorem Rn.nilK {m:Nat} {π:Nat->Option Src} {h:Heap} {sz:Nat}:Rn m π h (.fsl [] 0 sz) .nilsl:=fun _ c w v H M hv=>by
 simp_all [VRel]
end Go.AM
namespace Go.AM.SE
open Go.Proofs Go.AM.SD
def keysR (es:List Ed):List Nat:=es.foldl (fun l e=>if l.contains e.2.2 then l else l++[e.2.2]) []
theorem QkC {es:List Ed} {i:Nat} {e:Ed} (h:es[i]?=some e):keysR (es.take (i+1))=if(keysR (es.take i)).contains e.2.2 then keysR (es.take i)else keysR (es.take i)++[e.2.2]:=by
 unfold keysR
 rw[List.take_add_one,h,Option.toList,List.foldl_append];rfl
theorem Qdh:∀{es:List Ed} {x:Nat},x∈keysR es↔∃e∈es,e.2.2=x:=by
 have key : ∀ (es : List Ed) (l : List Nat) (x : Nat), x ∈ es.foldl (fun l e => if l.contains e.2.2 then l else l ++ [e.2.2]) l ↔ x ∈ l \/ ∃ e ∈ es, e.2.2 = x := by
  intro es
  induction es with
  |nil=>intro l x;simp
  | cons e es ih =>
   intro l x
   rw[List.foldl_cons,ih]
   by_cases h:l.contains e.2.2=true
   ·rw [if_pos h]
    have h':e.2.2∈l:=by simpa using h
    constructor
    ·rintro (h1 | ⟨e', h1, h2⟩)
     ·exact .inl h1
     ·exact .inr ⟨e',by simp[h1],h2⟩
    ·rintro (h1 | ⟨e', h1, h2⟩)
     ·exact .inl h1
     ·rcases List.mem_cons.1 h1 with rfl | h1
      ·exact .inl (h2▸h')
      ·exact .inr ⟨e',h1,h2⟩
   ·rw [if_neg h]
    constructor
    ·rintro (h1 | ⟨e', h1, h2⟩)
     ·rcases List.mem_append.1 h1 with h1 | h1
      ·exact .inl h1
      ·exact .inr ⟨e,by simp,(by simpa using h1:x=e.2.2).symm⟩
     ·exact .inr ⟨e',by simp[h1],h2⟩
    ·rintro (h1 | ⟨e', h1, h2⟩)
     ·exact .inl (by simp[h1])
     ·rcases List.mem_cons.1 h1 with rfl | h1
      ·exact .inl (by simp[h2])
      ·exact .inr ⟨e',h1,h2⟩
 intro es x
 have:=key es [] x
 unfold keysR
 rw[this];simp
theorem Qjn (es:List Ed):(keysR es).Nodup:=by
 have key:∀(es:List Ed) (l:List Nat),l.Nodup->(es.foldl (fun l e=>if l.contains e.2.2 then l else l++[e.2.2]) l).Nodup:=by
  intro es
  induction es with
  |nil=>intro l h;exact h
  | cons e es ih =>
   intro l h
   rw[List.foldl_cons]
   refine ih _ ?_
   split
   ·exact h
   ·rename_i h1
    rw[List.nodup_append]
    refine⟨h,by simp,fun a ha b hb=>?_⟩
    rw[List.mem_singleton.1 hb]
    intro e2;subst e2;exact h1 (by simpa using ha)
 exact key es [] List.nodup_nil
theorem Qbl {es:List Ed} {i:Nat} {e:Ed} (h:es[i]?=some e) (v:Nat):preds (es.take (i+1)) v=preds (es.take i) v++if e.2.2=v then[e.1]else[]:=by
 unfold preds
 rw[List.take_add_one,h,Option.toList,List.filter_append,List.map_append]
 congr 1
 by_cases h1:e.2.2=v<;>simp[h1]
theorem QcK {es:List Ed} {v:Nat} (h:v∉keysR es):preds es v=[]:=by
 unfold preds
 rw[List.map_eq_nil_iff,List.filter_eq_nil_iff]
 intro e he h1
 exact h (Qdh.2 ⟨e,he,by simpa using h1⟩)
theorem Qhj (es:List Ed) (v:Nat):(preds es v).length<=es.length:=by
 unfold preds
 rw[List.length_map];exact List.length_filter_le _ _
abbrev pblk (a:Aut) (u:List Nat):List AV:=[sliN a.al,.int .i64 (a.n:Int),sliN a.ms,egsN a.es,sliN u,.map 71 0,.sl 72 0 0 a.n 1]
abbrev backF (es:List Ed):Nat->AV:=fun k=>sliN (preds es k)
abbrev startL (a:Aut) (f u:List Nat):HL:=[(70,.cells 0 (pblk a u)),(71,.map 0 (mapF .i64 (backF a.es) (keysR a.es))),(72,.cells 0 (bls (left0 a.n f)))]
abbrev rowF (es:List Ed):Nat->List AV:=fun k=>ints (nz (preds es k))
abbrev ptrF (es:List Ed):Nat->AV:=fun k=> .sl (300+k) 0 0 (preds es k).length 1
theorem QkD {n i x:Nat} {f:List Nat} (h:f[i]?=some x):left0 n (f.take (i+1))=(left0 n (f.take i)).set x false:=by
 unfold left0 offs
 rw[List.take_add_one,h,Option.toList,List.foldl_append];rfl
theorem QbK {n:Nat} {f:List Nat}:(left0 n f).length=n:=by unfold left0;rw[Qck];simp
theorem reps (n:Nat):(List.replicate n [AV.bool false]).flatten=bls (List.replicate n false):=by
 induction n with
 |zero=>rfl
 |succ n ih=>rw[List.replicate_succ,List.flatten_cons,ih];rfl
theorem Qmq {n i:Nat} (h:i<n):(List.replicate i true++List.replicate (n-i) false).set i true=List.replicate (i+1) true++List.replicate (n-(i+1)) false:=by
 rw[List.set_append_right _ _ (by simp),List.length_replicate,Nat.sub_self,show n-i=(n-(i+1))+1 by omega,List.replicate_succ,List.set_cons_zero,List.replicate_succ',List.append_assoc];rfl
theorem start34 (a : Aut) (f u : List Nat) (hes : ∀ e ∈ a.es, e.1 < a.n /\ e.2.2 < a.n) (hf : ∀ x ∈ f, x < a.n) (hn : a.n <= 4096) (hel : a.es.length <= 1000000) (hfl : f.length <= 1000000) :
    HSpec Try.prog 22 [aV a,sliN f,sliN u] .e (.ptr 70 0 0) (hp (startL a f u)):=by
  refine HSpec.Qba 74 ok22 rfl ?_
  have hn':(a.n:Int)<=140737488355328:=by omega
  simp(disch:=first|omega|exact PairsOK.mk rfl|(simp only[lenW]<;>omega)) only[s22,hn',reps,wW,wV,simprocAttr]
  refine Qay 100 (fun i:Nat=>[(1,sliN f),(3,.ptr 60 0 0),(7,.ptr 70 0 0),(25,.int .i64 a.n),(26,.int .i64 i)])
    (fun i=>[(60,.cells 0 [sliN a.al,.int .i64 (a.n:Int),sliN a.ms,egsN a.es]),(70,.cells 0 (pblk a u)),(71,.map 0 []),(72,.cells 0 (bls (List.replicate i true++List.replicate (a.n-i) false)))])
    (fun i=>i<=a.n) (fun i=>a.n-i) 0 0 120
    (fun _:Unit=>[(1,sliN f),(3,.ptr 60 0 0),(7,.ptr 70 0 0)])
    (fun _=>[(60,.cells 0 [sliN a.al,.int .i64 (a.n:Int),sliN a.ms,egsN a.es]),(70,.cells 0 (pblk a u)),(71,.map 0 []),(72,.cells 0 (bls (left0 a.n (f.take 0))))]) (fun _=>True) ?_ (Nat.zero_le _) ?_ ?_
  · exact⟨[(60,.blk 74 0),(70,.blk 83 0),(71,.blk 78 0),(72,.blk 81 0)],rfl,au0,au1,au2⟩
  · rintro i hi
    by_cases hlt:i<a.n
    · have h1 : i + 1 <= i + (a.n - i) := by omega
      simp(disch:=first|omega|exact PairsOK.mk rfl|(simp only[lenW]<;>omega)) only[hlt,h1,Qb4,Qmq hlt,wW,wV,simprocAttr]
      exact⟨i+1,by omega,by omega,⟨[(60,.blk 60 0),(70,.blk 70 0),(71,.blk 71 0),(72,.blk 72 0)],rfl,au0,au1,au2⟩⟩
    · have e : i = a.n := by omega
      subst e
      have e2:List.replicate a.n true++List.replicate (a.n-a.n) false=left0 a.n (f.take 0):=by simp[left0,offs]
      simp(disch:=first|omega|exact PairsOK.mk rfl|(simp only[lenW]<;>omega)) only[hlt,wW,wV,simprocAttr]
      refine⟨(),?_⟩
      rw[e2]
      exact⟨[(60,.blk 60 0),(70,.blk 70 0),(71,.blk 71 0),(72,.blk 72 0)],rfl,au0,au1,au2⟩
  rintro _ _
  simp(disch:=first|omega|exact PairsOK.mk rfl|(simp only[lenW]<;>omega)) only[wW,wV,simprocAttr]
  refine Qay 140 (fun i:Nat=>[(3,.ptr 60 0 0),(7,.ptr 70 0 0),(36,sliN f),(37,.int .i64 f.length),(38,.int .i64 i)])
    (fun i=>[(60,.cells 0 [sliN a.al,.int .i64 (a.n:Int),sliN a.ms,egsN a.es]),(70,.cells 0 (pblk a u)),(71,.map 0 []),(72,.cells 0 (bls (left0 a.n (f.take i))))])
    (fun i=>i<=f.length) (fun i=>f.length-i) 0 2 160
    (fun _:Unit=>[(3,.ptr 60 0 0),(7,.ptr 70 0 0)])
    (fun _=>[(60,.cells 0 [sliN a.al,.int .i64 (a.n:Int),sliN a.ms,egsN a.es]),(70,.cells 0 (pblk a u)),(71,.map 0 []),(72,.cells 0 (bls (left0 a.n f)))]) (fun _=>True) ?_ (Nat.zero_le _) ?_ ?_
  · exact⟨[(60,.blk 60 0),(70,.blk 70 0),(71,.blk 71 0),(72,.blk 72 0)],rfl,au0,au1,au2⟩
  · rintro i hi
    by_cases hlt:i<f.length
    · obtain ⟨x, hx⟩ := Qax hlt
      have hxn:=hf x (List.mem_of_getElem? hx)
      have hll:x+1<=(left0 a.n (f.take i)).length:=by rw[QbK];exact hxn
      simp(disch:=first|omega|exact PairsOK.mk rfl|(simp only[lenW]<;>omega)) only[hlt,Qbp hx,hxn,hll,Qb4,<-QkD hx,wW,wV,simprocAttr]
      exact⟨i+1,by omega,by omega,⟨[(60,.blk 60 0),(70,.blk 70 0),(71,.blk 71 0),(72,.blk 72 0)],rfl,au0,au1,au2⟩⟩
    · have e : i = f.length := by omega
      subst e
      simp(disch:=first|omega|exact PairsOK.mk rfl|(simp only[lenW]<;>omega)) only[hlt,wW,wV,simprocAttr]
      refine⟨(),?_⟩
      exact⟨[(60,.blk 60 0),(70,.blk 70 0),(71,.blk 71 0),(72,.blk 72 0)],rfl,au0,au1,au2⟩
  rintro _ _
  simp(disch:=first|omega|exact PairsOK.mk rfl|(simp only[lenW]<;>omega)) only[wW,wV,simprocAttr]
  have hrn:∀k∈List.range a.n,k<1000000:=fun k hk=>by have:=List.mem_range.1 hk;omega
  refine Qay 170 (fun i:Nat=>[(7,.ptr 70 0 0),(50,egsN a.es),(51,.int .i64 a.es.length),(52,.int .i64 i)])
    (fun i=>(70,.cells 0 (pblk a u))::(71,.map 0 (mapF .i64 (ptrF (a.es.take i)) (keysR (a.es.take i))))::(72,.cells 0 (bls (left0 a.n f)))::rowsL (rowF (a.es.take i)) (List.range a.n))
    (fun i=>i<=a.es.length) (fun i=>a.es.length-i) 0 4 200
    (fun _:Unit=>[(7,.ptr 70 0 0)])
    (fun _=>startL a f u) (fun _=>True) ?_ (Nat.zero_le _) ?_ ?_
  · refine ⟨(70, .blk 70 0) :: (71, .blk 71 0) :: (72, .blk 72 0) :: psL (fun _ => .nil) (List.range a.n), QdS List.nodup_range hrn (fun _ _ _ _ _ b g b' g' h => by cases h) (fun _ _ b g h => by cases h) (by decide) (by decide) (by decide), RO.zero, ?_, au2⟩
    repeat' (first|exact RB.nil|(refine RnL.same ?_;first|rfl|(simp only[noRef,noRefs,Qah,Bool.and_self,Bool.and_true,Bool.true_and,Qaa,Qaf,Qac,Qad,Qab,Qam,Qai,Qal,Qaj];done))|exact RnM.keyM rfl|exact RnL.nil|exact(True.intro:RnM _ _ _ [] [])|refine RnL.cons ?_ ?_|(refine Rn.same ?_;first|rfl|(simp only[noRef,noRefs,Qah,Bool.and_self,Bool.and_true,Bool.true_and,Qaa,Qaf,Qac,Qad,Qab,Qam,Qai,Qal,Qaj];done))|exact Rn.x1 rfl rfl|exact Rn.x2 rfl rfl|exact Rn.x3 rfl rfl|exact Rn.x4 rfl rfl|exact Rn.x5 rfl|exact Rn.x6 rfl|exact Rn.x7 rfl|refine RB.newnil rfl rfl ?_|refine RB.cells rfl rfl rfl ?_ ?_|refine RB.map rfl rfl rfl ?_ ?_|refine RB.cellsB rfl rfl ?_ ?_|refine RB.mapB rfl rfl ?_ ?_)
    refine Qco fun k hk=>?_
    exact RB.newnil rfl (Qbq hk) RB.nil
  · rintro i hi
    by_cases hlt:i<a.es.length
    · obtain ⟨e, he⟩ := Qax hlt
      obtain⟨hfr,hto⟩:=hes e (List.mem_of_getElem? he)
      have hkt:=QkC he
      have hnd:=Qjn (a.es.take i)
      have hpl:(preds (a.es.take i) e.2.2).length<=1000000:=by have:=Qhj (a.es.take i) e.2.2;rw[List.length_take]at this;omega
      have hrow:=QbJ (f:=rowF (a.es.take i)) List.nodup_range hrn (List.mem_range.2 hto)
      have hr0:∀b,b<300->(hp (rowsL (rowF (a.es.take i)) (List.range a.n))).get b=none:=fun b hb=>QdQ hrn fun k hk=>by omega
      simp(disch:=first|omega|exact PairsOK.mk rfl|(simp only[lenW]<;>omega)) only[hlt,QaC he,hr0,wW,wV,simprocAttr]
      refine QdT [(57,[70]),(59,[71]),(63,[70]),(65,[71]),(68,[300+e.2.2])] rfl ?_ ?_
      · exact QcJ (a:=[71]) (b:=[190]) rfl rfl (fun x hx=>by simp only[List.mem_cons,List.not_mem_nil,or_false]at hx⊢;omega) (QcJ (a:=[70]) (b:=[191,300+e.2.2,190]) rfl rfl (fun x hx=>by simp only[List.mem_cons,List.not_mem_nil,or_false]at hx⊢;omega) (QcJ (a:=[173]) (b:=[191,300+e.2.2,190]) rfl rfl (fun x hx=>by simp only[List.mem_cons,List.not_mem_nil,or_false]at hx⊢;omega) Qhi))
      simp(disch:=first|omega|exact PairsOK.mk rfl|(simp only[lenW]<;>omega)) only[hr0,wW,wV,simprocAttr]
      refine Qdn ?_
      simp(disch:=first|omega|exact PairsOK.mk rfl|(simp only[lenW]<;>omega)) only[hr0,wW,wV,simprocAttr]
      by_cases hk:e.2.2∈keysR (a.es.take i)
      · refine wK_in hk ?_
        simp(disch:=first|omega|exact PairsOK.mk rfl|(simp only[lenW]<;>omega)) only[hrow,hr0,wW,wV,simprocAttr]
        refine Qdf ?_
        simp(disch:=first|omega|exact PairsOK.mk rfl|(simp only[lenW]<;>omega)) only[hrow,hr0,wW,wV,simprocAttr]
        refine Qnj hnd hk (by decide) ?_
        simp(disch:=first|omega|exact PairsOK.mk rfl|(simp only[lenW]<;>omega)) only[hrow,hr0,wW,wV,simprocAttr]
        refine⟨⟨⟨_,rfl,fun b hb=>hb⟩,⟨_,rfl,fun b hb=>hb⟩,⟨_,rfl,fun b hb=>hb⟩,⟨_,rfl,fun b hb=>hb⟩,⟨_,rfl,fun b hb=>hb⟩,trivial⟩,i+1,by omega,by omega,?_⟩
        rw[if_pos (by simpa using hk)]at hkt
        have hnk:∀x∈keysR (a.es.take (i+1)),x<a.n:=fun x hx=>by
          obtain⟨e',he',rfl⟩:=Qdh.1 hx
          exact(hes e' (List.mem_of_mem_take he')).2
        generalize hps:psL (fun k=>if k∈keysR (a.es.take (i+1))then(if k=e.2.2 then .blk (300+e.2.2) 1 else .blk (300+k) 0:Src)else .nil) (List.range a.n)=PS
        have hroom:∀k:Nat,k<a.n->k≠e.2.2->(hp (rowsL (rowF (a.es.take i)) (List.range a.n))).get (300+k)=some (.cells 0 (rowF (a.es.take i) k)):=fun k hk _=>QbJ List.nodup_range hrn (List.mem_range.2 hk)
        refine⟨(70,.blk 70 0)::(71,.blk 71 0)::(72,.blk 72 0)::PS,?_,RO.zero,?_,?_⟩
        · subst hps
          refine QdS List.nodup_range hrn (fun k hk j hj hkj b g b' g' h1 h2=>?_) (fun k hk b g h1=>?_) (by decide) (by decide) (by decide)
          · split at h1
            · split at h2
              · split at h1<;>split at h2<;>cases h1<;>cases h2<;>omega
              · cases h2
            · cases h1
          · split at h1
            · split at h1<;>cases h1<;>omega
            · cases h1
        · subst hps
          refine RB.cells rfl rfl (by simp(disch:=omega) only[QaA,QaE,QaJ];rfl) ?_ (RB.map rfl rfl (by simp(disch:=omega) only[QaA,QaE,QaJ];rfl) ?_ (RB.cells rfl rfl (by simp(disch:=omega) only[QaA,QaE,QaJ]) (RnL.same (Qab _)) ?_))
          · repeat' (first|exact RB.nil|(refine RnL.same ?_;first|rfl|(simp only[noRef,noRefs,Qah,Bool.and_self,Bool.and_true,Bool.true_and,Qaa,Qaf,Qac,Qad,Qab,Qam,Qai,Qal,Qaj];done))|exact RnM.keyM rfl|exact RnL.nil|exact(True.intro:RnM _ _ _ [] [])|refine RnL.cons ?_ ?_|(refine Rn.same ?_;first|rfl|(simp only[noRef,noRefs,Qah,Bool.and_self,Bool.and_true,Bool.true_and,Qaa,Qaf,Qac,Qad,Qab,Qam,Qai,Qal,Qaj];done))|exact Rn.x1 rfl rfl|exact Rn.x2 rfl rfl|exact Rn.x3 rfl rfl|exact Rn.x4 rfl rfl|exact Rn.x5 rfl|exact Rn.x6 rfl|exact Rn.x7 rfl|refine RB.newnil rfl rfl ?_|refine RB.cells rfl rfl rfl ?_ ?_|refine RB.map rfl rfl rfl ?_ ?_|refine RB.cellsB rfl rfl ?_ ?_|refine RB.mapB rfl rfl ?_ ?_)
          · rw [hkt]
            refine RnM.mapF fun x hx=>?_
            have hxk:x∈keysR (a.es.take (i+1)):=by rw[hkt];exact hx
            have hxn:=hnk x hxk
            unfold updF ptrF
            split
            · rename_i hx2; subst hx2
              (rw[Qbl he,if_pos rfl,List.length_append];exact Rn.x1 rfl (by rw[Qbq (List.mem_range.2 hxn)];simp[hx]))
            · rename_i hx2
              rw[Qbl he,if_neg (fun e2=>hx2 e2.symm),List.append_nil]
              exact Rn.x1 rfl (by rw[Qbq (List.mem_range.2 hxn)];simp[hx,hx2])
          · refine Qco fun k hk => ?_
            have hkn:=List.mem_range.1 hk
            by_cases hkk:k∈keysR (a.es.take (i+1))
            · by_cases hx2 : k = e.2.2
              · subst hx2
                refine RB.cells rfl (b:=300+e.2.2) (g:=1) (ds:=rowF (a.es.take i) e.2.2++[.int .i64 (e.1:Int)]) (by rw[Qbq hk];simp[hkk]) (by simp(disch:=omega) only[QaA,QaE,QaJ]) (RnL.eq ?_ (Qaa _)) RB.nil
                unfold SE.rowF
                rw[Qbl he,if_pos rfl,Qa2,QaK]
                rfl
              · refine RB.cells rfl (b := 300 + k) (g := 0) (ds := SE.rowF (a.es.take i) k) (by rw [Qbq hk]; simp [hkk, hx2]) (by simp (disch := omega) only [QaA, QaE, QaJ, hroom k hkn hx2]) (RnL.eq ?_ (Qaa _)) RB.nil
                unfold SE.rowF
                rw[Qbl he,if_neg (fun e2=>hx2 e2.symm),List.append_nil]
            · have hp := QcK hkk
              have:SE.rowF (a.es.take (i+1)) k=[]:=by unfold SE.rowF;rw[hp];rfl
              rw[this]
              exact RB.newnil rfl (by rw[Qbq hk];simp[hkk]) RB.nil
        · exact au2
      · refine QlC hk ?_
        simp(disch:=first|omega|exact PairsOK.mk rfl|(simp only[lenW]<;>omega)) only[hrow,hr0,Qer,QiP,wW,wV,simprocAttr]
        refine Qdf ?_
        simp(disch:=first|omega|exact PairsOK.mk rfl|(simp only[lenW]<;>omega)) only[hrow,hr0,wW,wV,simprocAttr]
        refine Qgm hk (by decide) ?_
        simp(disch:=first|omega|exact PairsOK.mk rfl|(simp only[lenW]<;>omega)) only[hrow,hr0,wW,wV,simprocAttr]
        refine⟨⟨⟨_,rfl,fun b hb=>hb⟩,⟨_,rfl,fun b hb=>hb⟩,⟨_,rfl,fun b hb=>hb⟩,⟨_,rfl,fun b hb=>hb⟩,⟨[],rfl,fun b hb=>by cases hb⟩,trivial⟩,i+1,by omega,by omega,?_⟩
        rw[if_neg (by simpa using hk)]at hkt
        have hnk:∀x∈keysR (a.es.take (i+1)),x<a.n:=fun x hx=>by
          obtain⟨e',he',rfl⟩:=Qdh.1 hx
          exact(hes e' (List.mem_of_mem_take he')).2
        have hp0:=QcK hk
        generalize hps:psL (fun k=>if k∈keysR (a.es.take (i+1))then(if k=e.2.2 then .blk 191 0 else .blk (300+k) 0:Src)else .nil) (List.range a.n)=PS
        have hroom:∀k:Nat,k<a.n->k≠e.2.2->(hp (rowsL (rowF (a.es.take i)) (List.range a.n))).get (300+k)=some (.cells 0 (rowF (a.es.take i) k)):=fun k hk _=>QbJ List.nodup_range hrn (List.mem_range.2 hk)
        refine⟨(70,.blk 70 0)::(71,.blk 71 0)::(72,.blk 72 0)::PS,?_,RO.zero,?_,?_⟩
        · subst hps
          refine QdS List.nodup_range hrn (fun k hk j hj hkj b g b' g' h1 h2=>?_) (fun k hk b g h1=>?_) (by decide) (by decide) (by decide)
          · split at h1
            · split at h2
              · split at h1<;>split at h2<;>cases h1<;>cases h2<;>omega
              · cases h2
            · cases h1
          · split at h1
            · split at h1<;>cases h1<;>omega
            · cases h1
        · subst hps
          refine RB.cells rfl rfl (by simp(disch:=omega) only[QaA,QaE,QaJ];rfl) ?_ (RB.map rfl rfl (by simp(disch:=omega) only[QaA,QaE,QaJ];rfl) ?_ (RB.cells rfl rfl (by simp(disch:=omega) only[QaA,QaE,QaJ]) (RnL.same (Qab _)) ?_))
          · repeat' (first|exact RB.nil|(refine RnL.same ?_;first|rfl|(simp only[noRef,noRefs,Qah,Bool.and_self,Bool.and_true,Bool.true_and,Qaa,Qaf,Qac,Qad,Qab,Qam,Qai,Qal,Qaj];done))|exact RnM.keyM rfl|exact RnL.nil|exact(True.intro:RnM _ _ _ [] [])|refine RnL.cons ?_ ?_|(refine Rn.same ?_;first|rfl|(simp only[noRef,noRefs,Qah,Bool.and_self,Bool.and_true,Bool.true_and,Qaa,Qaf,Qac,Qad,Qab,Qam,Qai,Qal,Qaj];done))|exact Rn.x1 rfl rfl|exact Rn.x2 rfl rfl|exact Rn.x3 rfl rfl|exact Rn.x4 rfl rfl|exact Rn.x5 rfl|exact Rn.x6 rfl|exact Rn.x7 rfl|refine RB.newnil rfl rfl ?_|refine RB.cells rfl rfl rfl ?_ ?_|refine RB.map rfl rfl rfl ?_ ?_|refine RB.cellsB rfl rfl ?_ ?_|refine RB.mapB rfl rfl ?_ ?_)
          · rw [hkt]
            refine RnM.mapF fun x hx=>?_
            have hxk:x∈keysR (a.es.take (i+1)):=by rw[hkt];exact hx
            have hxn:=hnk x hxk
            unfold updF ptrF
            split
            · rename_i hx2; subst hx2
              (rw[Qbl he,if_pos rfl,hp0];exact Rn.x1 rfl (by rw[Qbq (List.mem_range.2 hxn)];simp[hx]))
            · rename_i hx2
              rw[Qbl he,if_neg (fun e2=>hx2 e2.symm),List.append_nil]
              exact Rn.x1 rfl (by rw[Qbq (List.mem_range.2 hxn)];simp[hx,hx2])
          · refine Qco fun k hk => ?_
            have hkn:=List.mem_range.1 hk
            by_cases hkk:k∈keysR (a.es.take (i+1))
            · by_cases hx2 : k = e.2.2
              · subst hx2
                refine RB.cells rfl (b:=191) (g:=0) (ds:=[.int .i64 (e.1:Int)]) (by rw[Qbq hk];simp[hkk]) (by simp(disch:=omega) only[QaA,QaE,QaJ]) (RnL.eq ?_ (Qaa _)) RB.nil
                unfold SE.rowF
                rw[Qbl he,if_pos rfl,Qa2,QaK]
                (rw[hp0];rfl)
              · refine RB.cells rfl (b := 300 + k) (g := 0) (ds := SE.rowF (a.es.take i) k) (by rw [Qbq hk]; simp [hkk, hx2]) (by simp (disch := omega) only [QaA, QaE, QaJ, hroom k hkn hx2]) (RnL.eq ?_ (Qaa _)) RB.nil
                unfold SE.rowF
                rw[Qbl he,if_neg (fun e2=>hx2 e2.symm),List.append_nil]
            · have hp := QcK hkk
              have:SE.rowF (a.es.take (i+1)) k=[]:=by unfold SE.rowF;rw[hp];rfl
              rw[this]
              exact RB.newnil rfl (by rw[Qbq hk];simp[hkk]) RB.nil
        · exact au2
    · have e : i = a.es.length := by omega
      subst e
      have hnk:∀x∈keysR a.es,x<a.n:=fun x hx=>by
        obtain⟨e',he',rfl⟩:=Qdh.1 hx
        exact(hes e' he').2
      simp(disch:=first|omega|exact PairsOK.mk rfl|(simp only[lenW]<;>omega)) only[hlt,wW,wV,simprocAttr]
      refine⟨(),[(70,.blk 70 0),(71,.blk 71 0),(72,.blk 72 0)],rfl,RO.zero,?_,au2⟩
      refine RB.cells rfl rfl (by simp(disch:=omega) only[QaA,QaE,QaJ];rfl) ?_ (RB.map rfl rfl (by simp(disch:=omega) only[QaA,QaE,QaJ];rfl) ?_ (RB.cells rfl rfl (by simp(disch:=omega) only[QaA,QaE,QaJ]) (RnL.same (Qab _)) RB.nil))
      · repeat' (first|exact RB.nil|(refine RnL.same ?_;first|rfl|(simp only[noRef,noRefs,Qah,Bool.and_self,Bool.and_true,Bool.true_and,Qaa,Qaf,Qac,Qad,Qab,Qam,Qai,Qal,Qaj];done))|exact RnM.keyM rfl|exact RnL.nil|exact(True.intro:RnM _ _ _ [] [])|refine RnL.cons ?_ ?_|(refine Rn.same ?_;first|rfl|(simp only[noRef,noRefs,Qah,Bool.and_self,Bool.and_true,Bool.true_and,Qaa,Qaf,Qac,Qad,Qab,Qam,Qai,Qal,Qaj];done))|exact Rn.x1 rfl rfl|exact Rn.x2 rfl rfl|exact Rn.x3 rfl rfl|exact Rn.x4 rfl rfl|exact Rn.x5 rfl|exact Rn.x6 rfl|exact Rn.x7 rfl|refine RB.newnil rfl rfl ?_|refine RB.cells rfl rfl rfl ?_ ?_|refine RB.map rfl rfl rfl ?_ ?_|refine RB.cellsB rfl rfl ?_ ?_|refine RB.mapB rfl rfl ?_ ?_)
      · refine RnM.mapF fun x hx => ?_
        have hxn:=hnk x hx
        have hr:=QbJ (f:=SE.rowF a.es) List.nodup_range hrn (List.mem_range.2 hxn)
        have h1:Nat.beq (300+x) 70=false:=by rw[Bool.eq_false_iff];simp;try omega
        have h2:Nat.beq (300+x) 71=false:=by rw[Bool.eq_false_iff];simp;try omega
        have h3:Nat.beq (300+x) 72=false:=by rw[Bool.eq_false_iff];simp;try omega
        exact Rn.fzm (by simp(disch:=omega) only[QaA,QaE,QaJ,hr]) (by simp[srcNew,h1,h2,h3]) (by simp) rfl (by rw[Qbx,List.length_map,Nat.mul_one]) (RnL.same (Qaa _))
  rintro _ _
  simp(disch:=first|omega|exact PairsOK.mk rfl|(simp only[lenW]<;>omega)) only[wW,wV,simprocAttr]
  refine⟨.inr trivial,_,rfl,[(70,.blk 70 0),(71,.blk 71 0),(72,.blk 72 0)],rfl,RO.zero,?_,au2⟩
  refine RB.cells rfl rfl rfl ?_ (RB.map rfl rfl rfl (RnM.mapF fun x _=>Rn.same (Qai _)) (RB.cells rfl rfl rfl (RnL.same (Qab _)) RB.nil))
  repeat' (first|exact RB.nil|(refine RnL.same ?_;first|rfl|(simp only[noRef,noRefs,Qah,Bool.and_self,Bool.and_true,Bool.true_and,Qaa,Qaf,Qac,Qad,Qab,Qam,Qai,Qal,Qaj];done))|exact RnM.keyM rfl|exact RnL.nil|exact(True.intro:RnM _ _ _ [] [])|refine RnL.cons ?_ ?_|(refine Rn.same ?_;first|rfl|(simp only[noRef,noRefs,Qah,Bool.and_self,Bool.and_true,Bool.true_and,Qaa,Qaf,Qac,Qad,Qab,Qam,Qai,Qal,Qaj];done))|exact Rn.x1 rfl rfl|exact Rn.x2 rfl rfl|exact Rn.x3 rfl rfl|exact Rn.x4 rfl rfl|exact Rn.x5 rfl|exact Rn.x6 rfl|exact Rn.x7 rfl|refine RB.newnil rfl rfl ?_|refine RB.cells rfl rfl rfl ?_ ?_|refine RB.map rfl rfl rfl ?_ ?_|refine RB.cellsB rfl rfl ?_ ?_|refine RB.mapB rfl rfl ?_ ?_)
end Go.AM.SE
namespace Go.AM.SE
open Go.Proofs Go.AM.SD
abbrev pv (a:Aut) (u:List Nat) (l:LB):AV:= .fptr [sliN a.al,.int .i64 (a.n:Int),sliN a.ms,egsN a.es,sliN u,fmapF .i64 (backF a.es) (keysR a.es),.fsl (bls l) a.n 1]
theorem Qcu {f:Nat->AV} (h:∀x,noRef (f x)=true) (l:List Nat):noRefs (l.map f)=true:=by
 induction l with
 |nil=>rfl
 |cons x l ih=>simp only[List.map_cons,noRefs,h,ih];rfl
theorem Qae (k:IntKind) (l:List Nat):noRefs (l.map fun x:Nat=>AV.int k (x:Int))=true:=Qcu (fun _=>rfl) l
theorem Qag (es:List Ed) (l:List Nat):noRefs (l.map (backF es))=true:=Qcu (fun x=>Qai _) l
theorem QlN {n:Nat} {mk:List Nat} {left:Nat->Bool} {i x:Nat} (h:mk[i]?=some x):bMks n (mk.take (i+1)) left=bMk left (bMks n (mk.take i) left) x:=by
 unfold bMks
 rw[List.take_add_one,h,Option.toList,List.foldl_append];rfl
theorem Qmr (n:Nat) (mk:List Nat) (left:Nat->Bool):(bMks n mk left).1.length=n:=by
 have key:∀(mk:List Nat) (s:QS),(mk.foldl (bMk left) s).1.length=s.1.length:=by
  intro mk
  induction mk with
  |nil=>intro s;rfl
  |cons x mk ih=>
   intro s
   rw[List.foldl_cons,ih]
   unfold bMk;split<;>simp
 unfold bMks;rw[key];simp
theorem Qhk {left:Nat->Bool} {v:Nat} {s:QS} {ys:List Nat} {i y:Nat} (h:ys[i]?=some y):(ys.take (i+1)).foldl (bEd left v) s=bEd left v ((ys.take i).foldl (bEd left v) s) y:=by
 rw[List.take_add_one,h,Option.toList,List.foldl_append];rfl
theorem QiQ (n:Nat) (x:Int):(List.replicate n [AV.int .i64 x]).flatten=ints (List.replicate n x):=by
 induction n with
 |zero=>rfl
 |succ n ih=>rw[List.replicate_succ,List.flatten_cons,ih];rfl
theorem QlO {n i:Nat} (h:i<n):(List.replicate i (-1:Int)++List.replicate (n-i) 0).set i (-1)=List.replicate (i+1) (-1)++List.replicate (n-(i+1)) 0:=by
 rw[List.set_append_right _ _ (by simp),List.length_replicate,Nat.sub_self,show n-i=(n-(i+1))+1 by omega,List.replicate_succ,List.set_cons_zero,List.replicate_succ',List.append_assoc];rfl
theorem Qby {l:List Int} {i:Nat} {x:Int}:(ints l).set i (.int .i64 x)=ints (l.set i x):=by simp[ints,List.map_set]
def Bd (s:QS):Prop:=∀x,s.1.getD x 0<=s.2.length
theorem Qnl {left:Nat->Bool} {v y:Nat} {s:QS} (h:Bd s):Bd (bEd left v s y):=by
 unfold bEd
 split
 ·intro x
  have h1:=h x
  have h2:=h v
  show(s.1.set y (s.1.getD v 0+1)).getD x 0<=((s.2++[y]).length:Int)
  rw[List.length_append,List.length_singleton]
  rw[List.getD_eq_getElem?_getD,List.getElem?_set]
  rw[List.getD_eq_getElem?_getD]at h1
  split
  ·split
   ·simp only[Option.getD_some];omega
   ·simp only[Option.getD_none];omega
  ·omega
 ·exact h
theorem Qnm {left:Nat->Bool} {x:Nat} {s:QS} (h:Bd s):Bd (bMk left s x):=by
 unfold bMk
 split
 ·intro z
  have h1:=h z
  show(s.1.set x 0).getD z 0<=((s.2++[x]).length:Int)
  rw[List.length_append,List.length_singleton]
  rw[List.getD_eq_getElem?_getD,List.getElem?_set]
  rw[List.getD_eq_getElem?_getD]at h1
  split
  ·split
   ·simp only[Option.getD_some];omega
   ·simp only[Option.getD_none];omega
  ·omega
 ·exact h
theorem Qdz {left:Nat->Bool} {v:Nat}:∀(ys:List Nat) (s:QS),Bd s->Bd (ys.foldl (bEd left v) s)
 |[],s,h=>h
 |y::ys,s,h=>Qdz ys _ (Qnl h)
theorem QmU {n:Nat} {left:Nat->Bool} (mk:List Nat):Bd (bMks n mk left):=by
 have key:∀(mk:List Nat) (s:QS),Bd s->Bd (mk.foldl (bMk left) s):=by
  intro mk
  induction mk with
  |nil=>intro s h;exact h
  |cons x mk ih=>intro s h;exact ih _ (Qnm h)
 refine key mk _ fun x=>?_
 simp only[List.getD_eq_getElem?_getD,List.getElem?_replicate]
 split<;>simp
theorem Qnn (n:Nat) (left:Nat->Bool) (mk:List Nat):(bMks n mk left).2.length<=mk.length:=by
 have key:∀(mk:List Nat) (s:QS),(mk.foldl (bMk left) s).2.length<=s.2.length+mk.length:=by
  intro mk
  induction mk with
  |nil=>intro s;simp
  |cons x mk ih=>
   intro s
   rw[List.foldl_cons]
   refine Nat.le_trans (ih _) ?_
   unfold bMk
   split<;>simp<;>omega
 have:=key mk (List.replicate n (-1),[])
 unfold bMks
 simpa using this
theorem QaR {l:List Int} {i:Nat} {x:Int} (h:l[i]?=some x):(ints l)[i]?=some (.int .i64 x):=by simp[ints,h]
theorem QaO {l:List Int} {i:Nat} (h:i<l.length):(ints l)[i]?=some (.int .i64 (l.getD i 0)):=by simp[ints,h]
theorem _root_.Go.AM.au3 {p:Prop} (h:p:=by repeat' (first|exact RB.nil|(refine RnL.same ?_;first|rfl|(simp only[noRef,noRefs,Qah,Bool.and_self,Bool.and_true,Bool.true_and,Qaa,Qaf,Qac,Qad,Qab,Qam,Qai,Qal,Qaj,Qae,Qag];done))|exact RnM.keyM rfl|exact RnL.nil|exact(True.intro:RnM _ _ _ [] [])|refine RnL.cons ?_ ?_|(refine Rn.same ?_;first|rfl|(simp only[noRef,noRefs,Qah,Bool.and_self,Bool.and_true,Bool.true_and,Qaa,Qaf,Qac,Qad,Qab,Qam,Qai,Qal,Qaj,Qae,Qag];done))|exact Rn.x1 rfl rfl|exact Rn.x2 rfl rfl|exact Rn.x3 rfl rfl|exact Rn.x4 rfl rfl|exact Rn.x5 rfl|exact Rn.x6 rfl|exact Rn.x7 rfl|refine RB.newnil rfl rfl ?_|refine RB.cells rfl rfl rfl ?_ ?_|refine RB.map rfl rfl rfl ?_ ?_|refine RB.cellsB rfl rfl ?_ ?_|refine RB.mapB rfl rfl ?_ ?_)):p:=h
theorem _root_.Go.AM.au4 {p:Prop} (h:p:=by repeat (first|exact RT.nil|(refine RT.cons ?_ ?_; · (first|exact Rn.any|exact Rn.x1 rfl rfl|exact Rn.x2 rfl rfl|exact Rn.x3 rfl rfl|exact Rn.x4 rfl rfl|exact Rn.x5 rfl|exact Rn.x6 rfl|exact Rn.x7 rfl|(refine Rn.slot ?_ ?_;(first|rfl|(rw[Int.natCast_add];rfl));(first|rfl|(simp only[noRef,noRefs,Qah,Bool.and_self,Bool.and_true,Bool.true_and,Qaa,Qaf,Qac,Qad,Qab,Qam,Qai,Qal,Qaj,Qae,Qag];done)))|(refine Rn.fn ?_ ?_<;>(repeat' (first|exact RnL.nil|refine RnL.cons ?_ ?_|exact Rn.same rfl|exact Rn.x6 rfl|exact Rn.x2 rfl rfl|exact Rn.x5 rfl|exact Rn.x1 rfl rfl))))))):p:=h
theorem dist53 (a : Aut) (u : List Nat) (l : LB) (hin : InN a.n a.es a.ms) (hnd : a.ms.Nodup) (hl : l.length = a.n) (hn : a.n <= 4096) (hel : a.es.length <= 1000000) (hml : a.ms.length <= 1000000) :
    HSpec Try.prog 33 [pv a u l] .e (.sl 80 0 0 a.n 1) (hp [(80,.cells 0 (ints (pDist a.n a.es a.ms (lf l))))]):=by
  refine HSpec.Qba 100 ok33 rfl ?_
  have hn':(a.n:Int)<=140737488355328:=by omega
  have hn8:(8:Int)*a.n<=140737488355328:=by omega
  simp(disch:=first|omega|exact PairsOK.mk rfl|(simp only[lenW]<;>omega)) only[s33,hn',hn8,QiQ,wW,wV,simprocAttr]
  refine Qay 100 (fun i:Nat=>[(0,pv a u l),(3,.sl 80 0 0 a.n 1),(18,.int .i64 a.n),(19,.int .i64 i)])
    (fun i=>[(80,.cells 0 (ints (List.replicate i (-1)++List.replicate (a.n-i) 0)))])
    (fun i=>i<=a.n) (fun i=>a.n-i) 0 0 120
    (fun _:Unit=>[(0,pv a u l),(3,.sl 80 0 0 a.n 1)])
    (fun _=>[(80,.cells 0 (ints (List.replicate a.n (-1))))]) (fun _=>True) ?_ (Nat.zero_le _) ?_ ?_
  · exact⟨[(80,.blk 106 0)],rfl,au0,au3,au4⟩
  · rintro i hi
    by_cases hlt:i<a.n
    · have h1 : i + 1 <= i + (a.n - i) := by omega
      simp(disch:=first|omega|exact PairsOK.mk rfl|(simp only[lenW]<;>omega)) only[hlt,h1,Qby,QlO hlt,wW,wV,simprocAttr]
      exact⟨i+1,by omega,by omega,⟨[(80,.blk 80 0)],rfl,au0,au3,au4⟩⟩
    · have e : i = a.n := by omega
      subst e
      have e2:List.replicate a.n (-1:Int)++List.replicate (a.n-a.n) 0=List.replicate a.n (-1):=by simp
      simp(disch:=first|omega|exact PairsOK.mk rfl|(simp only[lenW]<;>omega)) only[hlt,wW,wV,simprocAttr]
      refine⟨(),?_⟩
      rw[e2]
      exact⟨[(80,.blk 80 0)],rfl,au0,au3,au4⟩
  rintro _ _
  simp(disch:=first|omega|exact PairsOK.mk rfl|(simp only[lenW]<;>omega)) only[wW,wV,simprocAttr]
  refine Qay 140 (fun i:Nat=>[(0,pv a u l),(3,.sl 80 0 0 a.n 1),(5,.sl 81 0 0 (bMks a.n (a.ms.take i) (lf l)).2.length 1),(30,sliN a.ms),(31,.int .i64 a.ms.length),(32,.int .i64 i)])
    (fun i=>[(80,.cells 0 (ints (bMks a.n (a.ms.take i) (lf l)).1)),(81,.cells 0 (ints (nz (bMks a.n (a.ms.take i) (lf l)).2)))])
    (fun i=>i<=a.ms.length) (fun i=>a.ms.length-i) 0 2 160
    (fun _:Unit=>[(0,pv a u l),(3,.sl 80 0 0 a.n 1),(5,.sl 81 0 0 (bMks a.n a.ms (lf l)).2.length 1)])
    (fun _=>[(80,.cells 0 (ints (bMks a.n a.ms (lf l)).1)),(81,.cells 0 (ints (nz (bMks a.n a.ms (lf l)).2)))]) (fun _=>True) ?_ (Nat.zero_le _) ?_ ?_
  · exact⟨[(80,.blk 80 0),(81,.nil)],rfl,au0,au3,au4⟩
  · rintro i hi
    by_cases hlt:i<a.ms.length
    · obtain ⟨x, hx⟩ := Qax hlt
      have hxn:=hin.2 x (List.mem_of_getElem? hx)
      have hs:=QlN (n:=a.n) (left:=lf l) hx
      have hq:=Qnn a.n (lf l) (a.ms.take i)
      rw[List.length_take]at hq
      have hlen:=Qmr a.n (a.ms.take i) (lf l)
      generalize bMks a.n (a.ms.take i) (lf l)=s at*
      have h1:x+1<=s.1.length:=by omega
      have hxl:x<l.length:=by omega
      by_cases h0:lf l x=true
      · rw [bMk, if_pos h0] at hs
        simp(disch:=first|omega|exact PairsOK.mk rfl|(simp only[lenW]<;>omega)) only[hlt,Qbp hx,hxn,Qaq hxl,h0,Qby,h1,wW,wV,simprocAttr]
        refine⟨i+1,by omega,by omega,?_⟩
        rw[hs,Qa2,QaK,List.length_append]
        exact⟨[(80,.blk 80 0),(81,.blk 81 1)],rfl,au0,au3,au4⟩
      · rw [bMk, if_neg h0] at hs
        rw[Bool.not_eq_true]at h0
        simp(disch:=first|omega|exact PairsOK.mk rfl|(simp only[lenW]<;>omega)) only[hlt,Qbp hx,hxn,Qaq hxl,h0,wW,wV,simprocAttr]
        refine⟨i+1,by omega,by omega,?_⟩
        rw[hs]
        exact⟨[(80,.blk 80 0),(81,.blk 81 0)],rfl,au0,au3,au4⟩
    · have e : i = a.ms.length := by omega
      subst e
      simp(disch:=first|omega|exact PairsOK.mk rfl|(simp only[lenW]<;>omega)) only[hlt,wW,wV,simprocAttr]
      refine⟨(),?_⟩
      exact⟨[(80,.blk 80 0),(81,.blk 81 0)],rfl,au0,au3,au4⟩
  rintro _ _
  simp(disch:=first|omega|exact PairsOK.mk rfl|(simp only[lenW]<;>omega)) only[wW,wV,simprocAttr]
  have hb0:=Qex (left:=lf l) hin hnd
  have hd0:=QmU (n:=a.n) (left:=lf l) a.ms
  have hfin:(bQ a.es (lf l) (a.n+1) 0 (bMks a.n a.ms (lf l))).1=pDist a.n a.es a.ms (lf l):=rfl
  generalize bMks a.n a.ms (lf l)=s0 at*
  refine Qay 180 (fun t:Nat×QS=>[(0,pv a u l),(3,.sl 80 0 0 a.n 1),(5,.sl 81 0 0 t.2.2.length 1),(8,.int .i64 t.1)])
    (fun t=>[(80,.cells 0 (ints t.2.1)),(81,.cells 0 (ints (nz t.2.2)))])
    (fun t=>t.1<=a.n/\BH a.n a.es a.ms (lf l) t.1 t.2/\Bd t.2/\bQ a.es (lf l) (a.n+1-t.1) t.1 t.2=bQ a.es (lf l) (a.n+1) 0 s0) (fun t=>a.n+1-t.1) (0,s0) 4 200
    (fun _:Unit=>[(3,.sl 80 0 0 a.n 1)])
    (fun _=>[(80,.cells 0 (ints (pDist a.n a.es a.ms (lf l))))]) (fun _=>True) ?_ ⟨Nat.zero_le _,hb0,hd0,rfl⟩ ?_ ?_
  · exact⟨[(80,.blk 80 0),(81,.blk 81 0)],rfl,au0,au3,au4⟩
  · rintro ⟨i, s⟩ ⟨hi, hbh, hbd, hq⟩
    dsimp only at hi hbh hbd hq⊢
    have hsl:=hbh.bi.cnt
    have hlen:=hbh.bi.len
    by_cases hlt:i<s.2.length
    · obtain ⟨v, hv⟩ := Qax hlt
      have hvn:=((hbh.bi.inl v).1 (List.mem_of_getElem? hv)).1
      have hin':i<a.n:=by omega
      have hq':bQ a.es (lf l) (a.n+1-(i+1)) (i+1) (bRow a.es (lf l) v s)=bQ a.es (lf l) (a.n+1) 0 s0:=by
        rw[<-hq,show a.n+1-i=(a.n+1-(i+1))+1 by omega]
        simp only[bQ,hv]
      have hbh':=hbh.step hin hv
      have hrow:=fun ys (hys:∀y∈ys,∃e∈a.es,e.1=y/\e.2.2=v)=>BI.row (left:=lf l) (mk:=a.ms) hin (v:=v) (i:=i) ys s hys hbh.bi hv (hbh.near v hv) hbh.done
      have hpl:=Qhj a.es v
      simp(disch:=first|omega|exact PairsOK.mk rfl|(simp only[lenW]<;>omega)) only[hlt,Qbp hv,QaR (nz_at hv),wW,wV,simprocAttr]
      have hpn:∀y∈preds a.es v,y<a.n:=fun y hy=>by
        obtain⟨e,he,h1,h2⟩:=Qcx.1 hy
        have:=(hin.1 e he).1;omega
      by_cases hk:v∈keysR a.es
      · refine Qjk hk ?_
        simp(disch:=first|omega|exact PairsOK.mk rfl|(simp only[lenW]<;>omega)) only[wW,wV,simprocAttr]
        refine Qay 220 (fun j:Nat=>[(65,sliN (preds a.es v)),(66,.int .i64 (preds a.es v).length),(0,pv a u l),(3,.sl 80 0 0 a.n 1),(5,.sl 81 0 0 (((preds a.es v).take j).foldl (bEd (lf l) v) s).2.length 1),(8,.int .i64 i),(67,.int .i64 j)])
          (fun j=>[(80,.cells 0 (ints (((preds a.es v).take j).foldl (bEd (lf l) v) s).1)),(81,.cells 0 (ints (nz (((preds a.es v).take j).foldl (bEd (lf l) v) s).2)))])
          (fun j=>j<=(preds a.es v).length) (fun j=>(preds a.es v).length-j) 0 6 240
          (fun _:Unit=>[(0,pv a u l),(3,.sl 80 0 0 a.n 1),(5,.sl 81 0 0 (bRow a.es (lf l) v s).2.length 1),(8,.int .i64 i)])
          (fun _=>[(80,.cells 0 (ints (bRow a.es (lf l) v s).1)),(81,.cells 0 (ints (nz (bRow a.es (lf l) v s).2)))]) (fun _=>True) ?_ (Nat.zero_le _) ?_ ?_
        · exact⟨[(80,.blk 80 0),(81,.blk 81 0)],rfl,au0,au3,au4⟩
        · rintro j hj
          by_cases hjl:j<(preds a.es v).length
          · obtain ⟨y, hy⟩ := Qax hjl
            have hyn:=hpn y (List.mem_of_getElem? hy)
            obtain⟨k1,k2,_,_,_,_⟩:=hrow ((preds a.es v).take j) (fun y hy=>Qcx.1 (List.mem_of_mem_take hy))
            have hbdj:=Qdz (left:=lf l) (v:=v) ((preds a.es v).take j) s hbd
            have hstep:=Qhk (left:=lf l) (v:=v) (s:=s) hy
            generalize ((preds a.es v).take j).foldl (bEd (lf l) v) s=t at*
            have hcn:=k1.cnt
            have hln:=k1.len
            have hil:i<t.2.length:=(List.getElem?_eq_some_iff.1 k2).1
            have hyl:y<l.length:=by omega
            have hy1:y+1<=t.1.length:=by omega
            have hyt:y<t.1.length:=by omega
            have hvt:v<t.1.length:=by omega
            have hv1:=k1.neg v hvn
            have hv2:=hbdj v
            by_cases h0:lf l y=true
            · by_cases h2 : t.1.getD y 0 < 0
              · have hst : bEd (lf l) v t y = (t.1.set y (t.1.getD v 0 + 1), t.2 ++ [y]) := by unfold bEd; rw [if_pos (by rw [h0, decide_eq_true h2]; rfl)]
                rw[hst]at hstep
                simp(disch:=first|omega|exact PairsOK.mk rfl|(simp only[lenW]<;>omega)) only[hjl,Qbp hy,hyn,Qaq hyl,h0,QaO hyt,h2,hil,QaR (nz_at k2),hvn,QaO hvt,hy1,Qby,wW,wV,simprocAttr]
                refine⟨j+1,by omega,by omega,?_⟩
                rw[hstep,Qa2,QaK,List.length_append]
                exact⟨[(80,.blk 80 0),(81,.blk 81 1)],rfl,au0,au3,au4⟩
              · have hst : bEd (lf l) v t y = t := by unfold bEd; rw [if_neg (by rw [h0, decide_eq_false h2]; decide)]
                rw[hst]at hstep
                simp(disch:=first|omega|exact PairsOK.mk rfl|(simp only[lenW]<;>omega)) only[hjl,Qbp hy,hyn,Qaq hyl,h0,QaO hyt,h2,wW,wV,simprocAttr]
                refine⟨j+1,by omega,by omega,?_⟩
                rw[hstep]
                exact⟨[(80,.blk 80 0),(81,.blk 81 0)],rfl,au0,au3,au4⟩
            · have hst : bEd (lf l) v t y = t := by unfold bEd; rw [if_neg (by simp [h0])]
              rw[hst]at hstep
              rw[Bool.not_eq_true]at h0
              simp(disch:=first|omega|exact PairsOK.mk rfl|(simp only[lenW]<;>omega)) only[hjl,Qbp hy,hyn,Qaq hyl,h0,wW,wV,simprocAttr]
              refine⟨j+1,by omega,by omega,?_⟩
              rw[hstep]
              exact⟨[(80,.blk 80 0),(81,.blk 81 0)],rfl,au0,au3,au4⟩
          · have e : j = (preds a.es v).length := by omega
            subst e
            simp(disch:=first|omega|exact PairsOK.mk rfl|(simp only[lenW]<;>omega)) only[hjl,wW,wV,simprocAttr]
            refine⟨(),?_⟩
            exact⟨[(80,.blk 80 0),(81,.blk 81 0)],rfl,au0,au3,au4⟩
        rintro _ _
        simp(disch:=first|omega|exact PairsOK.mk rfl|(simp only[lenW]<;>omega)) only[wW,wV,simprocAttr]
        exact⟨(i+1,bRow a.es (lf l) v s),by dsimp only;omega,⟨hin',hbh',Qdz _ _ hbd,hq'⟩,⟨[(80,.blk 80 0),(81,.blk 81 0)],rfl,au0,au3,au4⟩⟩
      · refine QiC hk ?_
        have hp0:=QcK hk
        simp(disch:=first|omega|exact PairsOK.mk rfl|(simp only[lenW]<;>omega)) only[wW,wV,simprocAttr]
        refine Qay 220 (fun j:Nat=>[(65,sliN (preds a.es v)),(66,.int .i64 (preds a.es v).length),(0,pv a u l),(3,.sl 80 0 0 a.n 1),(5,.sl 81 0 0 (((preds a.es v).take j).foldl (bEd (lf l) v) s).2.length 1),(8,.int .i64 i),(67,.int .i64 j)])
          (fun j=>[(80,.cells 0 (ints (((preds a.es v).take j).foldl (bEd (lf l) v) s).1)),(81,.cells 0 (ints (nz (((preds a.es v).take j).foldl (bEd (lf l) v) s).2)))])
          (fun j=>j<=(preds a.es v).length) (fun j=>(preds a.es v).length-j) 0 6 240
          (fun _:Unit=>[(0,pv a u l),(3,.sl 80 0 0 a.n 1),(5,.sl 81 0 0 (bRow a.es (lf l) v s).2.length 1),(8,.int .i64 i)])
          (fun _=>[(80,.cells 0 (ints (bRow a.es (lf l) v s).1)),(81,.cells 0 (ints (nz (bRow a.es (lf l) v s).2)))]) (fun _=>True) ?_ (Nat.zero_le _) ?_ ?_
        · exact⟨[(80,.blk 80 0),(81,.blk 81 0)],rfl,RO.zero,au3,RT.cons (by rw[hp0];exact Rn.nilK) (RT.cons (by rw[hp0];exact Rn.same rfl) au4)⟩
        · rintro j hj
          by_cases hjl:j<(preds a.es v).length
          · obtain ⟨y, hy⟩ := Qax hjl
            have hyn:=hpn y (List.mem_of_getElem? hy)
            obtain⟨k1,k2,_,_,_,_⟩:=hrow ((preds a.es v).take j) (fun y hy=>Qcx.1 (List.mem_of_mem_take hy))
            have hbdj:=Qdz (left:=lf l) (v:=v) ((preds a.es v).take j) s hbd
            have hstep:=Qhk (left:=lf l) (v:=v) (s:=s) hy
            generalize ((preds a.es v).take j).foldl (bEd (lf l) v) s=t at*
            have hcn:=k1.cnt
            have hln:=k1.len
            have hil:i<t.2.length:=(List.getElem?_eq_some_iff.1 k2).1
            have hyl:y<l.length:=by omega
            have hy1:y+1<=t.1.length:=by omega
            have hyt:y<t.1.length:=by omega
            have hvt:v<t.1.length:=by omega
            have hv1:=k1.neg v hvn
            have hv2:=hbdj v
            by_cases h0:lf l y=true
            · by_cases h2 : t.1.getD y 0 < 0
              · have hst : bEd (lf l) v t y = (t.1.set y (t.1.getD v 0 + 1), t.2 ++ [y]) := by unfold bEd; rw [if_pos (by rw [h0, decide_eq_true h2]; rfl)]
                rw[hst]at hstep
                simp(disch:=first|omega|exact PairsOK.mk rfl|(simp only[lenW]<;>omega)) only[hjl,Qbp hy,hyn,Qaq hyl,h0,QaO hyt,h2,hil,QaR (nz_at k2),hvn,QaO hvt,hy1,Qby,wW,wV,simprocAttr]
                refine⟨j+1,by omega,by omega,?_⟩
                rw[hstep,Qa2,QaK,List.length_append]
                exact⟨[(80,.blk 80 0),(81,.blk 81 1)],rfl,au0,au3,au4⟩
              · have hst : bEd (lf l) v t y = t := by unfold bEd; rw [if_neg (by rw [h0, decide_eq_false h2]; decide)]
                rw[hst]at hstep
                simp(disch:=first|omega|exact PairsOK.mk rfl|(simp only[lenW]<;>omega)) only[hjl,Qbp hy,hyn,Qaq hyl,h0,QaO hyt,h2,wW,wV,simprocAttr]
                refine⟨j+1,by omega,by omega,?_⟩
                rw[hstep]
                exact⟨[(80,.blk 80 0),(81,.blk 81 0)],rfl,au0,au3,au4⟩
            · have hst : bEd (lf l) v t y = t := by unfold bEd; rw [if_neg (by simp [h0])]
              rw[hst]at hstep
              rw[Bool.not_eq_true]at h0
              simp(disch:=first|omega|exact PairsOK.mk rfl|(simp only[lenW]<;>omega)) only[hjl,Qbp hy,hyn,Qaq hyl,h0,wW,wV,simprocAttr]
              refine⟨j+1,by omega,by omega,?_⟩
              rw[hstep]
              exact⟨[(80,.blk 80 0),(81,.blk 81 0)],rfl,au0,au3,au4⟩
          · have e : j = (preds a.es v).length := by omega
            subst e
            simp(disch:=first|omega|exact PairsOK.mk rfl|(simp only[lenW]<;>omega)) only[hjl,wW,wV,simprocAttr]
            refine⟨(),?_⟩
            exact⟨[(80,.blk 80 0),(81,.blk 81 0)],rfl,au0,au3,au4⟩
        rintro _ _
        simp(disch:=first|omega|exact PairsOK.mk rfl|(simp only[lenW]<;>omega)) only[wW,wV,simprocAttr]
        exact⟨(i+1,bRow a.es (lf l) v s),by dsimp only;omega,⟨hin',hbh',Qdz _ _ hbd,hq'⟩,⟨[(80,.blk 80 0),(81,.blk 81 0)],rfl,au0,au3,au4⟩⟩
    · have hv : s.2[i]? = none := List.getElem?_eq_none (by omega)
      have hqf:s.1=pDist a.n a.es a.ms (lf l):=by
        rw[<-hfin,<-hq,show a.n+1-i=(a.n-i)+1 by omega]
        simp only[bQ,hv]
      simp(disch:=first|omega|exact PairsOK.mk rfl|(simp only[lenW]<;>omega)) only[hlt,wW,wV,simprocAttr]
      refine⟨(),?_⟩
      rw[hqf]
      exact⟨[(80,.blk 80 0)],rfl,au0,au3,au4⟩
  rintro _ _
  simp(disch:=first|omega|exact PairsOK.mk rfl|(simp only[lenW]<;>omega)) only[wW,wV,simprocAttr]
  exact⟨.inr trivial,_,rfl,⟨[(80,.blk 80 0)],rfl,au0,au3,au4⟩⟩
end Go.AM.SE
namespace Go.AM.SE
open Go.Proofs Go.AM.SD
def bkC (rank:Int) (x:Nat):List AV:=[.int .i64 (x:Int),.int .i64 rank,.int .i64 3,.int .i64 (-1)]
theorem Qap (rank:Int) (l:List Nat):noRefs (l.flatMap (bkC rank))=true:=QbT (fun x=>rfl) l
def lsC (rank:Int) (p:Nat×Nat):List AV:=[.int .i64 (p.1:Int),.int .i64 rank,.int .i64 2,.int .i64 (p.2:Int)]
theorem Qak (rank:Int) (l:List (Nat×Nat)):noRefs (l.flatMap (lsC rank))=true:=QbT (fun x=>rfl) l
theorem ls_rm (rank:Int) (l:List (Nat×Nat)):l.flatMap (lsC rank)=(lostF rank l).flatMap rmC:=by
 unfold lostF;rw[List.flatMap_map];rfl
theorem QiR (rank:Int) (l:List (Nat×Nat)):(l.flatMap (lsC rank)).length=l.length*4:=QdO (f:=lsC rank) (k:=4) (fun _=>rfl) l
theorem QlP {rank:Int} {l:List (Nat×Nat)} {i:Nat} {p:Nat×Nat} (h:l[i]?=some p):(l.flatMap (lsC rank))[i*4]?=some (.int .i64 (p.1:Int)):=by
 have:=QcB (f:=lsC rank) (k:=4) (fun _=>rfl) h
 have h2:((l.flatMap (lsC rank)).drop (i*4))[0]?=some (.int .i64 (p.1:Int)):=by rw[this];rfl
 simpa using h2
theorem QkE {es:List Ed} {left:Nat->Bool} {unc:List Nat} {i:Nat} {e:Ed} (h:es[i]?=some e):pLost (es.take (i+1)) left unc=pLs left unc (pLost (es.take i) left unc) e:=by
 unfold pLost
 rw[List.take_add_one,h,Option.toList,List.foldl_append];rfl
theorem QlQ (es:List Ed) (left:Nat->Bool) (unc:List Nat):(pLost es left unc).length<=es.length:=by
 have key:∀(es:List Ed) (o:List (Nat×Nat)),(es.foldl (pLs left unc) o).length<=o.length+es.length:=by
  intro es
  induction es with
  |nil=>intro o;simp
  |cons e es ih=>
   intro o
   rw[List.foldl_cons]
   refine Nat.le_trans (ih _) ?_
   unfold pLs
   (repeat' split)<;>(try simp)<;>(try omega)
 have:=key es []
 unfold pLost
 simpa using this
theorem _root_.Go.AM.au5 {p:Prop} (h:p:=by repeat' (first|exact RB.nil|(refine RnL.same ?_;first|rfl|(simp only[noRef,noRefs,Qah,Bool.and_self,Bool.and_true,Bool.true_and,Qaa,Qaf,Qac,Qad,Qak,Qap,Qab,Qam,Qai,Qal,Qaj,Qae,Qag];done))|exact RnM.keyM rfl|exact RnL.nil|exact(True.intro:RnM _ _ _ [] [])|refine RnL.cons ?_ ?_|(refine Rn.same ?_;first|rfl|(simp only[noRef,noRefs,Qah,Bool.and_self,Bool.and_true,Bool.true_and,Qaa,Qaf,Qac,Qad,Qak,Qap,Qab,Qam,Qai,Qal,Qaj,Qae,Qag];done))|exact Rn.x1 rfl rfl|exact Rn.x2 rfl rfl|exact Rn.x3 rfl rfl|exact Rn.x4 rfl rfl|exact Rn.x5 rfl|exact Rn.x6 rfl|exact Rn.x7 rfl|refine RB.newnil rfl rfl ?_|refine RB.cells rfl rfl rfl ?_ ?_|refine RB.map rfl rfl rfl ?_ ?_|refine RB.cellsB rfl rfl ?_ ?_|refine RB.mapB rfl rfl ?_ ?_)):p:=h
theorem _root_.Go.AM.au6 {p:Prop} (h:p:=by repeat (first|exact RT.nil|(refine RT.cons ?_ ?_; · (first|exact Rn.any|exact Rn.x1 rfl rfl|exact Rn.x2 rfl rfl|exact Rn.x3 rfl rfl|exact Rn.x4 rfl rfl|exact Rn.x5 rfl|exact Rn.x6 rfl|exact Rn.x7 rfl|(refine Rn.slot ?_ ?_;(first|rfl|(rw[Int.natCast_add];rfl));(first|rfl|(simp only[noRef,noRefs,Qah,Bool.and_self,Bool.and_true,Bool.true_and,Qaa,Qaf,Qac,Qad,Qak,Qap,Qab,Qam,Qai,Qal,Qaj,Qae,Qag];done)))|(refine Rn.fn ?_ ?_<;>(repeat' (first|exact RnL.nil|refine RnL.cons ?_ ?_|exact Rn.same rfl|exact Rn.x6 rfl|exact Rn.x2 rfl rfl|exact Rn.x5 rfl|exact Rn.x1 rfl rfl))))))):p:=h
theorem lost47 (a : Aut) (u : List Nat) (l : LB) (rank : Int) (hes : ∀ e ∈ a.es, e.1 < a.n /\ e.2.2 < a.n) (hl : l.length = a.n) (hel : a.es.length <= 1000000) (hul : u.length <= 1000000) :
    HSpec Try.prog 35 [pv a u l,.int .i64 rank] .e (.sl 80 0 0 (lostF rank (pLost a.es (lf l) u)).length 4) (hp [(80,.cells 0 ((lostF rank (pLost a.es (lf l) u)).flatMap rmC))]):=by
  rw[<-ls_rm,show(lostF rank (pLost a.es (lf l) u)).length=(pLost a.es (lf l) u).length by unfold lostF;rw[List.length_map]]
  refine HSpec.Qba 100 ok35 rfl ?_
  simp(disch:=first|omega|exact PairsOK.mk rfl|(simp only[lenW]<;>omega)) only[s35,wW,wV,simprocAttr]
  refine Qay 100 (fun i:Nat=>[(0,pv a u l),(1,.int .i64 rank),(5,.sl 80 0 0 (pLost (a.es.take i) (lf l) u).length 4),(13,egsN a.es),(14,.int .i64 a.es.length),(15,.int .i64 i)])
    (fun i=>[(80,.cells 0 ((pLost (a.es.take i) (lf l) u).flatMap (lsC rank)))])
    (fun i=>i<=a.es.length) (fun i=>a.es.length-i) 0 0 120
    (fun _:Unit=>[(5,.sl 80 0 0 (pLost a.es (lf l) u).length 4)])
    (fun _=>[(80,.cells 0 ((pLost a.es (lf l) u).flatMap (lsC rank)))]) (fun _=>True) ?_ (Nat.zero_le _) ?_ ?_
  · exact⟨[(80,.nil)],rfl,au0,au5,au6⟩
  · rintro i hi
    by_cases hlt:i<a.es.length
    · obtain ⟨e, he⟩ := Qax hlt
      obtain⟨hfr,hto⟩:=hes e (List.mem_of_getElem? he)
      have hst:=QkE (left:=lf l) (unc:=u) he
      have hol:=QlQ (a.es.take i) (lf l) u
      rw[List.length_take]at hol
      generalize pLost (a.es.take i) (lf l) u=o at*
      have hfl:e.1<l.length:=by omega
      have htl:e.2.2<l.length:=by omega
      by_cases h1:lf l e.1=true
      · by_cases h2 : lf l e.2.2 = true
        · have : bad (lf l) u e = false := by simp [bad, h2]
          rw[pLs,if_neg (by simp[this])]at hst
          simp(disch:=first|omega|exact PairsOK.mk rfl|(simp only[lenW]<;>omega)) only[hlt,QaC he,hfr,hto,Qaq hfl,Qaq htl,h1,h2,wW,wV,simprocAttr]
          refine⟨i+1,by omega,by omega,?_⟩
          rw[hst];exact⟨[(80,.blk 80 0)],rfl,au0,au5,au6⟩
        · rw [Bool.not_eq_true] at h2
          by_cases h3:u.contains e.2.1=true
          · have hb : bad (lf l) u e = true := by simp only [bad, h1, h2, h3]; rfl
            rw[pLs,if_pos hb]at hst
            simp(disch:=first|omega|exact PairsOK.mk rfl|(simp only[lenW]<;>omega)) only[hlt,QaC he,hfr,hto,Qaq hfl,Qaq htl,h1,h2,wW,wV,simprocAttr]
            have hc:=contains62 (nz u) e.2.1 (by simp;omega)
            rw[Qbb,Qc7,h3]at hc
            refine cp hc ?_
            by_cases h4:o.length=0
            · have ho : o = [] := List.eq_nil_of_length_eq_zero h4
              have hlast:o.getLast?=none:=by rw[ho];rfl
              rw[hlast,if_neg (by simp)]at hst
              have h6:¬(0:Int)<(o.length:Int):=by omega
              have hll:=QiR rank o
              simp(disch:=first|omega|exact PairsOK.mk rfl|(simp only[lenW]<;>omega)) only[h6,hll,wW,wV,simprocAttr]
              refine⟨i+1,by omega,by omega,?_⟩
              rw[hst,List.flatMap_append,List.length_append]
              exact⟨[(80,.blk 80 1)],rfl,au0,au5,au6⟩
            · obtain ⟨p, hp⟩ := Qax (l := o) (i := o.length - 1) (by omega)
              have hlast:o.getLast?=some p:=by rw[List.getLast?_eq_getElem?];exact hp
              rw[hlast]at hst
              have h5:(o.length:Int)-1=((o.length-1:Nat):Int):=by omega
              have h6:(0:Int)<(o.length:Int):=by omega
              have h7:((o.length-1:Nat):Int)<(o.length:Int):=by omega
              by_cases h8:p.1=e.1
              · rw [if_pos (by simpa using h8)] at hst
                simp(disch:=first|omega|exact PairsOK.mk rfl|(simp only[lenW]<;>omega)) only[h5,h6,h7,QlP hp,h8,wW,wV,simprocAttr]
                refine⟨i+1,by omega,by omega,?_⟩
                rw[hst];exact⟨[(80,.blk 80 0)],rfl,au0,au5,au6⟩
              · rw [if_neg (by simpa using h8)] at hst
                have hll:=QiR rank o
                simp(disch:=first|omega|exact PairsOK.mk rfl|(simp only[lenW]<;>omega)) only[h5,h6,h7,QlP hp,h8,hll,wW,wV,simprocAttr]
                refine⟨i+1,by omega,by omega,?_⟩
                rw[hst,List.flatMap_append,List.length_append]
                exact⟨[(80,.blk 80 1)],rfl,au0,au5,au6⟩
          · rw [Bool.not_eq_true] at h3
            have:bad (lf l) u e=false:=by simp only[bad,h1,h2,h3];rfl
            rw[pLs,if_neg (by simp[this])]at hst
            simp(disch:=first|omega|exact PairsOK.mk rfl|(simp only[lenW]<;>omega)) only[hlt,QaC he,hfr,hto,Qaq hfl,Qaq htl,h1,h2,wW,wV,simprocAttr]
            have hc:=contains62 (nz u) e.2.1 (by simp;omega)
            rw[Qbb,Qc7,h3]at hc
            refine cp hc ?_
            simp(disch:=first|omega|exact PairsOK.mk rfl|(simp only[lenW]<;>omega)) only[wW,wV,simprocAttr]
            refine⟨i+1,by omega,by omega,?_⟩
            rw[hst];exact⟨[(80,.blk 80 0)],rfl,au0,au5,au6⟩
      · rw [Bool.not_eq_true] at h1
        have:bad (lf l) u e=false:=by simp[bad,h1]
        rw[pLs,if_neg (by simp[this])]at hst
        simp(disch:=first|omega|exact PairsOK.mk rfl|(simp only[lenW]<;>omega)) only[hlt,QaC he,hfr,hto,Qaq hfl,Qaq htl,h1,wW,wV,simprocAttr]
        refine⟨i+1,by omega,by omega,?_⟩
        rw[hst];exact⟨[(80,.blk 80 0)],rfl,au0,au5,au6⟩
    · have e : i = a.es.length := by omega
      subst e
      simp(disch:=first|omega|exact PairsOK.mk rfl|(simp only[lenW]<;>omega)) only[hlt,wW,wV,simprocAttr]
      refine⟨(),?_⟩
      exact⟨[(80,.blk 80 0)],rfl,au0,au5,au6⟩
  rintro _ _
  simp(disch:=first|omega|exact PairsOK.mk rfl|(simp only[lenW]<;>omega)) only[wW,wV,simprocAttr]
  exact⟨.inr trivial,_,rfl,⟨[(80,.blk 80 0)],rfl,au0,au5,au6⟩⟩
def blkP (left:Nat->Bool) (d:List Int) (n:Nat):List Nat:=(List.range n).filter fun i=>left i&&decide (d.getD i 0<0)
theorem QlR (rank:Int) (l:List Nat):(l.flatMap (bkC rank)).length=l.length*4:=QdO (f:=bkC rank) (k:=4) (fun _=>rfl) l
theorem Qgr (left:Nat->Bool) (rank:Int) (d:List Int):blkF left rank d=(blkP left d d.length).map fun x=>⟨x,rank,3,-1⟩:=by
 unfold blkF blkP
 generalize List.range d.length=r
 induction r with
 |nil=>rfl
 |cons x r ih=>
  rw[List.filterMap_cons,List.filter_cons]
  by_cases h:(left x&&decide (d.getD x 0<0))=true
  ·rw[if_pos h,if_pos h,List.map_cons,<-ih]
  ·rw[if_neg h,if_neg h,<-ih]
theorem bk_rm (left:Nat->Bool) (rank:Int) (d:List Int):(blkP left d d.length).flatMap (bkC rank)=(blkF left rank d).flatMap rmC:=by
 rw[Qgr,List.flatMap_map];rfl
theorem QiS (left:Nat->Bool) (d:List Int) (n:Nat):(blkP left d n).length<=n:=by
 unfold blkP;exact Nat.le_trans (List.length_filter_le _ _) (by simp)
theorem Qhl {left:Nat->Bool} {d:List Int} {i:Nat}:blkP left d (i+1)=blkP left d i++if left i&&decide (d.getD i 0<0)then[i]else[]:=by
 unfold blkP
 rw[List.range_succ,List.filter_append]
 congr 1
 by_cases h:(left i&&decide (d.getD i 0<0))=true
 ·rw[if_pos h,List.filter_cons,if_pos h];rfl
 ·rw[if_neg h,List.filter_cons,if_neg h];rfl
theorem Qhm {n:Nat} {es:List Ed} {mk:List Nat} {left:Nat->Bool} (hin:InN n es mk) (hnd:mk.Nodup):(pDist n es mk left).length=n:=
 (QhY hin (n+1) 0 _ (Qex hin hnd) (by omega)).1
theorem blocked48 (a : Aut) (u : List Nat) (l : LB) (rank : Int) (hin : InN a.n a.es a.ms) (hnd : a.ms.Nodup) (hl : l.length = a.n) (hn : a.n <= 4096) (hel : a.es.length <= 1000000) (hml : a.ms.length <= 1000000) :
    HSpec Try.prog 36 [pv a u l,.int .i64 rank] .e (.sl 81 0 0 (blkF (lf l) rank (pDist a.n a.es a.ms (lf l))).length 4) (hp [(81,.cells 0 ((blkF (lf l) rank (pDist a.n a.es a.ms (lf l))).flatMap rmC))]):=by
  have hdl:=Qhm (left:=lf l) hin hnd
  have hd:=dist53 a u l hin hnd hl hn hel hml
  generalize pDist a.n a.es a.ms (lf l)=d at*
  rw[<-bk_rm,Qgr,List.length_map,hdl]
  refine HSpec.Qba 100 ok36 rfl ?_
  simp(disch:=first|omega|exact PairsOK.mk rfl|(simp only[lenW]<;>omega)) only[s36,wW,wV,simprocAttr]
  refine ch (HSpec.of_O (b:=80) (by(try simp only[noRefs,Qae,Qag,Qaa,Qaf,Qac,Qad,Qak,Qap,Qab,noRef,Bool.and_self,Bool.and_true])<;>rfl) hd (by repeat (first|exact Fresh.e|exact Fresh.le (by assumption) (by omega)|refine Fresh.set ?_ (by omega) (by omega))) rfl) ?_
  simp(disch:=first|omega|exact PairsOK.mk rfl|(simp only[lenW]<;>omega)) only[wW,wV,simprocAttr]
  refine Qay 110 (fun i:Nat=>[(0,pv a u l),(1,.int .i64 rank),(5,.sl 81 0 0 (blkP (lf l) d i).length 4),(9,.sl 80 0 0 a.n 1),(10,.int .i64 a.n),(11,.int .i64 i)])
    (fun i=>[(80,.cells 0 (ints d)),(81,.cells 0 ((blkP (lf l) d i).flatMap (bkC rank)))])
    (fun i=>i<=a.n) (fun i=>a.n-i) 0 0 120
    (fun _:Unit=>[(5,.sl 81 0 0 (blkP (lf l) d a.n).length 4)])
    (fun _=>[(81,.cells 0 ((blkP (lf l) d a.n).flatMap (bkC rank)))]) (fun _=>True) ?_ (Nat.zero_le _) ?_ ?_
  · exact⟨[(80,.blk 80 0),(81,.nil)],rfl,au0,au5,au6⟩
  · rintro i hi
    by_cases hlt:i<a.n
    · have hst := Qhl (left := lf l) (d := d) (i := i)
      have hol:=QiS (lf l) d i
      generalize blkP (lf l) d i=o at*
      have hil:i<l.length:=by omega
      have hid:i<d.length:=by omega
      have hll:=QlR rank o
      by_cases h1:lf l i=true
      · by_cases h2 : d.getD i 0 < 0
        · rw [if_pos (by rw [h1, decide_eq_true h2]; rfl)] at hst
          simp(disch:=first|omega|exact PairsOK.mk rfl|(simp only[lenW]<;>omega)) only[hlt,QaO hid,Qaq hil,h1,h2,hll,wW,wV,simprocAttr]
          refine⟨i+1,by omega,by omega,?_⟩
          rw[hst,List.flatMap_append,List.length_append]
          exact⟨[(80,.blk 80 0),(81,.blk 81 1)],rfl,au0,au5,au6⟩
        · rw [if_neg (by rw [h1, decide_eq_false h2]; decide), List.append_nil] at hst
          simp(disch:=first|omega|exact PairsOK.mk rfl|(simp only[lenW]<;>omega)) only[hlt,QaO hid,Qaq hil,h1,h2,wW,wV,simprocAttr]
          refine⟨i+1,by omega,by omega,?_⟩
          rw[hst];exact⟨[(80,.blk 80 0),(81,.blk 81 0)],rfl,au0,au5,au6⟩
      · rw [if_neg (by simp [h1]), List.append_nil] at hst
        rw[Bool.not_eq_true]at h1
        simp(disch:=first|omega|exact PairsOK.mk rfl|(simp only[lenW]<;>omega)) only[hlt,QaO hid,Qaq hil,h1,wW,wV,simprocAttr]
        refine⟨i+1,by omega,by omega,?_⟩
        rw[hst];exact⟨[(80,.blk 80 0),(81,.blk 81 0)],rfl,au0,au5,au6⟩
    · have e : i = a.n := by omega
      subst e
      simp(disch:=first|omega|exact PairsOK.mk rfl|(simp only[lenW]<;>omega)) only[hlt,wW,wV,simprocAttr]
      refine⟨(),?_⟩
      exact⟨[(81,.blk 81 0)],rfl,au0,au5,au6⟩
  rintro _ _
  simp(disch:=first|omega|exact PairsOK.mk rfl|(simp only[lenW]<;>omega)) only[wW,wV,simprocAttr]
  exact⟨.inr trivial,_,rfl,⟨[(81,.blk 81 0)],rfl,au0,au5,au6⟩⟩
end Go.AM.SE
namespace Go.AM.SE
open Go.Proofs Go.AM.SD
theorem QbA (l:List Rm):(l.flatMap rmC).length=l.length*4:=QdO (f:=rmC) (k:=4) (fun _=>rfl) l
theorem Qgs (l:List Rm):flatVs (l.flatMap rmC)=true:=by
 induction l with
 |nil=>rfl
 |cons x l ih=>rw[List.flatMap_cons];simp only[rmC,List.cons_append,List.nil_append,flatVs,flatV,Bool.true_and];exact ih
theorem QbL (l:List Int):flatVs (ints l)=true:=by
 induction l with
 |nil=>rfl
 |cons x l ih=>simp only[ints,List.map_cons,flatVs,flatV,Bool.true_and];exact ih
theorem FrzTo.all {h:Heap} {b g len sz:Nat} {cs:List AV} (hb:h.get b=some (.cells g cs)) (hl:cs.length=len*sz):FrzTo h (.sl b g 0 len sz) (.fsl cs len sz):=by
 refine FrzTo.sl hb (by omega) ?_
 rw[List.drop_zero,<-hl,List.take_length]
 exact FrzL.same _
theorem frzP {h:Heap} {a:Aut} {u:List Nat} {l:LB} (h70:h.get 70=some (.cells 0 (pblk a u))) (h71:h.get 71=some (.map 0 (mapF .i64 (backF a.es) (keysR a.es)))) (h72:h.get 72=some (.cells 0 (bls l))) (hl:l.length=a.n):FrzTo h (.ptr 70 0 0) (pv a u l):=by
 refine FrzTo.ptr h70 ?_
 rw[List.drop_zero]
 exact FrzL.cons (FrzTo.same _) (FrzL.cons (FrzTo.same _) (FrzL.cons (FrzTo.same _) (FrzL.cons (FrzTo.same _) (FrzL.cons (FrzTo.same _) (FrzL.cons (FrzTo.mapF h71 fun x _=>FrzTo.same _) (FrzL.cons (FrzTo.all h72 (by rw[Qb3,hl,Nat.mul_one])) FrzL.nil))))))
theorem next35 (a:Aut) (u:List Nat) (l:LB) (rank:Int) (all:Bool) (hin:InN a.n a.es a.ms) (hnd:a.ms.Nodup) (hl:l.length=a.n) (hn:a.n<=4096) (hel:a.es.length<=1000000) (hml:a.ms.length<=1000000) (hul:u.length<=1000000):
    HSpec Try.prog 23 [pv a u l,.int .i64 rank,.bool all] .e (.sl 82 0 0 (pNext a.n a.es a.ms (lf l) u rank all).length 4) (hp [(82,.cells 0 ((pNext a.n a.es a.ms (lf l) u rank all).flatMap rmC))]):=by
  have h1:=lost47 a u l rank (fun e he=>hin.1 e he) hl hel hul
  have h2:=blocked48 a u l rank hin hnd hl hn hel hml
  have hlen:(lostF rank (pLost a.es (lf l) u)).length=(pLost a.es (lf l) u).length:=by unfold lostF;rw[List.length_map]
  unfold pNext
  refine HSpec.Qba 100 ok23 rfl ?_
  simp(disch:=first|omega|exact PairsOK.mk rfl|(simp only[lenW]<;>omega)) only[s23,wW,wV,simprocAttr]
  refine ch (HSpec.of_O (b:=80) (by(try simp only[noRefs,Qae,Qag,Qaa,Qaf,Qac,Qad,Qak,Qab,noRef,Bool.and_self,Bool.and_true])<;>rfl) h1 (by repeat (first|exact Fresh.e|exact Fresh.le (by assumption) (by omega)|refine Fresh.set ?_ (by omega) (by omega))) rfl) ?_
  rw[hlen]
  by_cases h0:0<(pLost a.es (lf l) u).length
  · rw [if_pos (by simp [h0])]
    rw[hlen]
    generalize pLost a.es (lf l) u=o at*
    simp(disch:=first|omega|exact PairsOK.mk rfl|(simp only[lenW]<;>omega)) only[h0,wW,wV,simprocAttr]
    exact⟨.inr trivial,_,rfl,⟨[(82,.blk 80 0)],rfl,au0,au5,au6⟩⟩
  · cases all with
    | false =>
      rw[if_pos (by simp)]
      rw[hlen]
      generalize pLost a.es (lf l) u=o at*
      simp(disch:=first|omega|exact PairsOK.mk rfl|(simp only[lenW]<;>omega)) only[h0,wW,wV,simprocAttr]
      exact⟨.inr trivial,_,rfl,⟨[(82,.blk 80 0)],rfl,au0,au5,au6⟩⟩
    | true =>
      rw[if_neg (by simp[h0])]
      generalize pLost a.es (lf l) u=o at*
      simp(disch:=first|omega|exact PairsOK.mk rfl|(simp only[lenW]<;>omega)) only[h0,wW,wV,simprocAttr]
      refine ch (HSpec.of_O (b:=81) (by(try simp only[noRefs,Qae,Qag,Qaa,Qaf,Qac,Qad,Qak,Qab,noRef,Bool.and_self,Bool.and_true])<;>rfl) h2 (by repeat (first|exact Fresh.e|exact Fresh.le (by assumption) (by omega)|refine Fresh.set ?_ (by omega) (by omega))) rfl) ?_
      generalize blkF (lf l) rank (pDist a.n a.es a.ms (lf l))=q at*
      simp(disch:=first|omega|exact PairsOK.mk rfl|(simp only[lenW]<;>omega)) only[wW,wV,simprocAttr]
      exact⟨.inr trivial,_,rfl,⟨[(82,.blk 81 0)],rfl,au0,au5,au6⟩⟩
theorem WfA.auOk {a:Aut} (h:WfA a) (hel:a.es.length<=1000000):AuOk (au a):=by
 have hal:a.al.length<=32:=QaP 32 a.al (by rw[List.nodup_iff_pairwise_ne];exact h.al.imp fun h=>by omega) h.al5
 have hms:a.ms.length<=a.n:=QaP a.n a.ms h.nd h.msn
 have hn5:=h.n5
 refine{len:=?_,all:=?_,fr:=?_,to:=?_,ev:=?_,up:=?_,alS:=SetOk.nz (n:=32) (fun x hx=>by have:=h.al5 x hx;omega) h.al,msS:=SetOk.nz h.msn h.ms,mslen:=?_,n0:=?_,nm:=?_}
 ·show(a.es.map eg).length<=_;simp;omega
 ·show(nz a.al).length<=_;simp;omega
 ·intro e he
  obtain⟨x,hx,rfl⟩:=List.mem_map.1 he
  have:=h.esn x hx
  show(0:Int)<=x.1/\(x.1:Int)<a.n
  omega
 ·intro e he
  obtain⟨x,hx,rfl⟩:=List.mem_map.1 he
  have:=h.esn x hx
  show(0:Int)<=x.2.2/\(x.2.2:Int)<a.n
  omega
 ·intro e he
  obtain⟨x,hx,rfl⟩:=List.mem_map.1 he
  exact List.mem_map.2 ⟨x.2.1,h.ev x hx,rfl⟩
 ·show (a.es.map eg).Pairwise _
  rw[List.pairwise_map]
  refine h.es.imp fun h=>?_
  show(_:Int)<_\/(_:Int)=_/\(_:Int)<_
  simp only[eg]
  omega
 ·show(nz a.ms).length<=_;simp;omega
 ·show(0:Int)<=(a.n:Int);omega
 ·show(a.n:Int)<=4096;omega
structure QOk (a:Aut) (f u:List Nat):Prop where
 fS:f.Pairwise (· < ·)
 fn:∀x∈f,x<a.n
 uS:u.Pairwise (· < ·)
 un:∀x∈u,x<32
theorem Qa1 {l:List Nat} {n:Nat} (h:l.Pairwise (· < ·)) (hn:∀x∈l,x<n):l.length<=n:=QaP n l (by rw[List.nodup_iff_pairwise_ne];exact h.imp fun h=>by omega) hn
theorem WfA.elK {a:Aut} {k:Nat} (h:WfA a) (hk:∀x∈a.al,x<k):a.es.length<=a.n*k:=by
 have hv:∀e∈a.es,e.2.1<k:=fun e he=>hk _ (h.ev e he)
 have hs:(a.es.map fun e=>e.1*k+e.2.1).Pairwise (· < ·):=by
  rw[List.pairwise_map]
  refine h.es.imp_of_mem fun{x y} hx hy hxy=>?_
  have h1:=hv x hx
  rcases hxy with h2|⟨h2,h3⟩
  ·have := Nat.mul_le_mul_right k (show x.1 + 1 <= y.1 from h2)
   rw[Nat.succ_mul]at this
   omega
  ·rw[h2];omega
 have:=Qa1 hs (n:=a.n*k) fun x hx=>by
  obtain⟨e,he,rfl⟩:=List.mem_map.1 hx
  have h1:=hv e he
  have:=Nat.mul_le_mul_right k (show e.1+1<=a.n from(h.esn e he).1)
  rw[Nat.succ_mul]at this
  show e.1*k+e.2.1<_
  omega
 rwa [List.length_map]at this
theorem WfA.el1 {a:Aut} (h:WfA a):a.es.length<=131072:=by
 have h1:=WfA.elK h h.al5
 have h2:=Nat.mul_le_mul_right 32 h.n5
 omega
theorem check22N (a:Aut) (f u:List Nat) (h:WfA a) (hq:QOk a f u) (hel:a.es.length<=1000000):PSpec Try.prog 7 [aV a,sliN f,sliN u] (.int .i64 0):=by
 have h1:=Qa1 hq.fS hq.fn
 have h2:=Qa1 hq.uS hq.un
 have hn5:=h.n5
 have:=check22 (au a) (nz f) (nz u) (WfA.auOk h hel) (SetOk.nz hq.fn hq.fS) (SetOk.nz hq.un hq.uS) (by simp;omega) (by simp;omega)
 rw[QlF,Qbb,Qbb]at this
 exact this
end Go.AM.SE
namespace Go.AM.SD
def stR (l:List Rm) (k:Nat):Nat:=(l.getD k (rm0 0)).st
def sw (l:List Rm) (j:Nat):List Rm:=(l.set (j+1) (l.getD j (rm0 0))).set j (l.getD (j+1) (rm0 0))
def insJ:Nat->List Rm->List Rm
 |0,l=>l
 |j+1,l=>if stR l (j+1)<stR l j then insJ j (sw l j)else l
def isort (l:List Rm):Nat->List Rm
 |0=>l
 |i+1=>insJ (i+1) (isort l i)
theorem QiT {l:List Rm} {j:Nat}:(sw l j).length=l.length:=by simp[sw]
theorem QiU:∀(j:Nat) (l:List Rm),(insJ j l).length=l.length
 |0,l=>rfl
 |j+1,l=>by
  simp only[insJ];split
  ·rw[QiU j,QiT]
  ·rfl
theorem QbM (l:List Rm):∀i,(isort l i).length=l.length
 |0=>rfl
 |i+1=>by rw[isort,QiU,QbM l i]
theorem Qga {l:List Rm} {j k:Nat} (hj:j+1<l.length):stR (sw l j) k=if k=j then stR l (j+1)else if k=j+1 then stR l j else stR l k:=by
 unfold stR sw
 simp only[List.getD_eq_getElem?_getD,List.getElem?_set,List.length_set]
 by_cases h1:k=j
 ·subst h1
  rw[if_pos rfl,if_pos rfl,if_pos (by omega)];rfl
 ·rw [if_neg (fun e => h1 e.symm), if_neg h1]
  by_cases h2:k=j+1
  ·subst h2
   rw[if_pos rfl,if_pos rfl,if_pos hj];rfl
  ·rw[if_neg (fun e=>h2 e.symm),if_neg h2]
theorem QmV {l:List Rm} {j:Nat} (hj:j+1<l.length):(sw l j).Perm l:=by
 have h1:l.getD j (rm0 0)=l[j]:=by simp[show j<l.length by omega]
 have h2:l.getD (j+1) (rm0 0)=l[j+1]:=by simp[hj]
 unfold sw
 rw[h1,h2]
 exact List.set_set_perm (i:=j+1) (j:=j) hj (by omega)
theorem Qhn:∀(j:Nat) (l:List Rm),j<l.length->(insJ j l).Perm l
 |0,l,_=>List.Perm.refl _
 |j+1,l,h=>by
  simp only[insJ];split
  ·exact(Qhn j (sw l j) (by rw[QiT];omega)).trans (QmV h)
  ·exact List.Perm.refl _
theorem Qgb (l:List Rm):∀i,i<l.length\/i=0->(isort l i).Perm l
 |0,_=>List.Perm.refl _
 |i+1,h=>by
  rw[isort]
  exact(Qhn (i+1) _ (by rw[QbM];omega)).trans (Qgb l i (by omega))
def SrtTo (l:List Rm) (i:Nat):Prop:=∀p q,p<q->q<=i->stR l p<=stR l q
theorem QiV : ∀ (j i : Nat) (l : List Rm), j <= i -> i < l.length -> (∀ p q, p < q -> q <= i -> p ≠ j -> q ≠ j -> stR l p <= stR l q) -> (∀ q, j < q -> q <= i -> stR l j <= stR l q) -> SrtTo (insJ j l) i
  | 0, i, l, hj, hi, h1, h2 => fun p q hpq hq => by
    rw[insJ]
    by_cases e:p=0
    · subst e;exact h2 q hpq hq
    · exact h1 p q hpq hq e (by omega)
  | j + 1, i, l, hj, hi, h1, h2 => by
    rw[insJ]
    split
    · rename_i hlt
      refine QiV j i (sw l j) (by omega) (by rw[QiT];exact hi) (fun p q hpq hq hp hqj=>?_) (fun q hq hqi=>?_)
      · rw [Qga (by omega), Qga (by omega), if_neg hp, if_neg hqj]
        by_cases e1:p=j+1
        · subst e1
          rw[if_pos rfl,if_neg (by omega)]
          exact h1 j q (by omega) hq (by omega) (by omega)
        · rw [if_neg e1]
          by_cases e2:q=j+1
          · subst e2
            rw[if_pos rfl]
            exact h1 p j (by omega) (by omega) e1 (by omega)
          · rw [if_neg e2]
            exact h1 p q hpq hq e1 e2
      · rw [Qga (by omega), Qga (by omega), if_pos rfl, if_neg (by omega)]
        by_cases e:q=j+1
        · subst e;rw[if_pos rfl];omega
        · rw[if_neg e];exact h2 q (by omega) hqi
    · rename_i hge
      intro p q hpq hq
      by_cases e1:q=j+1
      · subst e1
        by_cases e2:p=j
        · subst e2;omega
        · have := h1 p j (by omega) (by omega) (by omega) (by omega)
          omega
      · by_cases e2 : p = j + 1
        · subst e2;exact h2 q hpq hq
        · exact h1 p q hpq hq e2 e1
theorem Qho (l:List Rm):∀i,i<l.length->SrtTo (isort l i) i
 |0,_=>fun p q hpq hq=>by omega
 |i+1,h=>by
  have ih:=Qho l i (by omega)
  rw[isort]
  refine QiV (i+1) (i+1) _ (Nat.le_refl _) (by rw[QbM];exact h) (fun p q hpq hq hp hqi=>ih p q hpq (by omega)) (fun q hq hqi=>by omega)
theorem QkF {l:List Rm} (h:0<l.length):(isort l (l.length-1)).Pairwise fun a b=>a.st<=b.st:=by
 rw[List.pairwise_iff_getElem]
 intro i j hi hj hij
 rw[QbM]at hi hj
 have:=Qho l (l.length-1) (by omega) i j hij (by omega)
 unfold stR at this
 rw[List.getD_eq_getElem?_getD,List.getD_eq_getElem?_getD,List.getElem?_eq_getElem (by rw[QbM];exact hi),List.getElem?_eq_getElem (by rw[QbM];exact hj)]at this
 exact this
def srtR (l:List Rm):List Rm:=isort l (l.length-1)
theorem Qhp (l:List Rm):(srtR l).Perm l:=by
 unfold srtR
 cases l with
 |nil=>exact List.Perm.refl _
 |cons a l=>exact Qgb _ _ (by simp)
theorem Qhq (l:List Rm):(srtR l).Pairwise fun a b=>a.st<=b.st:=by
 unfold srtR
 cases l with
 |nil=>exact List.Pairwise.nil
 |cons a l=>exact QkF (by simp)
theorem Qms (l:List Rm):(srtR l).length=l.length:=QbM l _
end Go.AM.SD
namespace Go.AM
variable {P:Program}
end Go.AM
namespace Go.AM
variable {P:Program}
theorem HSpec.empty {f sz:Nat} {asg:List AV} {h h':Heap} {v:AV} (h1:HSpec P f (.nilsl::asg) h v h') (h2:HSpec P f (.nsl::asg) h v h'):HSpec P f (.fsl [] 0 sz::asg) h v h':=by
 obtain⟨hc,h1⟩:=h1
 obtain⟨_,h2⟩:=h2
 refine⟨hc,fun c w cargs H ha=>?_⟩
 simp only[VRels]at ha
 obtain⟨u,us,e,hv,hr⟩:=ha
 simp only[VRel]at hv
 rcases hv with⟨⟨a,rfl⟩,_⟩|⟨cb,off,cap,C,_,_,rfl,_⟩
 ·cases a with
  |none=>exact h1 c w cargs H (by rw[e];simp only[VRels];exact⟨_,_,rfl,by simp[VRel],hr⟩)
  |some a=>exact h2 c w cargs H (by rw[e];simp only[VRels];exact⟨_,_,rfl,by simp[VRel],hr⟩)
 ·exact h2 c w cargs H (by rw[e];simp only[VRels];exact⟨_,_,rfl,by simp[VRel],hr⟩)
end Go.AM
namespace Go.AM
theorem Qgc {x:Src}:∀{A B:List (Nat×Src)},srcNew x A=true->srcNew x B=true->srcNew x (A++B)=true
 |[],B,_,h=>h
 |(j,t)::A,B,h1,h2=>by
  simp only[srcNew,Bool.and_eq_true]at h1
  rw[List.cons_append]
  simp only[srcNew,Bool.and_eq_true]
  exact⟨h1.1,Qgc h1.2 h2⟩
theorem QdU {s:Nat->Src} {f:Nat->List AV} {ks:List Nat} (hr:okPs 0 (psL s ks) (rowsL f ks)=true):∀{A:List (Nat×Src)} {L:HL},okPs 0 A L=true->(∀p∈A,p.1<300)->
  (∀p∈A,∀b g,p.2= .blk b g->∀k∈ks,∀b' g',s k= .blk b' g'->b≠b')->okPs 0 (A++psL s ks) (L++rowsL f ks)=true
 |[],[],_,_,_=>hr
 |[],_::_,h,_,_=>by simp[okPs]at h
 |_::_,[],h,_,_=>by simp[okPs]at h
 | (b, t) :: A, (b', x) :: L, h, h3, hs => by
  simp only[okPs,Bool.and_eq_true,Bool.or_eq_true]at h
  obtain⟨⟨⟨⟨h1,h2⟩,h4⟩,h5⟩,h6⟩:=h
  rw[List.cons_append,List.cons_append]
  simp only[okPs,Bool.and_eq_true,Bool.or_eq_true]
  refine⟨⟨⟨⟨h1,h2⟩,?_⟩,?_⟩,QdU hr h6 (fun p hp=>h3 p (by simp[hp])) (fun p hp=>hs p (by simp[hp]))⟩
  ·rcases h4 with h4 | ⟨h4, h7⟩
   ·exact .inl h4
   ·refine .inr ⟨h4, Qgc h7 ?_⟩
    cases e:t with
    |nil=>exact QdR
    |blk k g=>exact QbD fun j hj b' g' e'=>hs (b,t) (by simp) k g e j hj b' g' e'
  ·rw [List.all_append, h5, Bool.true_and, List.all_eq_true]
   intro p hp
   have h7:=Qdg hp
   have h8:=h3 (b,t) (by simp)
   have h9:Nat.beq p.1 b=false:=by
    rw[Bool.eq_false_iff]
    intro h9
    have:p.1=b:=by simpa using h9
    omega
   simp[h9]
theorem QdA {s:Nat->Src} {ks:List Nat} {k:Nat} (hk:k∈ks):∀{A:List (Nat×Src)},(∀p∈A,p.1<300)->ow 0 (A++psL s ks) (300+k)=some (s k):=by
 have key:∀{A:List (Nat×Src)},(∀p∈A,p.1<300)->lkS (A++psL s ks) (300+k)=some (s k):=by
  intro A
  induction A with
  |nil=>intro _;exact QfA hk
  |cons p A ih=>
   intro h
   obtain⟨j,t⟩:=p
   have:=h (j,t) (by simp)
   dsimp only at this
   rw[List.cons_append]
   simp only[lkS]
   rw[if_neg (by omega)]
   exact ih fun p hp=>h p (by simp[hp])
 grind [ow]
theorem QdB {m:Nat} {π:Nat->Option Src} {h:Heap} {f g:Nat->AV}:∀{ks:List Nat},(∀k∈ks,Rn m π h (f k) (g k))->RnL m π h (ks.map f) (ks.map g)
 |[],_=>trivial
 |j::ks,hk=>⟨hk j (by simp),QdB fun k h=>hk k (by simp[h])⟩
theorem RnO.agg {h:Heap} {xs ys:List AV} (hL:RnOL h xs ys):RnO h (.agg xs) (.agg ys):=fun _ c w v H hv=>by
 simp only[VRel]at hv⊢
 obtain⟨vs,rfl,hv⟩:=hv
 exact⟨vs,rfl,hL.rels H hv⟩
theorem RnO.nil {h:Heap} {sz:Nat}:RnO h (.fsl [] 0 sz) .nilsl:=fun _ c w v H hv=>by
 simp_all [VRel]
theorem QkG {k:IntKind} {f g:Nat->AV} {l:List Nat} (h:∀x∈l,f x=g x):mapF k f l=mapF k g l:=by
 simp_all [mapF]
theorem QlS {f:Nat->AV} {n i:Nat} {v:AV} (h:i<n):((List.range n).map f).set i v=(List.range n).map (updF f i v):=by
 apply List.ext_getElem?
 intro j
 rw[List.getElem?_set]
 by_cases e:i=j
 ·subst e
  rw[if_pos rfl,if_pos (by simpa using h)]
  simp[updF,h]
 grind [updF]
theorem Qhr {f:Nat->AV} {n i:Nat} (h:i<n):((List.range n).map f)[i]?=some (f i):=by simp[h]
end Go.AM
namespace Go.AM.SE
open Go.Proofs Go.AM.SD
abbrev rmV (r:Rm):AV:= .agg [.int .i64 (r.st:Int),.int .i64 r.rank,.int .i64 (r.reason:Int),.int .i64 r.ev]
theorem Qno {l:List Rm} {i:Nat} {r:Rm} (h:i<l.length):(l.flatMap rmC).take (i*4)++rmC r++(l.flatMap rmC).drop (i*4+4)=(l.set i r).flatMap rmC:=by
 have:∀(l:List Rm) (i:Nat),i<l.length->(l.flatMap rmC).take (i*4)++rmC r++(l.flatMap rmC).drop (i*4+4)=(l.set i r).flatMap rmC:=by
  intro l
  induction l with
  |nil=>intro i h;simp at h
  | cons a l ih =>
   intro i h
   cases i with
   |zero=>simp[List.flatMap_cons,rmC]
   |succ i=>
    have:=ih i (by simpa using h)
    rw[List.set_cons_succ,List.flatMap_cons,List.flatMap_cons,<-this]
    rw[show(i+1)*4=i*4+4 by omega]
    simp[rmC]
 exact this l i h
theorem put_rm' {l:List Rm} {i:Nat} {r:Rm} (h:i<l.length):(l.flatMap rmC).take (i*4)++[.int .i64 (r.st:Int),.int .i64 r.rank,.int .i64 (r.reason:Int),.int .i64 r.ev]++(l.flatMap rmC).drop (i*4+4)=(l.set i r).flatMap rmC:=Qno h
end Go.AM.SE
namespace Go.AM.SE
open Go.Proofs Go.AM.SD
theorem QkH:aEq (.nil 2) false .nilsl .nilsl=some (.bool true):=rfl
theorem QkI:aEq (.nil 2) false .nsl .nilsl=some (.bool false):=rfl
theorem Qjo {P:Program} {N:NM} {n:Nat} {d:Option Nat} {dead:List Nat} {r:List SOper} {T:Tmps} {h:Heap} {Q:QC} {fs:List Fr} {sz bytes b2 g2 off2 len2:Nat}:wM P N (aAppend .dyn n sz bytes (.sl b2 g2 off2 len2 sz) .nsl) d r dead fs n T h Q=
  wA P N (srcB (h.get b2) g2 off2 len2 sz) (some []) g2 len2 0 sz bytes b2 d r dead fs n T h Q:=Qdm
theorem QlT:HSpec Try.prog 40 [.nilsl] .e (.sl 83 0 0 0 1) (hp [(83,.cells 0 [])]):=by
 refine HSpec.Qba 100 ok40 rfl ?_
 simp(disch:=first|omega|(simp only[lenW]<;>omega)) only[s40,QkH,wW,wV,simprocAttr]
 exact⟨.inr trivial,_,rfl,⟨[(83,.nil)],rfl,au0,au5,au6⟩⟩
theorem QlU:HSpec Try.prog 40 [.nsl] .e (.sl 83 0 0 0 1) (hp [(83,.cells 0 [])]):=by
 refine HSpec.Qba 100 ok40 rfl ?_
 simp(disch:=first|omega|(simp only[lenW]<;>omega)) only[s40,QkI,Qjo,wW,wV,simprocAttr]
 exact⟨.inr trivial,_,rfl,⟨[(83,.blk 103 1)],rfl,au0,au5,au6⟩⟩
theorem clone56 (l:List Nat) (hl:l.length<=1000000):HSpec Try.prog 40 [sliN l] .e (.sl 83 0 0 l.length 1) (hp [(83,.cells 0 (ints (nz l)))]):=by
 cases l with
 |nil=>exact HSpec.empty QlT QlU
 |cons x l=>
  refine HSpec.Qba 100 ok40 rfl ?_
  have hq:aEq (.nil 2) false (sliN (x::l)) .nilsl=some (.bool false):=rfl
  have hone:(ints (nz (x::l))).all AV.one=true:=by simp[ints,AV.one]
  generalize x::l=q at*
  simp(disch:=first|omega|(simp only[lenW]<;>omega)) only[s40,hq,hone,wW,wV,simprocAttr]
  exact⟨.inr trivial,_,rfl,⟨[(83,.blk 103 1)],rfl,au0,au5,au6⟩⟩
end Go.AM.SE
namespace Go.AM.SE
open Go.Proofs Go.AM.SD
abbrev frzE (es:List Ed) (left:Nat->Bool):Nat->AV:=fun k=>egsN (sOut es left k)
abbrev rowE (es:List Ed) (left:Nat->Bool):Nat->List AV:=fun k=>(sOut es left k).flatMap edC
abbrev ptrE (es:List Ed) (left:Nat->Bool):Nat->AV:=fun k=> .sl (300+k) 0 0 (sOut es left k).length 3
theorem Qao (es:List Ed) (left:Nat->Bool) (l:List Nat):noRefs (l.map (frzE es left))=true:=Qcu (fun x=>Qaj _) l
theorem Qc9 (l:List Ed):(l.flatMap edC).length=l.length*3:=QdO (f:=edC) (k:=3) (fun _=>rfl) l
theorem QmW (l:List Ed):flatVs (l.flatMap edC)=true:=by
 induction l with
 |nil=>rfl
 |cons x l ih=>rw[List.flatMap_cons];simp only[edC,List.cons_append,List.nil_append,flatVs,flatV,Bool.true_and];exact ih
theorem Qes {es:List Ed} {left:Nat->Bool} {i:Nat} {e:Ed} (h:es[i]?=some e) (v:Nat):sOut (es.take (i+1)) left v=sOut (es.take i) left v++if e.1=v/\left e.2.2=true then[e]else[]:=by
 unfold sOut
 rw[List.take_add_one,h,Option.toList,List.filter_append]
 congr 1
 by_cases h1:e.1=v<;>by_cases h2:left e.2.2=true<;>simp[h1,h2]
theorem Qcp (es:List Ed) (left:Nat->Bool) (v:Nat):(sOut es left v).length<=es.length:=by
 unfold sOut;exact List.length_filter_le _ _
theorem repN (n:Nat):(List.replicate n [AV.nilsl]).flatten=(List.range n).map fun _=>AV.nilsl:=by
 rw[List.map_const',List.length_range]
 induction n with
 |zero=>rfl
 |succ n ih=>rw[List.replicate_succ,List.flatten_cons,ih];rfl
theorem Qmt {es:List Ed} {left:Nat->Bool} {n i:Nat} (h:i<n):((List.range n).map (frzE es left))[i]?=some (egsN (sOut es left i)):=Qhr h
abbrev numF (o:List Nat):Nat->AV:=fun x=> .int .i64 (idx o x:Nat)
def mks (a:Aut) (i:Nat) (o:List Nat):List Nat:=(List.range i).filter fun j=>a.ms.contains (o.getD j 0)
theorem Qgt {a:Aut} {i:Nat} {o:List Nat}:(mks a i o).length<=i:=by
 unfold mks;exact Nat.le_trans (List.length_filter_le _ _) (by simp)
theorem Qkb {a:Aut} {i:Nat} {o t:List Nat} (h:i<=o.length):mks a i (o++t)=mks a i o:=by
 unfold mks
 refine List.filter_congr fun j hj=>?_
 have:=List.mem_range.1 hj
 rw[List.getD_eq_getElem?_getD,List.getD_eq_getElem?_getD,List.getElem?_append_left (by omega)]
theorem QiW {a:Aut} {i v:Nat} {o:List Nat} (h:o[i]?=some v):mks a (i+1) o=mks a i o++if a.ms.contains v then[i]else[]:=by
 unfold mks
 rw[List.range_succ,List.filter_append]
 congr 1
 have:o.getD i 0=v:=by rw[List.getD_eq_getElem?_getD,h];rfl
 rw[List.filter_cons,this];rfl
theorem QlV {i:Nat} {s:OE} {es:List Ed} {j:Nat} {e:Ed} (h:es[j]?=some e):(es.take (j+1)).foldl (sEd i) s=sEd i ((es.take j).foldl (sEd i) s) e:=by
 rw[List.take_add_one,h,Option.toList,List.foldl_append];rfl
theorem QbX {i:Nat}:∀(es:List Ed) (s:OE),(es.foldl (sEd i) s).2.length=s.2.length+es.length
 |[],s=>by simp
 |e::es,s=>by
  rw[List.foldl_cons,QbX es]
  unfold sEd;split<;>simp<;>omega
abbrev ablk (a:Aut):List AV:=[.sl 83 0 0 a.al.length 1,.int .i64 0,.nilsl,.nilsl]
theorem _root_.Go.AM.au7 {p:Prop} (h:p:=by repeat (first|exact RT.nil|(refine RT.cons ?_ ?_; · (first|exact Rn.any|exact Rn.x1 rfl rfl|exact Rn.x2 rfl rfl|exact Rn.x3 rfl rfl|exact Rn.x4 rfl rfl|exact Rn.x5 rfl|exact Rn.x6 rfl|exact Rn.x7 rfl|(refine Rn.slot ?_ ?_;(first|rfl|(rw[Int.natCast_add];rfl));(first|rfl|(simp only[noRef,noRefs,Qah,Bool.and_self,Bool.and_true,Bool.true_and,Qaa,Qaf,Qac,Qad,Qak,Qap,Qab,Qam,Qai,Qal,Qaj,Qae,Qag,Qao];done)))|(refine Rn.fn ?_ ?_<;>(repeat' (first|exact RnL.nil|refine RnL.cons ?_ ?_|exact Rn.same rfl|exact Rn.x6 rfl|exact Rn.x2 rfl rfl|exact Rn.x5 rfl|exact Rn.x1 rfl rfl))))))):p:=h
theorem _root_.Go.AM.au8 {p:Prop} (h:p:=by repeat' (first|exact RB.nil|(refine RnL.same ?_;first|rfl|(simp only[noRef,noRefs,Qah,Bool.and_self,Bool.and_true,Bool.true_and,Qaa,Qaf,Qac,Qad,Qak,Qap,Qab,Qam,Qai,Qal,Qaj,Qae,Qag,Qao];done))|exact RnM.keyM rfl|exact RnL.nil|exact(True.intro:RnM _ _ _ [] [])|refine RnL.cons ?_ ?_|(refine Rn.same ?_;first|rfl|(simp only[noRef,noRefs,Qah,Bool.and_self,Bool.and_true,Bool.true_and,Qaa,Qaf,Qac,Qad,Qak,Qap,Qab,Qam,Qai,Qal,Qaj,Qae,Qag,Qao];done))|exact Rn.x1 rfl rfl|exact Rn.x2 rfl rfl|exact Rn.x3 rfl rfl|exact Rn.x4 rfl rfl|exact Rn.x5 rfl|exact Rn.x6 rfl|exact Rn.x7 rfl|refine RB.newnil rfl rfl ?_|refine RB.cells rfl rfl rfl ?_ ?_|refine RB.map rfl rfl rfl ?_ ?_|refine RB.cellsB rfl rfl ?_ ?_|refine RB.mapB rfl rfl ?_ ?_)):p:=h
theorem super54 (a : Aut) (u : List Nat) (l : LB) (hw : WfA a) (hl : l.length = a.n) (hel : a.es.length <= 1000000) (hul : u.length <= 1000000) :
    FSpec Try.prog 34 [pv a u l] (.tup [aV (restr a (lf l)),sliN (sAll a (lf l)).1]):=by
  have hn5:=hw.n5
  have hal:a.al.length<=32:=QaP 32 a.al (by rw[List.nodup_iff_pairwise_ne];exact hw.al.imp fun h=>by omega) hw.al5
  have hms:a.ms.length<=a.n:=QaP a.n a.ms hw.nd hw.msn
  refine FSpec.of_wS 60 ok34 rfl (by(try simp only[noRefs,Qae,Qag,Qaa,Qaf,Qac,Qad,Qak,Qab,noRef,Bool.and_self,Bool.and_true])<;>rfl) (by simp only[noRef,noRefs,Qaa,Qac];rfl) ?_
  simp(disch:=first|omega|exact PairsOK.mk rfl|(simp only[lenW]<;>omega)) only[s34,wW,wV,simprocAttr]
  refine ch (HSpec.of_O (b:=83) (by(try simp only[noRefs,Qae,Qag,Qaa,Qaf,Qac,Qad,Qak,Qab,noRef,Bool.and_self,Bool.and_true])<;>rfl) (clone56 a.al (by omega)) (by repeat (first|exact Fresh.e|exact Fresh.le (by assumption) (by omega)|refine Fresh.set ?_ (by omega) (by omega))) rfl) ?_
  by_cases h0:a.n=0
  · have e : sAll a (lf l) = ([], []) := by unfold sAll; rw [h0]; rfl
    have h0':(a.n:Int)=0:=by omega
    simp(disch:=first|omega|exact PairsOK.mk rfl|(simp only[lenW]<;>omega)) only[h0',wW,wV,simprocAttr]
    refine⟨.inr trivial,_,rfl,?_⟩
    have hr:restr a (lf l)=⟨a.al,0,[],[]⟩:=by unfold restr;rw[e];rfl
    rw[hr,e]
    exact RnO.tup (RnOL.cons (RnO.agg (RnOL.cons (RnO.slm (g:=0) rfl rfl rfl (QbL _) (by simp[ints])) (RnOL.cons (RnO.flat rfl) (RnOL.cons RnO.nil (RnOL.cons RnO.nil RnOL.nil))))) (RnOL.cons RnO.nil RnOL.nil))
  have h0':¬(a.n:Int)=0:=by omega
  have h0n:(0:Int)<(a.n:Int):=by omega
  have h0l:0<l.length:=by omega
  have hh0:(bls l).head?=some (.bool (lf l 0)):=by have:=Qaq h0l;simpa using this
  by_cases hl0:lf l 0=true
  · have hn' : (a.n : Int) <= 140737488355328 := by omega
    have hn24:(24:Int)*(a.n:Int)<=140737488355328:=by omega
    simp(disch:=first|omega|exact PairsOK.mk rfl|(simp only[lenW]<;>omega)) only[h0',h0n,hh0,hl0,hn',hn24,repN,wW,wV,simprocAttr]
    have hrn:∀k∈List.range a.n,k<1000000:=fun k hk=>by have:=List.mem_range.1 hk;omega
    refine Qay 100 (fun i:Nat=>[(0,pv a u l),(2,.ptr 60 0 0),(4,.ptr 69 0 0),(5,.sl 78 0 0 a.n 1),(48,egsN a.es),(49,.int .i64 a.es.length),(50,.int .i64 i)])
      (fun i=>[(60,.cells 0 [.nilsl,.int .i64 0,.nilsl,.nilsl]),(69,.cells 0 (ablk a)),(83,.cells 0 (ints (nz a.al))),(78,.cells 0 ((List.range a.n).map (ptrE (a.es.take i) (lf l))))]++rowsL (rowE (a.es.take i) (lf l)) (List.range a.n))
      (fun i=>i<=a.es.length) (fun i=>a.es.length-i) 0 0 160
      (fun _:Unit=>[(0,pv a u l),(2,.ptr 60 0 0),(4,.ptr 69 0 0),(5,.sl 78 0 0 a.n 1)])
      (fun _=>[(60,.cells 0 [.nilsl,.int .i64 0,.nilsl,.nilsl]),(69,.cells 0 (ablk a)),(83,.cells 0 (ints (nz a.al))),(78,.cells 0 ((List.range a.n).map (frzE a.es (lf l))))]) (fun _=>True) ?_ (Nat.zero_le _) ?_ ?_
    · refine ⟨[(60, .blk 60 0), (69, .blk 69 0), (83, .blk 83 0), (78, .blk 91 0)] ++ psL (fun _ => .nil) (List.range a.n), QdU (QcD List.nodup_range hrn (fun _ _ _ _ _ b g b' g' h => by cases h)) rfl (by decide) (fun _ _ _ _ _ _ _ b g h => by cases h), RO.zero, ?_, au7⟩
      refine RB.cells rfl rfl rfl (RnL.same rfl) (RB.cells rfl rfl rfl ?_ (RB.cells rfl rfl rfl (RnL.same (Qaa _)) (RB.cells rfl rfl rfl (QdB fun k hk=>Rn.x4 rfl (QdA hk (A:=[(60,.blk 60 0),(69,.blk 69 0),(83,.blk 83 0),(78,.blk 91 0)]) (by decide))) ?_)))
      · repeat' (first|exact RB.nil|(refine RnL.same ?_;first|rfl|(simp only[noRef,noRefs,Qah,Bool.and_self,Bool.and_true,Bool.true_and,Qaa,Qaf,Qac,Qad,Qak,Qap,Qab,Qam,Qai,Qal,Qaj,Qae,Qag,Qao];done))|exact RnM.keyM rfl|exact RnL.nil|exact(True.intro:RnM _ _ _ [] [])|refine RnL.cons ?_ ?_|(refine Rn.same ?_;first|rfl|(simp only[noRef,noRefs,Qah,Bool.and_self,Bool.and_true,Bool.true_and,Qaa,Qaf,Qac,Qad,Qak,Qap,Qab,Qam,Qai,Qal,Qaj,Qae,Qag,Qao];done))|exact Rn.x1 rfl rfl|exact Rn.x2 rfl rfl|exact Rn.x3 rfl rfl|exact Rn.x4 rfl rfl|exact Rn.x5 rfl|exact Rn.x6 rfl|exact Rn.x7 rfl|refine RB.newnil rfl rfl ?_|refine RB.cells rfl rfl rfl ?_ ?_|refine RB.map rfl rfl rfl ?_ ?_|refine RB.cellsB rfl rfl ?_ ?_|refine RB.mapB rfl rfl ?_ ?_)
      · exact Qco fun k hk=>RB.newnil rfl (QdA hk (A:=[(60,.blk 60 0),(69,.blk 69 0),(83,.blk 83 0),(78,.blk 91 0)]) (by decide)) RB.nil
    · rintro i hi
      have hr0:∀b,b<300->(hp (rowsL (rowE (a.es.take i) (lf l)) (List.range a.n))).get b=none:=fun b hb=>QdQ hrn fun k hk=>by omega
      by_cases hlt:i<a.es.length
      · obtain ⟨e, he⟩ := Qax hlt
        obtain⟨hfr,hto⟩:=hw.esn e (List.mem_of_getElem? he)
        have hroom:∀k:Nat,k<a.n->(hp (rowsL (rowE (a.es.take i) (lf l)) (List.range a.n))).get (300+k)=some (.cells 0 (rowE (a.es.take i) (lf l) k)):=fun k hk=>QbJ List.nodup_range hrn (List.mem_range.2 hk)
        have hrow:=hroom e.1 hfr
        have htl:e.2.2<l.length:=by omega
        have hstep:=Qes (left:=lf l) he
        have hpl:=Qcp (a.es.take i) (lf l) e.1
        rw[List.length_take]at hpl
        have hel2:=Qc9 (sOut (a.es.take i) (lf l) e.1)
        by_cases h1:lf l e.2.2=true
        · simp (disch := first | omega | exact PairsOK.mk rfl | (simp only [lenW] <;> omega)) only [List.cons_append, List.nil_append, hlt, QaC he, hr0, hto, Qaq htl, h1, wW, wV, simprocAttr]
          refine QdT [(69,[300+e.1])] rfl ?_ ?_
          · exact QcJ (a:=[103]) (b:=[123,300+e.1,122]) rfl rfl (fun x hx=>by simp only[List.mem_cons,List.not_mem_nil,or_false]at hx⊢;omega) Qhi
          have hfr1:e.1+1<=a.n:=by omega
          simp(disch:=first|omega|exact PairsOK.mk rfl|(simp only[lenW]<;>omega)) only[hr0,hfr,hrow,hel2,Qhr hfr,QlS hfr,List.length_range,hfr1,wW,wV,simprocAttr]
          refine⟨⟨⟨_,rfl,fun b hb=>hb⟩,trivial⟩,i+1,by omega,by omega,?_⟩
          have hsb:∀k b g,(fun k=>if k=e.1 then Src.blk (300+e.1) 1 else Src.blk (300+k) 0) k= .blk b g->b=300+k:=by
            intro k b g h2
            dsimp only at h2
            split at h2<;>cases h2
            · rename_i h3;rw[h3]
            · rfl
          refine⟨[(60,.blk 60 0),(69,.blk 69 0),(83,.blk 83 0),(78,.blk 78 0)]++psL (fun k=>if k=e.1 then Src.blk (300+e.1) 1 else Src.blk (300+k) 0) (List.range a.n),QdU (A:=[(60,.blk 60 0),(69,.blk 69 0),(83,.blk 83 0),(78,.blk 78 0)]) (L:=[(60,_),(69,_),(83,_),(78,_)]) (QcD List.nodup_range hrn (fun k hk j hj hkj b g b' g' h1 h2=>?_)) rfl (by decide) (fun p hp b g hb k hk b' g' h1=>?_),RO.zero,?_,au7⟩
          · have := hsb k b g h1
            have:=hsb j b' g' h2
            omega
          · have h2 := hsb k b' g' h1
            simp only[List.mem_cons,List.not_mem_nil,or_false]at hp
            rcases hp with rfl|rfl|rfl|rfl<;>cases hb<;>omega
          refine RB.cells rfl rfl gg (RnL.same rfl) (RB.cells rfl rfl gg ?_ (RB.cells rfl rfl gg (RnL.same (Qaa _)) (RB.cells rfl rfl gg (QdB fun k hk=>?_) (Qco fun k hk=>?_))))
          · repeat' (first|exact RB.nil|(refine RnL.same ?_;first|rfl|(simp only[noRef,noRefs,Qah,Bool.and_self,Bool.and_true,Bool.true_and,Qaa,Qaf,Qac,Qad,Qak,Qap,Qab,Qam,Qai,Qal,Qaj,Qae,Qag,Qao];done))|exact RnM.keyM rfl|exact RnL.nil|exact(True.intro:RnM _ _ _ [] [])|refine RnL.cons ?_ ?_|(refine Rn.same ?_;first|rfl|(simp only[noRef,noRefs,Qah,Bool.and_self,Bool.and_true,Bool.true_and,Qaa,Qaf,Qac,Qad,Qak,Qap,Qab,Qam,Qai,Qal,Qaj,Qae,Qag,Qao];done))|exact Rn.x1 rfl rfl|exact Rn.x2 rfl rfl|exact Rn.x3 rfl rfl|exact Rn.x4 rfl rfl|exact Rn.x5 rfl|exact Rn.x6 rfl|exact Rn.x7 rfl|refine RB.newnil rfl rfl ?_|refine RB.cells rfl rfl rfl ?_ ?_|refine RB.map rfl rfl rfl ?_ ?_|refine RB.cellsB rfl rfl ?_ ?_|refine RB.mapB rfl rfl ?_ ?_)
          · have hw2 := QdA (s := fun k => if k = e.1 then Src.blk (300 + e.1) 1 else Src.blk (300 + k) 0) hk (A := [(60, .blk 60 0), (69, .blk 69 0), (83, .blk 83 0), (78, .blk 78 0)]) (by decide)
            unfold updF ptrE
            rw[hstep]
            by_cases h2:k=e.1
            · subst h2
              rw[if_pos rfl,if_pos ⟨rfl,h1⟩,List.length_append]
              exact Rn.x1 rfl (by rw[hw2];simp)
            · rw [if_neg h2, if_neg (fun h3 => h2 h3.1.symm), List.append_nil]
              exact Rn.x1 rfl (by rw[hw2];simp[h2])
          · have hw2 := QdA (s := fun k => if k = e.1 then Src.blk (300 + e.1) 1 else Src.blk (300 + k) 0) hk (A := [(60, .blk 60 0), (69, .blk 69 0), (83, .blk 83 0), (78, .blk 78 0)]) (by decide)
            have hkn:=List.mem_range.1 hk
            by_cases h2:k=e.1
            · subst h2
              refine RB.cells rfl (b:=300+e.1) (g:=1) (by rw[hw2];simp) gg (RnL.eq ?_ (Qac _)) RB.nil
              unfold SE.rowE
              rw[hstep,if_pos ⟨rfl,h1⟩,List.flatMap_append];rfl
            · refine RB.cells rfl (b := 300 + k) (g := 0) (ds := SE.rowE (a.es.take i) (lf l) k) (by rw [hw2]; simp [h2]) (by first | (simp (disch := omega) only [QaA, QaE, QaJ, hroom k hkn]; done) | (simp (disch := omega) only [QaA, QaE, QaJ, hroom k hkn]; rfl)) (RnL.eq ?_ (Qac _)) RB.nil
              unfold SE.rowE
              rw[hstep,if_neg (fun h3=>h2 h3.1.symm),List.append_nil]
        · rw [Bool.not_eq_true] at h1
          simp(disch:=first|omega|exact PairsOK.mk rfl|(simp only[lenW]<;>omega)) only[List.cons_append,List.nil_append,hlt,QaC he,hr0,hto,Qaq htl,h1,wW,wV,simprocAttr]
          refine⟨i+1,by omega,by omega,?_⟩
          have hsb:∀k b g,(fun k=>Src.blk (300+k) 0) k= .blk b g->b=300+k:=by
            intro k b g h2;cases h2;rfl
          have hno:∀k,sOut (a.es.take (i+1)) (lf l) k=sOut (a.es.take i) (lf l) k:=fun k=>by rw[hstep,if_neg (by rw[h1];simp),List.append_nil]
          refine⟨[(60,.blk 60 0),(69,.blk 69 0),(83,.blk 83 0),(78,.blk 78 0)]++psL (fun k=>Src.blk (300+k) 0) (List.range a.n),QdU (A:=[(60,.blk 60 0),(69,.blk 69 0),(83,.blk 83 0),(78,.blk 78 0)]) (L:=[(60,_),(69,_),(83,_),(78,_)]) (QcD List.nodup_range hrn (fun k hk j hj hkj b g b' g' h1 h2=>?_)) rfl (by decide) (fun p hp b g hb k hk b' g' h1=>?_),RO.zero,?_,au7⟩
          · have := hsb k b g h1
            have:=hsb j b' g' h2
            omega
          · have h2 := hsb k b' g' h1
            simp only[List.mem_cons,List.not_mem_nil,or_false]at hp
            rcases hp with rfl|rfl|rfl|rfl<;>cases hb<;>omega
          refine RB.cells rfl rfl gg (RnL.same rfl) (RB.cells rfl rfl gg ?_ (RB.cells rfl rfl gg (RnL.same (Qaa _)) (RB.cells rfl rfl gg (QdB fun k hk=>?_) (Qco fun k hk=>?_))))
          · repeat' (first|exact RB.nil|(refine RnL.same ?_;first|rfl|(simp only[noRef,noRefs,Qah,Bool.and_self,Bool.and_true,Bool.true_and,Qaa,Qaf,Qac,Qad,Qak,Qap,Qab,Qam,Qai,Qal,Qaj,Qae,Qag,Qao];done))|exact RnM.keyM rfl|exact RnL.nil|exact(True.intro:RnM _ _ _ [] [])|refine RnL.cons ?_ ?_|(refine Rn.same ?_;first|rfl|(simp only[noRef,noRefs,Qah,Bool.and_self,Bool.and_true,Bool.true_and,Qaa,Qaf,Qac,Qad,Qak,Qap,Qab,Qam,Qai,Qal,Qaj,Qae,Qag,Qao];done))|exact Rn.x1 rfl rfl|exact Rn.x2 rfl rfl|exact Rn.x3 rfl rfl|exact Rn.x4 rfl rfl|exact Rn.x5 rfl|exact Rn.x6 rfl|exact Rn.x7 rfl|refine RB.newnil rfl rfl ?_|refine RB.cells rfl rfl rfl ?_ ?_|refine RB.map rfl rfl rfl ?_ ?_|refine RB.cellsB rfl rfl ?_ ?_|refine RB.mapB rfl rfl ?_ ?_)
          · have hw2 := QdA (s := fun k => Src.blk (300 + k) 0) hk (A := [(60, .blk 60 0), (69, .blk 69 0), (83, .blk 83 0), (78, .blk 78 0)]) (by decide)
            unfold ptrE
            rw[hno]
            exact Rn.x1 rfl hw2
          · have hw2 := QdA (s := fun k => Src.blk (300 + k) 0) hk (A := [(60, .blk 60 0), (69, .blk 69 0), (83, .blk 83 0), (78, .blk 78 0)]) (by decide)
            have hkn:=List.mem_range.1 hk
            refine RB.cells rfl (b:=300+k) (g:=0) (ds:=SE.rowE (a.es.take i) (lf l) k) hw2 (by first|(simp(disch:=omega) only[QaA,QaE,QaJ,hroom k hkn];done)|(simp(disch:=omega) only[QaA,QaE,QaJ,hroom k hkn];rfl)) (RnL.eq ?_ (Qac _)) RB.nil
            unfold SE.rowE
            rw[hno]
      · have e : i = a.es.length := by omega
        subst e
        simp(disch:=first|omega|exact PairsOK.mk rfl|(simp only[lenW]<;>omega)) only[List.cons_append,List.nil_append,hlt,wW,wV,simprocAttr]
        refine⟨(),[(60,.blk 60 0),(69,.blk 69 0),(83,.blk 83 0),(78,.blk 78 0)],rfl,RO.zero,?_,au7⟩
        refine RB.cells rfl rfl gg (RnL.same rfl) (RB.cells rfl rfl gg ?_ (RB.cells rfl rfl gg (RnL.same (Qaa _)) (RB.cells rfl rfl gg (QdB fun k hk=>?_) RB.nil)))
        · repeat' (first|exact RB.nil|(refine RnL.same ?_;first|rfl|(simp only[noRef,noRefs,Qah,Bool.and_self,Bool.and_true,Bool.true_and,Qaa,Qaf,Qac,Qad,Qak,Qap,Qab,Qam,Qai,Qal,Qaj,Qae,Qag,Qao];done))|exact RnM.keyM rfl|exact RnL.nil|exact(True.intro:RnM _ _ _ [] [])|refine RnL.cons ?_ ?_|(refine Rn.same ?_;first|rfl|(simp only[noRef,noRefs,Qah,Bool.and_self,Bool.and_true,Bool.true_and,Qaa,Qaf,Qac,Qad,Qak,Qap,Qab,Qam,Qai,Qal,Qaj,Qae,Qag,Qao];done))|exact Rn.x1 rfl rfl|exact Rn.x2 rfl rfl|exact Rn.x3 rfl rfl|exact Rn.x4 rfl rfl|exact Rn.x5 rfl|exact Rn.x6 rfl|exact Rn.x7 rfl|refine RB.newnil rfl rfl ?_|refine RB.cells rfl rfl rfl ?_ ?_|refine RB.map rfl rfl rfl ?_ ?_|refine RB.cellsB rfl rfl ?_ ?_|refine RB.mapB rfl rfl ?_ ?_)
        · have hkn := List.mem_range.1 hk
          have hr:=QbJ (f:=SE.rowE a.es (lf l)) List.nodup_range hrn hk
          have b1:Nat.beq (300+k) 60=false:=by rw[Bool.eq_false_iff];simp;try omega
          have b2:Nat.beq (300+k) 69=false:=by rw[Bool.eq_false_iff];simp;try omega
          have b3:Nat.beq (300+k) 83=false:=by rw[Bool.eq_false_iff];simp;try omega
          have b4:Nat.beq (300+k) 78=false:=by rw[Bool.eq_false_iff];simp;try omega
          exact Rn.fzm (by first|(simp(disch:=omega) only[QaA,QaE,QaJ,hr];done)|(simp(disch:=omega) only[QaA,QaE,QaJ,hr];rfl)) (by simp[srcNew,b1,b2,b3,b4]) (by simp) rfl (Qc9 _) (RnL.same (Qac _))
    rintro _ _
    simp(disch:=first|omega|exact PairsOK.mk rfl|(simp only[lenW]<;>omega)) only[wW,wV,simprocAttr]
    refine Qdf ?_
    simp(disch:=first|omega|exact PairsOK.mk rfl|(simp only[lenW]<;>omega)) only[wW,wV,simprocAttr]
    refine Qgm (x:=0) (f:=numF [0]) (l:=[]) (by simp) (by decide) ?_
    simp(disch:=first|omega|exact PairsOK.mk rfl|(simp only[lenW]<;>omega)) only[wW,wV,simprocAttr]
    have hms0:mks a 0 [0]=[]:=rfl
    have hsi:SI a.n a.es (lf l) 0 (([0],[]):OE):=by
      refine⟨⟨by simp,fun x hx=>by simp at hx;omega⟩,fun x hx=>by simp at hx;subst hx;exact hl0,Nat.zero_le _,fun j v hj=>by omega,by simp⟩
    have hq0:sQ a.es (lf l) (a.n+1) 0 ([0],[])=sAll a (lf l):=by
      unfold sAll
      rw[hl0,Bool.and_true,if_pos (by simp;omega)]
    refine Qay 180 (fun t:Nat×OE=>[(0,pv a u l),(2,.ptr 60 0 0),(4,.ptr 69 0 0),(5,.sl 78 0 0 a.n 1),(8,.map 74 0),(9,.sl 75 0 0 t.2.1.length 1),(10,.int .i64 t.1)])
      (fun t=>[(60,.cells 0 [.nilsl,.int .i64 0,.nilsl,.nilsl]),(69,.cells 0 [.sl 83 0 0 a.al.length 1,.int .i64 0,.sl 77 0 0 (mks a t.1 t.2.1).length 1,.sl 76 0 0 t.2.2.length 3]),(83,.cells 0 (ints (nz a.al))),(78,.cells 0 ((List.range a.n).map (frzE a.es (lf l)))),
        (74,.map 0 (mapF .i64 (numF t.2.1) t.2.1)),(75,.cells 0 (ints (nz t.2.1))),(76,.cells 0 (t.2.2.flatMap edC)),(77,.cells 0 (ints (nz (mks a t.1 t.2.1))))])
      (fun t=>t.1<=a.n/\SI a.n a.es (lf l) t.1 t.2/\t.2.2.length<=t.1*1000000/\sQ a.es (lf l) (a.n+1-t.1) t.1 t.2=sAll a (lf l)) (fun t=>a.n+1-t.1) (0,([0],[])) 2 260
      (fun _:Unit=>[(2,.ptr 60 0 0),(4,.ptr 69 0 0),(9,.sl 75 0 0 (sAll a (lf l)).1.length 1)])
      (fun _=>[(60,.cells 0 [.nilsl,.int .i64 0,.nilsl,.nilsl]),(69,.cells 0 [.sl 83 0 0 a.al.length 1,.int .i64 0,.sl 77 0 0 (restr a (lf l)).ms.length 1,.sl 76 0 0 (restr a (lf l)).es.length 3]),(83,.cells 0 (ints (nz a.al))),
        (75,.cells 0 (ints (nz (sAll a (lf l)).1))),(76,.cells 0 ((restr a (lf l)).es.flatMap edC)),(77,.cells 0 (ints (nz (restr a (lf l)).ms)))]) (fun _=>True) ?_ ⟨Nat.zero_le _,hsi,Nat.zero_le _,hq0⟩ ?_ ?_
    · dsimp only
      rw[hms0]
      refine⟨[(60,.blk 60 0),(69,.blk 69 0),(83,.blk 83 0),(78,.blk 78 0),(74,.blk 160 0),(75,.blk 164 0),(76,.nil),(77,.nil)],rfl,RO.zero,?_,au7⟩
      repeat' (first|exact RB.nil|(refine RnL.same ?_;first|rfl|(simp only[noRef,noRefs,Qah,Bool.and_self,Bool.and_true,Bool.true_and,Qaa,Qaf,Qac,Qad,Qak,Qap,Qab,Qam,Qai,Qal,Qaj,Qae,Qag,Qao];done))|exact RnM.keyM rfl|exact RnL.nil|exact(True.intro:RnM _ _ _ [] [])|refine RnL.cons ?_ ?_|(refine Rn.same ?_;first|rfl|(simp only[noRef,noRefs,Qah,Bool.and_self,Bool.and_true,Bool.true_and,Qaa,Qaf,Qac,Qad,Qak,Qap,Qab,Qam,Qai,Qal,Qaj,Qae,Qag,Qao];done))|exact Rn.x1 rfl rfl|exact Rn.x2 rfl rfl|exact Rn.x3 rfl rfl|exact Rn.x4 rfl rfl|exact Rn.x5 rfl|exact Rn.x6 rfl|exact Rn.x7 rfl|refine RB.newnil rfl rfl ?_|refine RB.cells rfl rfl rfl ?_ ?_|refine RB.map rfl rfl rfl ?_ ?_|refine RB.cellsB rfl rfl ?_ ?_|refine RB.mapB rfl rfl ?_ ?_)
      refine RnM.mapF (l:=[0]) fun x hx=>?_
      have:x=0:=by simpa using hx
      subst this
      exact Rn.same rfl
    · rintro ⟨i, s⟩ ⟨hi, hsi, hsl, hq⟩
      dsimp only at hi hsi hsl hq⊢
      have hfl:=hsi.fi.len
      have hile:=hsi.le
      by_cases hlt:i<s.1.length
      · obtain ⟨v, hv⟩ := Qax hlt
        have hvn:=hsi.fi.lt v (List.mem_of_getElem? hv)
        have hin':i<a.n:=by omega
        have hsi':=hsi.step hw.esn hv
        have hq':sQ a.es (lf l) (a.n+1-(i+1)) (i+1) (sRow a.es (lf l) i v s)=sAll a (lf l):=by
          rw[<-hq,show a.n+1-i=(a.n+1-(i+1))+1 by omega]
          simp only[sQ,hv]
        have hol:=Qcp a.es (lf l) v
        have hrow:=fun j=>Qcl (n:=a.n) (left:=lf l) i ((sOut a.es (lf l) v).take j) s (fun e he=>⟨(hw.esn e (QaQ.1 (List.mem_of_mem_take he)).1).2,(QaQ.1 (List.mem_of_mem_take he)).2.2⟩) hsi.fi hsi.lft
        have hmsl:=@Qgt a i s.1
        have hmsk:∀j,mks a i (((sOut a.es (lf l) v).take j).foldl (sEd i) s).1=mks a i s.1:=fun j=>by
          obtain⟨_,_,⟨t,ht⟩,_⟩:=hrow j
          rw[ht,Qkb hile]
        generalize hmm:mks a i s.1=M at*
        simp(disch:=first|omega|exact PairsOK.mk rfl|(simp only[lenW]<;>omega)) only[hlt,QaR (nz_at hv),hvn,Qmt hvn,wW,wV,simprocAttr]
        refine Qay 300 (fun j:Nat=>[(90,egsN (sOut a.es (lf l) v)),(91,.int .i64 (sOut a.es (lf l) v).length),(0,pv a u l),(2,.ptr 60 0 0),(4,.ptr 69 0 0),(5,.sl 78 0 0 a.n 1),(8,.map 74 0),(9,.sl 75 0 0 (((sOut a.es (lf l) v).take j).foldl (sEd i) s).1.length 1),(10,.int .i64 i),(92,.int .i64 j)])
          (fun j=>[(60,.cells 0 [.nilsl,.int .i64 0,.nilsl,.nilsl]),(69,.cells 0 [.sl 83 0 0 a.al.length 1,.int .i64 0,.sl 77 0 0 M.length 1,.sl 76 0 0 (((sOut a.es (lf l) v).take j).foldl (sEd i) s).2.length 3]),(83,.cells 0 (ints (nz a.al))),(78,.cells 0 ((List.range a.n).map (frzE a.es (lf l)))),
            (74,.map 0 (mapF .i64 (numF (((sOut a.es (lf l) v).take j).foldl (sEd i) s).1) (((sOut a.es (lf l) v).take j).foldl (sEd i) s).1)),(75,.cells 0 (ints (nz (((sOut a.es (lf l) v).take j).foldl (sEd i) s).1))),(76,.cells 0 ((((sOut a.es (lf l) v).take j).foldl (sEd i) s).2.flatMap edC)),(77,.cells 0 (ints (nz M)))])
          (fun j=>j<=(sOut a.es (lf l) v).length) (fun j=>(sOut a.es (lf l) v).length-j) 0 4 400
          (fun _:Unit=>[(0,pv a u l),(2,.ptr 60 0 0),(4,.ptr 69 0 0),(5,.sl 78 0 0 a.n 1),(8,.map 74 0),(9,.sl 75 0 0 (sRow a.es (lf l) i v s).1.length 1),(10,.int .i64 i)])
          (fun _=>[(60,.cells 0 [.nilsl,.int .i64 0,.nilsl,.nilsl]),(69,.cells 0 [.sl 83 0 0 a.al.length 1,.int .i64 0,.sl 77 0 0 M.length 1,.sl 76 0 0 (sRow a.es (lf l) i v s).2.length 3]),(83,.cells 0 (ints (nz a.al))),(78,.cells 0 ((List.range a.n).map (frzE a.es (lf l)))),
            (74,.map 0 (mapF .i64 (numF (sRow a.es (lf l) i v s).1) (sRow a.es (lf l) i v s).1)),(75,.cells 0 (ints (nz (sRow a.es (lf l) i v s).1))),(76,.cells 0 ((sRow a.es (lf l) i v s).2.flatMap edC)),(77,.cells 0 (ints (nz M)))]) (fun _=>True) ?_ (Nat.zero_le _) ?_ ?_
        · refine ⟨[(60, .blk 60 0), (69, .blk 69 0), (83, .blk 83 0), (78, .blk 78 0), (74, .blk 74 0), (75, .blk 75 0), (76, .blk 76 0), (77, .blk 77 0)], rfl, au0, ?_, au7⟩
          repeat' (first|exact RB.nil|(refine RnL.same ?_;first|rfl|(simp only[noRef,noRefs,Qah,Bool.and_self,Bool.and_true,Bool.true_and,Qaa,Qaf,Qac,Qad,Qak,Qap,Qab,Qam,Qai,Qal,Qaj,Qae,Qag,Qao];done))|exact RnM.keyM rfl|exact RnL.nil|exact(True.intro:RnM _ _ _ [] [])|refine RnL.cons ?_ ?_|(refine Rn.same ?_;first|rfl|(simp only[noRef,noRefs,Qah,Bool.and_self,Bool.and_true,Bool.true_and,Qaa,Qaf,Qac,Qad,Qak,Qap,Qab,Qam,Qai,Qal,Qaj,Qae,Qag,Qao];done))|exact Rn.x1 rfl rfl|exact Rn.x2 rfl rfl|exact Rn.x3 rfl rfl|exact Rn.x4 rfl rfl|exact Rn.x5 rfl|exact Rn.x6 rfl|exact Rn.x7 rfl|refine RB.newnil rfl rfl ?_|refine RB.cells rfl rfl rfl ?_ ?_|refine RB.map rfl rfl rfl ?_ ?_|refine RB.cellsB rfl rfl ?_ ?_|refine RB.mapB rfl rfl ?_ ?_)
          exact RnM.mapF fun x _=>Rn.same rfl
        · rintro j hj
          by_cases hjl:j<(sOut a.es (lf l) v).length
          · obtain ⟨e, he⟩ := Qax hjl
            have hem:=QaQ.1 (List.mem_of_getElem? he)
            have hto:=(hw.esn e hem.1).2
            obtain⟨k1,_,_,_,_⟩:=hrow j
            have hfi:=k1.len
            have hnd:=k1.nd
            have hstep:=QlV (i:=i) (s:=s) he
            have hsl2:=QbX (i:=i) ((sOut a.es (lf l) v).take j) s
            rw[List.length_take]at hsl2
            generalize ((sOut a.es (lf l) v).take j).foldl (sEd i) s=t at*
            have hel2:=Qc9 t.2
            by_cases hc:e.2.2∈t.1
            · have h2 : sEd i t e = (t.1, t.2 ++ [(i, e.2.1, idx t.1 e.2.2)]) := if_pos (by simpa using hc)
              rw[h2]at hstep
              simp(disch:=first|omega|exact PairsOK.mk rfl|(simp only[lenW]<;>omega)) only[hjl,QaC he,wW,wV,simprocAttr]
              refine Qdn ?_
              simp(disch:=first|omega|exact PairsOK.mk rfl|(simp only[lenW]<;>omega)) only[wW,wV,simprocAttr]
              refine wK_in hc ?_
              simp(disch:=first|omega|exact PairsOK.mk rfl|(simp only[lenW]<;>omega)) only[hel2,wW,wV,simprocAttr]
              refine⟨j+1,by omega,by omega,?_⟩
              rw[hstep,List.flatMap_append,List.length_append]
              refine⟨[(60,.blk 60 0),(69,.blk 69 0),(83,.blk 83 0),(78,.blk 78 0),(74,.blk 74 0),(75,.blk 75 0),(76,.blk 76 1),(77,.blk 77 0)],rfl,au0,?_,au7⟩
              repeat' (first|exact RB.nil|(refine RnL.same ?_;first|rfl|(simp only[noRef,noRefs,Qah,Bool.and_self,Bool.and_true,Bool.true_and,Qaa,Qaf,Qac,Qad,Qak,Qap,Qab,Qam,Qai,Qal,Qaj,Qae,Qag,Qao];done))|exact RnM.keyM rfl|exact RnL.nil|exact(True.intro:RnM _ _ _ [] [])|refine RnL.cons ?_ ?_|(refine Rn.same ?_;first|rfl|(simp only[noRef,noRefs,Qah,Bool.and_self,Bool.and_true,Bool.true_and,Qaa,Qaf,Qac,Qad,Qak,Qap,Qab,Qam,Qai,Qal,Qaj,Qae,Qag,Qao];done))|exact Rn.x1 rfl rfl|exact Rn.x2 rfl rfl|exact Rn.x3 rfl rfl|exact Rn.x4 rfl rfl|exact Rn.x5 rfl|exact Rn.x6 rfl|exact Rn.x7 rfl|refine RB.newnil rfl rfl ?_|refine RB.cells rfl rfl rfl ?_ ?_|refine RB.map rfl rfl rfl ?_ ?_|refine RB.cellsB rfl rfl ?_ ?_|refine RB.mapB rfl rfl ?_ ?_)
              exact RnM.mapF fun x _=>Rn.same rfl
            · have h2 : sEd i t e = (t.1 ++ [e.2.2], t.2 ++ [(i, e.2.1, t.1.length)]) := if_neg (by simpa using hc)
              rw[h2]at hstep
              simp(disch:=first|omega|exact PairsOK.mk rfl|(simp only[lenW]<;>omega)) only[hjl,QaC he,wW,wV,simprocAttr]
              refine Qdn ?_
              simp(disch:=first|omega|exact PairsOK.mk rfl|(simp only[lenW]<;>omega)) only[wW,wV,simprocAttr]
              refine QlC hc ?_
              simp(disch:=first|omega|exact PairsOK.mk rfl|(simp only[lenW]<;>omega)) only[hel2,wW,wV,simprocAttr]
              refine Qdf ?_
              simp(disch:=first|omega|exact PairsOK.mk rfl|(simp only[lenW]<;>omega)) only[wW,wV,simprocAttr]
              refine Qgm hc (by decide) ?_
              have hm:mapF .i64 (updF (numF t.1) e.2.2 (.int .i64 (t.1.length:Int))) (t.1++[e.2.2])=mapF .i64 (numF (t.1++[e.2.2])) (t.1++[e.2.2]):=by
                refine QkG fun x hx=>?_
                unfold updF numF
                split
                · rename_i hx2;subst hx2;rw[Qjy hc]
                · rename_i hx2
                  have:x∈t.1:=by
                    rcases List.mem_append.1 hx with h3|h3
                    · exact h3
                    · exact absurd (by simpa using h3) hx2
                  rw[Qey this]
              simp(disch:=first|omega|exact PairsOK.mk rfl|(simp only[lenW]<;>omega)) only[hm,hel2,wW,wV,simprocAttr]
              refine⟨j+1,by omega,by omega,?_⟩
              rw[hstep,List.flatMap_append,List.length_append]
              dsimp only
              rw[List.length_append,Qa2,QaK]
              refine⟨[(60,.blk 60 0),(69,.blk 69 0),(83,.blk 83 0),(78,.blk 78 0),(74,.blk 74 0),(75,.blk 75 1),(76,.blk 76 1),(77,.blk 77 0)],rfl,au0,?_,au7⟩
              repeat' (first|exact RB.nil|(refine RnL.same ?_;first|rfl|(simp only[noRef,noRefs,Qah,Bool.and_self,Bool.and_true,Bool.true_and,Qaa,Qaf,Qac,Qad,Qak,Qap,Qab,Qam,Qai,Qal,Qaj,Qae,Qag,Qao];done))|exact RnM.keyM rfl|exact RnL.nil|exact(True.intro:RnM _ _ _ [] [])|refine RnL.cons ?_ ?_|(refine Rn.same ?_;first|rfl|(simp only[noRef,noRefs,Qah,Bool.and_self,Bool.and_true,Bool.true_and,Qaa,Qaf,Qac,Qad,Qak,Qap,Qab,Qam,Qai,Qal,Qaj,Qae,Qag,Qao];done))|exact Rn.x1 rfl rfl|exact Rn.x2 rfl rfl|exact Rn.x3 rfl rfl|exact Rn.x4 rfl rfl|exact Rn.x5 rfl|exact Rn.x6 rfl|exact Rn.x7 rfl|refine RB.newnil rfl rfl ?_|refine RB.cells rfl rfl rfl ?_ ?_|refine RB.map rfl rfl rfl ?_ ?_|refine RB.cellsB rfl rfl ?_ ?_|refine RB.mapB rfl rfl ?_ ?_)
              exact RnM.mapF fun x _=>Rn.same rfl
          · have e : j = (sOut a.es (lf l) v).length := by omega
            subst e
            simp(disch:=first|omega|exact PairsOK.mk rfl|(simp only[lenW]<;>omega)) only[hjl,wW,wV,simprocAttr]
            refine⟨(),?_⟩
            refine⟨[(60,.blk 60 0),(69,.blk 69 0),(83,.blk 83 0),(78,.blk 78 0),(74,.blk 74 0),(75,.blk 75 0),(76,.blk 76 0),(77,.blk 77 0)],rfl,au0,?_,au7⟩
            repeat' (first|exact RB.nil|(refine RnL.same ?_;first|rfl|(simp only[noRef,noRefs,Qah,Bool.and_self,Bool.and_true,Bool.true_and,Qaa,Qaf,Qac,Qad,Qak,Qap,Qab,Qam,Qai,Qal,Qaj,Qae,Qag,Qao];done))|exact RnM.keyM rfl|exact RnL.nil|exact(True.intro:RnM _ _ _ [] [])|refine RnL.cons ?_ ?_|(refine Rn.same ?_;first|rfl|(simp only[noRef,noRefs,Qah,Bool.and_self,Bool.and_true,Bool.true_and,Qaa,Qaf,Qac,Qad,Qak,Qap,Qab,Qam,Qai,Qal,Qaj,Qae,Qag,Qao];done))|exact Rn.x1 rfl rfl|exact Rn.x2 rfl rfl|exact Rn.x3 rfl rfl|exact Rn.x4 rfl rfl|exact Rn.x5 rfl|exact Rn.x6 rfl|exact Rn.x7 rfl|refine RB.newnil rfl rfl ?_|refine RB.cells rfl rfl rfl ?_ ?_|refine RB.map rfl rfl rfl ?_ ?_|refine RB.cellsB rfl rfl ?_ ?_|refine RB.mapB rfl rfl ?_ ?_)
            exact RnM.mapF fun x _=>Rn.same rfl
        rintro _ _
        have hfull:=hmsk (sOut a.es (lf l) v).length
        rw[List.take_length]at hfull
        have hfull:mks a i (sRow a.es (lf l) i v s).1=M:=hfull
        have hv':(sRow a.es (lf l) i v s).1[i]?=some v:=by
          obtain⟨_,_,⟨t,ht⟩,_⟩:=hrow (sOut a.es (lf l) v).length
          rw[List.take_length]at ht
          have ht:(sRow a.es (lf l) i v s).1=s.1++t:=ht
          rw[ht,List.getElem?_append_left hlt];exact hv
        have hmn:=QiW (a:=a) hv'
        rw[hfull]at hmn
        have hsl3:(sRow a.es (lf l) i v s).2.length=s.2.length+(sOut a.es (lf l) v).length:=QbX _ _
        have hfi':=hsi'.fi.len
        have hii:i<(sRow a.es (lf l) i v s).1.length:=(List.getElem?_eq_some_iff.1 hv').1
        generalize hrr:sRow a.es (lf l) i v s=R at*
        have hc:=contains62 (nz a.ms) v (by simp;omega)
        rw[Qbb,Qc7]at hc
        by_cases hmv:a.ms.contains v=true
        · rw [if_pos hmv] at hmn
          rw[hmv]at hc
          simp(disch:=first|omega|exact PairsOK.mk rfl|(simp only[lenW]<;>omega)) only[hii,QaR (nz_at hv'),wW,wV,simprocAttr]
          refine cp hc ?_
          simp(disch:=first|omega|exact PairsOK.mk rfl|(simp only[lenW]<;>omega)) only[wW,wV,simprocAttr]
          refine⟨(i+1,R),by dsimp only;omega,⟨hin',hsi',by dsimp only;omega,hq'⟩,?_⟩
          dsimp only
          rw[hmn,List.length_append,Qa2,QaK]
          refine⟨[(60,.blk 60 0),(69,.blk 69 0),(83,.blk 83 0),(78,.blk 78 0),(74,.blk 74 0),(75,.blk 75 0),(76,.blk 76 0),(77,.blk 77 1)],rfl,au0,?_,au7⟩
          repeat' (first|exact RB.nil|(refine RnL.same ?_;first|rfl|(simp only[noRef,noRefs,Qah,Bool.and_self,Bool.and_true,Bool.true_and,Qaa,Qaf,Qac,Qad,Qak,Qap,Qab,Qam,Qai,Qal,Qaj,Qae,Qag,Qao];done))|exact RnM.keyM rfl|exact RnL.nil|exact(True.intro:RnM _ _ _ [] [])|refine RnL.cons ?_ ?_|(refine Rn.same ?_;first|rfl|(simp only[noRef,noRefs,Qah,Bool.and_self,Bool.and_true,Bool.true_and,Qaa,Qaf,Qac,Qad,Qak,Qap,Qab,Qam,Qai,Qal,Qaj,Qae,Qag,Qao];done))|exact Rn.x1 rfl rfl|exact Rn.x2 rfl rfl|exact Rn.x3 rfl rfl|exact Rn.x4 rfl rfl|exact Rn.x5 rfl|exact Rn.x6 rfl|exact Rn.x7 rfl|refine RB.newnil rfl rfl ?_|refine RB.cells rfl rfl rfl ?_ ?_|refine RB.map rfl rfl rfl ?_ ?_|refine RB.cellsB rfl rfl ?_ ?_|refine RB.mapB rfl rfl ?_ ?_)
          exact RnM.mapF fun x _=>Rn.same rfl
        · rw [if_neg hmv, List.append_nil] at hmn
          rw[Bool.not_eq_true]at hmv
          rw[hmv]at hc
          simp(disch:=first|omega|exact PairsOK.mk rfl|(simp only[lenW]<;>omega)) only[hii,QaR (nz_at hv'),wW,wV,simprocAttr]
          refine cp hc ?_
          simp(disch:=first|omega|exact PairsOK.mk rfl|(simp only[lenW]<;>omega)) only[wW,wV,simprocAttr]
          refine⟨(i+1,R),by dsimp only;omega,⟨hin',hsi',by dsimp only;omega,hq'⟩,?_⟩
          dsimp only
          rw[hmn]
          refine⟨[(60,.blk 60 0),(69,.blk 69 0),(83,.blk 83 0),(78,.blk 78 0),(74,.blk 74 0),(75,.blk 75 0),(76,.blk 76 0),(77,.blk 77 0)],rfl,au0,?_,au7⟩
          repeat' (first|exact RB.nil|(refine RnL.same ?_;first|rfl|(simp only[noRef,noRefs,Qah,Bool.and_self,Bool.and_true,Bool.true_and,Qaa,Qaf,Qac,Qad,Qak,Qap,Qab,Qam,Qai,Qal,Qaj,Qae,Qag,Qao];done))|exact RnM.keyM rfl|exact RnL.nil|exact(True.intro:RnM _ _ _ [] [])|refine RnL.cons ?_ ?_|(refine Rn.same ?_;first|rfl|(simp only[noRef,noRefs,Qah,Bool.and_self,Bool.and_true,Bool.true_and,Qaa,Qaf,Qac,Qad,Qak,Qap,Qab,Qam,Qai,Qal,Qaj,Qae,Qag,Qao];done))|exact Rn.x1 rfl rfl|exact Rn.x2 rfl rfl|exact Rn.x3 rfl rfl|exact Rn.x4 rfl rfl|exact Rn.x5 rfl|exact Rn.x6 rfl|exact Rn.x7 rfl|refine RB.newnil rfl rfl ?_|refine RB.cells rfl rfl rfl ?_ ?_|refine RB.map rfl rfl rfl ?_ ?_|refine RB.cellsB rfl rfl ?_ ?_|refine RB.mapB rfl rfl ?_ ?_)
          exact RnM.mapF fun x _=>Rn.same rfl
      · have hv : s.1[i]? = none := List.getElem?_eq_none (by omega)
        have hqf:s=sAll a (lf l):=by
          rw[<-hq,show a.n+1-i=(a.n-i)+1 by omega]
          simp only[sQ,hv]
        have hil:i=s.1.length:=by omega
        have hmf:mks a i s.1=(restr a (lf l)).ms:=by rw[hil,hqf];rfl
        have hef:s.2=(restr a (lf l)).es:=by rw[hqf];rfl
        simp(disch:=first|omega|exact PairsOK.mk rfl|(simp only[lenW]<;>omega)) only[hlt,wW,wV,simprocAttr]
        refine⟨(),?_⟩
        rw[hmf,hef,<-hqf]
        exact⟨[(60,.blk 60 0),(69,.blk 69 0),(83,.blk 83 0),(75,.blk 75 0),(76,.blk 76 0),(77,.blk 77 0)],rfl,au0,au8,au7⟩
    rintro _ _
    have hra:(restr a (lf l)).al=a.al:=rfl
    have hrn2:(restr a (lf l)).n=(sAll a (lf l)).1.length:=rfl
    simp(disch:=first|omega|exact PairsOK.mk rfl|(simp only[lenW]<;>omega)) only[wW,wV,simprocAttr]
    refine⟨.inr trivial,_,rfl,?_⟩
    refine RnO.tup (RnOL.cons (RnO.agg (RnOL.cons (RnO.slm (g:=0) rfl rfl rfl (QbL _) (by simp[ints,hra])) (RnOL.cons (RnO.flat rfl) (RnOL.cons (RnO.slm (g:=0) rfl rfl rfl (QbL _) (by simp[ints])) (RnOL.cons (RnO.slm (g:=0) rfl rfl rfl (QmW _) (Qc9 _)) RnOL.nil))))) (RnOL.cons (RnO.slm (g:=0) rfl rfl rfl (QbL _) (by simp[ints])) RnOL.nil))
  · rw [Bool.not_eq_true] at hl0
    have e:sAll a (lf l)=([],[]):=by
      unfold sAll
      rw[hl0,Bool.and_false,if_neg (by decide)]
      unfold sQ;rfl
    simp(disch:=first|omega|exact PairsOK.mk rfl|(simp only[lenW]<;>omega)) only[h0',h0n,hh0,hl0,wW,wV,simprocAttr]
    refine⟨.inr trivial,_,rfl,?_⟩
    have hr:restr a (lf l)=⟨a.al,0,[],[]⟩:=by unfold restr;rw[e];rfl
    rw[hr,e]
    exact RnO.tup (RnOL.cons (RnO.agg (RnOL.cons (RnO.slm (g:=0) rfl rfl rfl (QbL _) (by simp[ints])) (RnOL.cons (RnO.flat rfl) (RnOL.cons RnO.nil (RnOL.cons RnO.nil RnOL.nil))))) (RnOL.cons RnO.nil RnOL.nil))
end Go.AM.SE
