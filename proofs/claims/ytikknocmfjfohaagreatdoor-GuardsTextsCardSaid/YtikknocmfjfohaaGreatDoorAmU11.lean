/- A part of the proof of GuardsTextsCardSaid: lemmas on the way (AnBx, AnBa, AnBb, AnBc, AnRa, AnUa, AnXa, AnXb, AnXc, AnXe, AnXd, AnXg, AnXh, AmTg, AmTh, AmTj, AmTk, AnXf, AnXk, AnXi, AnXm, AnXl, AnXn, AnXo, AnXp, AnXq, AnOk, AmTv, AnCza, AnCs, AnBd). Conditions: none of ours. -/
import Derived.Test.YtikknocmfjfohaaGreatDoorProg
import Derived.KernelRfl
import Derived.Test.YtikknocmfjfohaaGreatDoorAmU10
set_option linter.unusedSectionVars false
set_option maxHeartbeats 32000000
set_option maxRecDepth 100000
set_option linter.unusedVariables false
set_option linter.unusedSimpArgs false
namespace Go.AM.SE
open Go.Proofs
set_option maxHeartbeats 4000000
noncomputable section
def cf:YA.Cf:={most:= .pure,always:=[86,118,119,120,122,123,233,176,177,178,225,226,227,228,229,230,231,232,249].map fun k=>(k,.heap),value:= .pure,eqn:=false}
def s83:SFn:=by
 refine(?f:YA.Yt Tryz.prog cf 83 [[4],[6,7,8,9],[0,1,10],[4,10,11],[],[14,15],[5,16,17,18,19,20,21,22,23],[0,1,12,13,24],[4,24,25],[0,1,12,13]]) ?s ?h
 case h=>exact YA.rr
 exact fun s _=>s
def s64:SFn:=by
 refine(?f:YA.Yt Tryz.prog cf 64 [[0,1,4],[2,3,5,6,7,8,9,10,11,12,13,14,15,16,17,18,19,20,21,22,23,24,25,26,27,28,29,30]]) ?s ?h
 case h=>exact YA.rr
 exact fun s _=>s
def s95:SFn:=by
 refine(?f:YA.Yt Tryz.prog cf 95 [[4],[0,1,5,6,7,8]]) ?s ?h
 case h=>exact YA.rr
 exact fun s _=>s
def s86:SFn:=by
 refine(?f:YA.Yt Tryz.prog cf 86 [[2],[3],[0,4],[0,4,5,6,7]]) ?s ?h
 case h=>exact YA.rr
 exact fun s _=>s
def s59:SFn:=by
 refine(?f:YA.Yt Tryz.prog cf 59 [[0,6],[],[8,9,10,11],[12,15,16,17,18,19,20,21,22,23],[1,2,3,7,31,29,30,28,27,25,26,24,32,33,34,35,36,37,38],[6,32,13,14],[1,2,3,7,31,29,30,28,27,25,26,24]]) ?s ?h
 case h=>exact YA.rr
 exact fun s _=>s
def s90:SFn:=by
 refine(?f:YA.Yt Tryz.prog cf 90 [[2],[],[],[5],[6,9,10,11,12],[13,14,15,16,17],[13,7,8],[0,3,4,18]]) ?s ?h
 case h=>exact YA.rr
 exact fun s _=>s
def s129:SFn:=by
 refine(?f:YA.Yt Tryz.prog cf 129 [[4],[6,7,8,9],[0,1,10],[4,10,11],[],[14,15],[5,16,17,18,19,20,21,22,23],[0,1,12,13,24],[4,24,25],[0,1,12,13]]) ?s ?h
 case h=>exact YA.rr
 exact fun s _=>s
def s152:SFn:=by
 refine(?f:YA.Yt Tryz.prog cf 152 [[4],[6],[],[9,10],[11,12,13,14,15],[0,1,7,8,5,16,17],[4,5,16,18],[0,1,7,8]]) ?s ?h
 case h=>exact YA.rr
 exact fun s _=>s
def s66:SFn:=by
 refine(?f:YA.Yt Tryz.prog cf 66 [[0,2],[5,6,7],[8],[1,3,9,10],[2,3,9,12,13,14],[1,11],[11,16,17,18],[1,15],[2,15,19,20,21,22,23],[24],[1,4,25,26],[1,4,25,27,28]]) ?s ?h
 case h=>exact YA.rr
 exact fun s _=>s
def s254:SFn:=by
 refine(?f:YA.Yt Tryz.prog cf 254 [[4,5],[10,11],[12],[13,14],[15,16,17,18,19,20,21],[22,23,24,25,26],[9,27,28,29],[9,27,30],[0,1,6,7,8,52,42,51,48,50,49,47,46,45,43,44,41,39,40,38,36,37,31,32,33,34,35,53]]) ?s ?h
 case h=>exact YA.rr
 exact fun s _=>s
def s251:SFn:=by
 refine(?f:YA.Yt Tryz.prog cf 251 [[0],[12,13,14,15],[16,17],[1,3,18,19],[18,20,21,22],[23],[],[26,27],[5,28,29,30],[31],[24,25,32,33],[34],[],[35,36,37],[38,42,43,44,45,46,47,48,41,49,50,8],[9],[51,52,53,54,55,56,57],[51,58,59,60,61,62],[],[66,67,68],[69,70,71,72,73],[74,75,76,77,78,79,80],[81,82,83,84,85],[11,74,86,87,88,89,90,91,92,93,94,95,96,97,98,99],[100],[63,64,65,39,40],[1,4,6,7,101,102,103],[3,104]]) ?s ?h
 case h=>exact YA.rr
 exact fun s _=>s
def s150:SFn:=by
 refine(?f:YA.Yt Tryz.prog cf 150 [[1],[9,10],[0,3,11,12,13],[11,14,15],[16,17,18,19,20,21],[],[22,23,24],[25,28,29,30,31,32],[33,34,35,36,37,38,39],[33],[40,41,42,43,44],[47,50,51,52,53,54,55,56,57,58,59,60],[61,62,63],[8,64,65,66,67,68,69,70,71,72,73,74,75,76],[8,64,48,49],[7,26,27],[0,3,5,6,46,45,77,78]]) ?s ?h
 case h=>exact YA.rr
 exact fun s _=>s
def s132:SFn:=by
 refine(?f:YA.Yt Tryz.prog cf 132 [[4],[],[],[10,11,12,13],[15,16,17,21],[0,1,7,8,9,32,26,31,30,27,29,28,20,18,19,5,6,14],[5,6,14,23,24,25,33],[0,1,7,8,9,32,26,31,30,27,29,28,20,18,19,22],[4,22,34],[0,1,7,8,9,32,26,31,30,27,29,28,20,18,19]]) ?s ?h
 case h=>exact YA.rr
 exact fun s _=>s
def s133:SFn:=by
 refine(?f:YA.Yt Tryz.prog cf 133 [[0,2],[6],[],[10,11,12,13],[15,16,17,18,24,25,29,30,36],[1,7,8,9,69,63,68,65,67,66,64,62,59,61,60,58,35,32,34,33,31,28,27,26,23,20,22,21,19,4,3,14],[14,38,39,40,41,42,43],[1,7,8,9,69,63,68,65,67,66,64,62,59,61,60,58,35,32,34,33,31,28,27,26,23,20,22,21,19,4,3,37],[2,37,44],[3,45,46,47,48,49,50,51],[4,5,52,53,54,55,56,57],[1,7,8,9,69,63,68,65,67,66,64,62,59,61,60,58,35,32,34,33,31,28,27,26,23,20,22,21,19,70],[2,70,71],[1,7,8,9,69,63,68,65,67,66,64,62,59,61,60,58,35,32,34,33,31,28,27,26,23,20,22,21,19]]) ?s ?h
 case h=>exact YA.rr
 exact fun s _=>s
def s245:SFn:=by
 refine(?f:YA.Yt Tryz.prog cf 245 [[4],[0,1,5,6,7,8,9,10,11,12,13,14,15,16]]) ?s ?h
 case h=>exact YA.rr
 exact fun s _=>s
def s278:SFn:=by
 refine(?f:YA.Yt Tryz.prog cf 278 [[2],[0,3,4,5]]) ?s ?h
 case h=>exact YA.rr
 exact fun s _=>s
def s223:SFn:=by
 refine(?f:YA.Yt Tryz.prog cf 223 [[0,4],[10,11,12,13,9,14,15,6],[1,17,18,19,20,21,16,22,23,8],[2,5,7,24,25,26,27,28]]) ?s ?h
 case h=>exact YA.rr
 exact fun s _=>s
def s189:SFn:=by
 refine(?f:YA.Yt Tryz.prog cf 189 [[],[0,3,4,5,6]]) ?s ?h
 case h=>exact YA.rr
 exact fun s _=>s
def s190:SFn:=by
 refine(?f:YA.Yt Tryz.prog cf 190 [[0],[8,9],[10,11,12],[13,14,15],[],[16,17,18],[19,22,23,24,25,26,27],[28,29,30,31,32,33,34],[28],[35,36,37,38],[39,42,43,44,45,46,47,48,49,50,51,52],[53],[7,54,55,56,57,58,59,60,61,62,63,64,65,66,67,68,69],[7,54,40,41],[6,20,21],[1,3,4,5,70]]) ?s ?h
 case h=>exact YA.rr
 exact fun s _=>s
def s276:SFn:=by
 refine(?f:YA.Yt Tryz.prog cf 276 [[2],[0,3,4,5]]) ?s ?h
 case h=>exact YA.rr
 exact fun s _=>s
def s265:SFn:=by
 refine(?f:YA.Yt Tryz.prog cf 265 [[6,7],[12,13],[14],[15,16],[17,18,19,20,21,22,23],[24,25,26,27,28,29,30],[11,31,32,33],[11,31,34],[0,1,2,8,9,10,47,46,40,44,45,43,41,42,35,36,37,38,39,48]]) ?s ?h
 case h=>exact YA.rr
 exact fun s _=>s
def s266:SFn:=by
 refine(?f:YA.Yt Tryz.prog cf 266 [[0,4],[1,2,5,6,7,8]]) ?s ?h
 case h=>exact YA.rr
 exact fun s _=>s
def s267:SFn:=by
 refine(?f:YA.Yt Tryz.prog cf 267 [[0,4],[1,2,5,6,7,8]]) ?s ?h
 case h=>exact YA.rr
 exact fun s _=>s
def s248:SFn:=by
 refine(?f:YA.Yt Tryz.prog cf 248 [[0,2],[],[7,8],[9,10,11,12],[9],[13,14,15],[16],[19,20,21,22],[23,26,27,28,29,30,31,32,33,34,35,36],[37,38,39],[6,44,45,46,47,48],[6,44,24,25],[5,17,18],[1,3,4,43,42,40,41,49]]) ?s ?h
 case h=>exact YA.rr
 exact fun s _=>s
def s249:SFn:=by
 refine(?f:YA.Yt Tryz.prog cf 249 [[4],[],[6,7,8],[9,12,13,14,15,16],[0,1,5,17],[4,17,10,11],[0,1,5]]) ?s ?h
 case h=>exact YA.rr
 exact fun s _=>s
def s250:SFn:=by
 refine(?f:YA.Yt Tryz.prog cf 250 [[4],[],[6,7,8],[9,12,13,14,15,16],[0,1,5,17,18],[4,17,10,11],[0,1,5]]) ?s ?h
 case h=>exact YA.rr
 exact fun s _=>s
theorem ok83:okFn Tryz.prog 83 s83=true:=by kernel_rfl
theorem ok64:okFn Tryz.prog 64 s64=true:=by kernel_rfl
theorem ok95:okFn Tryz.prog 95 s95=true:=by kernel_rfl
theorem ok86:okFn Tryz.prog 86 s86=true:=by kernel_rfl
theorem ok59:okFn Tryz.prog 59 s59=true:=by kernel_rfl
theorem ok90:okFn Tryz.prog 90 s90=true:=by kernel_rfl
theorem ok129:okFn Tryz.prog 129 s129=true:=by kernel_rfl
theorem ok152:okFn Tryz.prog 152 s152=true:=by kernel_rfl
theorem ok66:okFn Tryz.prog 66 s66=true:=by kernel_rfl
theorem ok254:okFn Tryz.prog 254 s254=true:=by kernel_rfl
theorem ok251:okFn Tryz.prog 251 s251=true:=by kernel_rfl
theorem ok150:okFn Tryz.prog 150 s150=true:=by kernel_rfl
theorem ok132:okFn Tryz.prog 132 s132=true:=by kernel_rfl
theorem ok133:okFn Tryz.prog 133 s133=true:=by kernel_rfl
theorem ok245:okFn Tryz.prog 245 s245=true:=by kernel_rfl
theorem ok278:okFn Tryz.prog 278 s278=true:=by kernel_rfl
theorem ok223:okFn Tryz.prog 223 s223=true:=by kernel_rfl
theorem ok189:okFn Tryz.prog 189 s189=true:=by kernel_rfl
theorem ok190:okFn Tryz.prog 190 s190=true:=by kernel_rfl
theorem ok276:okFn Tryz.prog 276 s276=true:=by kernel_rfl
theorem ok265:okFn Tryz.prog 265 s265=true:=by kernel_rfl
theorem ok266:okFn Tryz.prog 266 s266=true:=by kernel_rfl
theorem ok267:okFn Tryz.prog 267 s267=true:=by kernel_rfl
theorem ok248:okFn Tryz.prog 248 s248=true:=by kernel_rfl
theorem ok249:okFn Tryz.prog 249 s249=true:=by kernel_rfl
theorem ok250:okFn Tryz.prog 250 s250=true:=by kernel_rfl
end
end Go.AM.SE
namespace Go.AM.SE
open Go.Proofs Go.AM.SD
theorem PSpec.weak {P:Program} {f:Nat} {args bs:List AV} {v:AV} (hL:∀(ok:Okc) (c:Ctx ok) (w:World) (vs:List Value),HRel c .e w->VRels c w args vs->VRels c w bs vs) (hn:noRefs args=true) (hp:PSpec P f bs v):PSpec P f args v:=by
 obtain⟨n1,n2,h',hc,hs⟩:=hp
 exact⟨hn,n2,h',hc,fun c w cargs H ha=>hs c w cargs H (hL _ c w _ H ha)⟩
theorem _root_.Go.AM.au0 {p:Prop} (h:p:=by repeat (first|exact RO.zero|exact RO.e|refine RO.set rfl ?_)):p:=h
theorem _root_.Go.AM.au1 {p:Prop} (h:p:=by repeat' (first|exact RB.nil|(refine RnL.same ?_;first|rfl|(simp only[noRef,noRefs,Qah,Bool.and_self,Bool.and_true,Bool.true_and,Qaa,Qaw,Qaq,Qay,Qau,Qat,Qaf,Qbw,Qa5];done))|exact RnM.keyM rfl|exact RnL.nil|exact(True.intro:RnM _ _ _ [] [])|refine RnL.cons ?_ ?_|(refine Rn.same ?_;first|rfl|(simp only[noRef,noRefs,Qah,Bool.and_self,Bool.and_true,Bool.true_and,Qaa,Qaw,Qaq,Qay,Qau,Qat,Qaf,Qbw,Qa5];done))|exact Rn.x1 rfl rfl|exact Rn.x2 rfl rfl|exact Rn.x3 rfl rfl|exact Rn.x4 rfl rfl|exact Rn.x5 rfl|exact Rn.x6 rfl|exact Rn.x7 rfl|refine RB.newnil rfl rfl ?_|refine RB.cells rfl rfl rfl ?_ ?_|refine RB.map rfl rfl rfl ?_ ?_|refine RB.cellsB rfl rfl ?_ ?_|refine RB.mapB rfl rfl ?_ ?_)):p:=h
theorem _root_.Go.AM.au2 {p:Prop} (h:p:=by repeat (first|exact RT.nil|(refine RT.cons ?_ ?_; · (first|exact Rn.any|exact Rn.x1 rfl rfl|exact Rn.x2 rfl rfl|exact Rn.x3 rfl rfl|exact Rn.x4 rfl rfl|exact Rn.x5 rfl|exact Rn.x6 rfl|exact Rn.x7 rfl|(refine Rn.slot ?_ ?_;(first|rfl|(rw[Int.natCast_add];rfl));(first|rfl|(simp only[noRef,noRefs,Qah,Bool.and_self,Bool.and_true,Bool.true_and,Qaa,Qaw,Qaq,Qay,Qau,Qat,Qaf,Qbw,Qa5];done)))|(refine Rn.fn ?_ ?_<;>(repeat' (first|exact RnL.nil|refine RnL.cons ?_ ?_|exact Rn.same rfl|exact Rn.x6 rfl|exact Rn.x2 rfl rfl|exact Rn.x5 rfl|exact Rn.x1 rfl rfl))))))):p:=h
theorem has36 (l:List Int) (n:Int) (hl:l.length<=140737488355328):PSpec Tryz.prog 249 [sli l,.int .i64 n] (.bool (decide (n∈l))):=by
  refine PSpec.Qas 64 ok249 rfl (by(try simp only[noRefs,Qaa,Qaw,Qaq,Qay,Qau,noRef,Bool.and_self,Bool.and_true])<;>rfl) rfl ?_
  simp(disch:=first|omega|(simp only[lenW]<;>omega)) only[s249,wV,simprocAttr]
  refine QaJ 100 (fun i:Nat=>[(0,sli l),(1,.int .i64 n),(5,.int .i64 i)]) (fun _=>[]) (fun i=>i<=l.length/\∀(j:Nat) y,j<i->l[j]?=some y->y≠n) (fun i=>l.length-i) 0 ⟨[],rfl,au0,au1,au2⟩ ⟨Nat.zero_le _,fun j y hj=>absurd hj (Nat.not_lt_zero _)⟩ ?_
  rintro i ⟨hi,hb⟩
  by_cases hlt:i<l.length
  · obtain ⟨x, hx⟩ := Qaj hlt
    by_cases h0:x=n
    · simp (disch := first | omega | (simp only [lenW] <;> omega)) only [hlt, QaR hx, h0, wV, simprocAttr]
      refine⟨.inr trivial,_,rfl,?_⟩
      have:n∈l:=h0▸List.mem_of_getElem? hx
      simp[resOf,Qa7,this]
    · simp (disch := first | omega | (simp only [lenW] <;> omega)) only [hlt, QaR hx, h0, wV, simprocAttr]
      refine⟨i+1,by omega,⟨by omega,fun j y hj hy=>?_⟩,⟨[],rfl,au0,au1,au2⟩⟩
      by_cases e:j=i
      · subst e;rw[hx]at hy;cases hy;exact h0
      · exact hb j y (by omega) hy
  · have : n ∉ l := fun h => by
      obtain⟨j,hj,hjl⟩:=Qes h
      exact hb j n (by omega) hj rfl
    simp(disch:=first|omega|(simp only[lenW]<;>omega)) only[hlt,wV,simprocAttr]
    exact⟨.inr trivial,_,rfl,by simp[resOf,Qa7,this]⟩
def indexR (l:List Int) (n:Int):Int:=if n∈l then(l.findIdx (· ==n):Int)else-1
theorem index70 (l : List Int) (n : Int) (hl : l.length <= 140737488355328) : PSpec Tryz.prog 152 [sli l, .int .i64 n] (.int .i64 (indexR l n)) := by
  refine PSpec.Qas 64 ok152 rfl (by(try simp only[noRefs,Qaa,Qaw,Qaq,Qay,Qau,noRef,Bool.and_self,Bool.and_true])<;>rfl) rfl ?_
  simp(disch:=first|omega|(simp only[lenW]<;>omega)) only[s152,wV,simprocAttr]
  refine QaJ 100 (fun i:Nat=>[(0,sli l),(1,.int .i64 n),(7,.int .i64 l.length),(8,.int .i64 i)]) (fun _=>[]) (fun i=>i<=l.length/\∀(j:Nat) y,j<i->l[j]?=some y->y≠n) (fun i=>l.length-i) 0 ⟨[],rfl,au0,au1,au2⟩ ⟨Nat.zero_le _,fun j y hj=>absurd hj (Nat.not_lt_zero _)⟩ ?_
  rintro i ⟨hi,hb⟩
  by_cases hlt:i<l.length
  · obtain ⟨x, hx⟩ := Qaj hlt
    by_cases h0:n=x
    · simp (disch := first | omega | (simp only [lenW] <;> omega)) only [hlt, QaR hx, h0, wV, simprocAttr]
      refine⟨.inr trivial,_,rfl,?_⟩
      have h1:n∈l:=h0▸List.mem_of_getElem? hx
      have h2:l.findIdx (· ==n)=i:=by
        rw[List.findIdx_eq hlt]
        refine⟨by rw[List.getElem?_eq_getElem hlt]at hx;cases hx;simp[h0],fun j hj=>?_⟩
        have:=hb j l[j] hj (List.getElem?_eq_getElem (by omega))
        simpa using this
      subst h0
      simp only[indexR,if_pos h1,h2];rfl
    · simp (disch := first | omega | (simp only [lenW] <;> omega)) only [hlt, QaR hx, h0, wV, simprocAttr]
      refine⟨i+1,by omega,⟨by omega,fun j y hj hy=>?_⟩,⟨[],rfl,au0,au1,au2⟩⟩
      by_cases e:j=i
      · subst e;rw[hx]at hy;cases hy;exact fun e=>h0 e.symm
      · exact hb j y (by omega) hy
  · have : n ∉ l := fun h => by
      obtain⟨j,hj,hjl⟩:=Qes h
      exact hb j n (by omega) hj rfl
    simp(disch:=first|omega|(simp only[lenW]<;>omega)) only[hlt,wV,simprocAttr]
    exact⟨.inr trivial,_,rfl,by simp only[indexR,if_neg this];rfl⟩
theorem contains62 (l:List Int) (n:Int) (hl:l.length<=140737488355328):PSpec Tryz.prog 95 [sli l,.int .i64 n] (.bool (decide (n∈l))):=by
  refine PSpec.Qas 64 ok95 rfl (by(try simp only[noRefs,Qaa,Qaw,Qaq,Qay,Qau,noRef,Bool.and_self,Bool.and_true])<;>rfl) rfl ?_
  simp(disch:=first|omega|(simp only[lenW]<;>omega)) only[s95,wV,simprocAttr]
  refine cp (index70 l n hl) ?_
  have e:decide (0<=indexR l n)=decide (n∈l):=by
    unfold indexR
    by_cases h:n∈l
    · rw[if_pos h];simp[h]
    · rw[if_neg h];simp[h]
  by_cases h:n∈l
  · have e2 : 0 <= indexR l n := by rw [decide_eq_decide] at e; exact e.2 h
    simp(disch:=first|omega|(simp only[lenW]<;>omega)) only[e2,wV,simprocAttr]
    exact⟨.inr trivial,_,rfl,by simp[resOf,Qa7,h]⟩
  · have e2 : ¬ 0 <= indexR l n := by rw [decide_eq_decide] at e; exact fun h2 => h (e.1 h2)
    simp(disch:=first|omega|(simp only[lenW]<;>omega)) only[e2,wV,simprocAttr]
    exact⟨.inr trivial,_,rfl,by simp[resOf,Qa7,h]⟩
end Go.AM.SE
namespace Go.AM.SE
open Go.Proofs Go.AM.SD
theorem QcK {k:IntKind} {a i:Nat} (hi:i<=k.bits):aBin .shr (.int k (a:Int)) (.int .i64 (i:Int))=some (.int k ((a/2^i:Nat):Int)):=by
 have h1:¬(i:Int)<0:=by omega
 simp only[aBin,if_neg h1]
 have h2:min (i:Int).toNat k.bits=i:=by simp;omega
 rw[h2]
 have:(2:Int)^i=((2^i:Nat):Int):=by norm_cast
 rw[this,Int.fdiv_eq_ediv_of_nonneg _ (Int.natCast_nonneg _)]
 norm_cast
theorem and1 (n a:Nat) (hn:0<n):(BitVec.ofInt n (a:Int)&&&BitVec.ofInt n 1).toNat=a % 2:=by
 rw[BitVec.toNat_and,BitVec.toNat_ofInt,BitVec.toNat_ofInt]
 have h1:((a:Int) % ((2^n:Nat):Int)).toNat=a % 2^n:=by norm_cast
 have h2:((1:Int) % ((2^n:Nat):Int)).toNat=1:=by
  have:1 % 2^n=1:=Nat.mod_eq_of_lt (Nat.one_lt_two_pow (by omega))
  have h3:((1:Int) % ((2^n:Nat):Int))=((1 % 2^n:Nat):Int):=by norm_cast
  rw[h3,this];rfl
 rw[h1,h2,Nat.and_one_is_mod,Nat.mod_mod_of_dvd _ ⟨2^(n-1),by rw[<-Nat.pow_succ'];congr 1;omega⟩]
theorem QcL {a:Nat}:aBin .and (.int .u8 (a:Int)) (.int .u8 1)=some (.int .u8 ((a % 2:Nat):Int)):=by
 simp only[aBin,if_true]
 rw[show IntKind.u8.bits=8 from rfl,and1 8 a (by omega),wr_u8 (by omega) (by omega)]
theorem QdF {s i:Nat}:(((s/2^i % 2:Nat):Int)=1)↔s.testBit i=true:=by
 rw[Nat.testBit_eq_decide_div_mod_eq,decide_eq_true_eq];omega
theorem Qdq {n b i:Nat}:SD.part (i+1) b=SD.part i b++if b.testBit i=true then[i]else[]:=by
 unfold SD.part
 rw[List.range_succ,List.filter_append]
 congr 1
 by_cases h:b.testBit i=true<;>simp[h]
theorem Qdc {i b:Nat}:(SD.part i b).length<=i:=by
 unfold SD.part
 exact Nat.le_trans (List.length_filter_le _ _) (by simp)
theorem events16 (s:Nat) (hs:s<256):PSpec Tryz.prog 90 [.int .u8 s] (sliN (SD.part 5 s)):=by
  refine PSpec.of_rn 64 ok90 rfl (by(try simp only[noRefs,Qaa,Qaw,Qaq,Qay,Qau,noRef,Bool.and_self,Bool.and_true])<;>rfl) (Qaf _) ?_
  simp(disch:=first|omega|(simp only[lenW]<;>omega)) only[s90,wV,simprocAttr]
  refine QaJ 100 (fun i:Nat=>[(0,.int .u8 s),(3,.sl 50 0 0 (SD.part i s).length 1),(4,.int .i64 i)]) (fun i=>[(50,.cells 0 (ints (nz (SD.part i s))))]) (fun i=>i<=5) (fun i=>5-i) 0 ⟨[(50,.nil)],rfl,au0,au1,au2⟩ (Nat.zero_le _) ?_
  rintro i hi
  have hpl:=@Qdc i s
  by_cases hlt:i<5
  · have hlt2 : (i : Int) < 5 := by omega
    by_cases h0:s.testBit i=true
    · have hb := QdF.2 h0
      have hp:=Qdq (n:=5) (b:=s) (i:=i)
      rw[if_pos h0]at hp
      simp(disch:=first|omega|(simp only[lenW]<;>omega)) only[hlt2,QcK (k:= .u8) (show i<=8 by omega),QcL,hb,wV,simprocAttr]
      refine⟨i+1,by omega,by omega,?_⟩
      rw[hp,Qa9,QaV,List.length_append]
      exact⟨[(50,.blk 50 1)],rfl,au0,au1,au2⟩
    · have hb : ¬ ((s / 2 ^ i % 2 : Nat) : Int) = 1 := fun e => h0 (QdF.1 e)
      have hp:=Qdq (n:=5) (b:=s) (i:=i)
      rw[if_neg h0,List.append_nil]at hp
      simp(disch:=first|omega|(simp only[lenW]<;>omega)) only[hlt2,QcK (k:= .u8) (show i<=8 by omega),QcL,hb,wV,simprocAttr]
      refine⟨i+1,by omega,by omega,?_⟩
      rw[hp]
      exact⟨[(50,.blk 50 0)],rfl,au0,au1,au2⟩
  · have hlt2 : ¬ (i : Int) < 5 := by omega
    have e:i=5:=by omega
    subst e
    simp(disch:=first|omega|(simp only[lenW]<;>omega)) only[hlt2,wV,simprocAttr]
    refine⟨.inr trivial,_,rfl,?_⟩
    exact Rn.fz0 rfl (by simp[ints]) (RnL.same (Qaa _))
def SetOk (l:List Int) (n:Int):Prop:=(∀x∈l,0<=x/\x<n)/\l.Pairwise (· < ·)
theorem SetOk.up {l:List Int} {n:Int} (h:SetOk l n) {i:Nat} {x y:Int} (hx:l[i]?=some x) (hy:l[i+1]?=some y):x<y:=by
 obtain⟨h1,e1⟩:=List.getElem?_eq_some_iff.1 hx
 obtain⟨h2,e2⟩:=List.getElem?_eq_some_iff.1 hy
 have:=List.pairwise_iff_getElem.1 h.2 i (i+1) h1 h2 (by omega)
 rw[e1,e2]at this;exact this
theorem SetOk.nz {l:List Nat} {n:Nat} (h1:∀x∈l,x<n) (h2:l.Pairwise (· < ·)):SetOk (nz l) n:=by
 refine⟨fun x hx=>?_,?_⟩
 ·obtain ⟨a, ha, rfl⟩ := List.mem_map.1 hx
  have:=h1 a ha;omega
 ·rw[List.pairwise_map];exact h2.imp fun h=>by omega
theorem set49 (l:List Int) (n:Int) (hl:l.length<=140737488355328) (h:SetOk l n):PSpec Tryz.prog 132 [sli l,.int .i64 n] (.int .i64 0):=by
  refine PSpec.Qas 64 ok132 rfl (by(try simp only[noRefs,Qaa,Qaw,Qaq,Qay,Qau,noRef,Bool.and_self,Bool.and_true])<;>rfl) rfl ?_
  simp(disch:=first|omega|(simp only[lenW]<;>omega)) only[s132,wV,simprocAttr]
  refine QaJ 100 (fun i:Nat=>[(0,sli l),(1,.int .i64 n),(7,sli l),(8,.int .i64 l.length),(9,.int .i64 i)]) (fun _=>[]) (fun i=>i<=l.length) (fun i=>l.length-i) 0 ⟨[],rfl,au0,au1,au2⟩ (Nat.zero_le _) ?_
  rintro i hi
  by_cases hlt:i<l.length
  · obtain ⟨x, hx⟩ := Qaj hlt
    obtain⟨h1,h2⟩:=h.1 x (List.mem_of_getElem? hx)
    have h1':¬x<0:=by omega
    have h2':¬n<=x:=by omega
    by_cases h0:i=0
    · have h4 : ¬ (0 : Int) < (i : Int) := by omega
      simp(disch:=first|omega|(simp only[lenW]<;>omega)) only[hlt,QaR hx,h1',h2',h4,wV,simprocAttr]
      exact⟨i+1,by omega,by omega,⟨[],rfl,au0,au1,au2⟩⟩
    · obtain ⟨y, hy⟩ := Qaj (l := l) (i := i - 1) (by omega)
      have h3:=h.up hy (by rw[show i-1+1=i by omega];exact hx)
      have h3':¬x<=y:=by omega
      have h4:(0:Int)<(i:Int):=by omega
      have h5:(i:Int)-1=((i-1:Nat):Int):=by omega
      have h6:((i-1:Nat):Int)<l.length:=by omega
      simp(disch:=first|omega|(simp only[lenW]<;>omega)) only[hlt,QaR hx,h1',h2',h4,h5,h6,QaR hy,h3',wV,simprocAttr]
      exact⟨i+1,by omega,by omega,⟨[],rfl,au0,au1,au2⟩⟩
  · simp (disch := first | omega | (simp only [lenW] <;> omega)) only [hlt, wV, simprocAttr]
    exact⟨.inr trivial,_,rfl,rfl⟩
end Go.AM.SE
namespace Go.AM.SE
open Go.Proofs Go.AM.SD
structure EgsOk (a:Au):Prop where
 len:a.es.length<=140737488355328
 all:a.al.length<=140737488355328
 fr:∀e∈a.es,0<=e.fr/\e.fr<a.n
 to:∀e∈a.es,0<=e.to/\e.to<a.n
 ev:∀e∈a.es,e.ev∈a.al
 up:a.es.Pairwise fun x y=>x.fr<y.fr\/(x.fr=y.fr/\x.ev<y.ev)
theorem EgsOk.step {a:Au} (h:EgsOk a) {i:Nat} {x y:Eg} (hx:a.es[i]?=some x) (hy:a.es[i+1]?=some y):x.fr<y.fr\/(x.fr=y.fr/\x.ev<y.ev):=by
 obtain⟨h1,e1⟩:=List.getElem?_eq_some_iff.1 hx
 obtain⟨h2,e2⟩:=List.getElem?_eq_some_iff.1 hy
 have:=List.pairwise_iff_getElem.1 h.up i (i+1) h1 h2 (by omega)
 rw[e1,e2]at this;exact this
theorem edges50 (a : Au) (h : EgsOk a) : PSpec Tryz.prog 133 [auV a] (.int .i64 0) := by
  refine PSpec.Qas 64 ok133 rfl (by(try simp only[noRefs,Qaa,Qaw,Qaq,Qay,Qau,noRef,Bool.and_self,Bool.and_true])<;>rfl) rfl ?_
  have hl:=h.len
  simp(disch:=first|omega|(simp only[lenW]<;>omega)) only[s133,wV,simprocAttr]
  refine QaJ 100 (fun i:Nat=>[(1,.ptr 50 0 0),(7,egs a.es),(8,.int .i64 a.es.length),(9,.int .i64 i)]) (fun _=>[(50,.cells 0 [sli a.al,.int .i64 a.n,sli a.ms,egs a.es])]) (fun i=>i<=a.es.length) (fun i=>a.es.length-i) 0 ⟨[(50,.blk 64 0)],rfl,au0,au1,au2⟩ (Nat.zero_le _) ?_
  rintro i hi
  by_cases hlt:i<a.es.length
  · obtain ⟨x, hx⟩ := Qaj hlt
    have hm:=List.mem_of_getElem? hx
    obtain⟨f1,f2⟩:=h.fr x hm
    obtain⟨t1,t2⟩:=h.to x hm
    have f1':¬x.fr<0:=by omega
    have f2':¬a.n<=x.fr:=by omega
    have t1':¬x.to<0:=by omega
    have t2':¬a.n<=x.to:=by omega
    have hev:decide (x.ev∈a.al)=true:=decide_eq_true (h.ev x hm)
    simp(disch:=first|omega|(simp only[lenW]<;>omega)) only[hlt,Qc9 hx,f1',f2',t1',t2',wV,simprocAttr]
    refine cp (contains62 a.al x.ev h.all) ?_
    rw[hev]
    by_cases h0:i=0
    · have h4 : (i : Int) = 0 := by omega
      simp(disch:=first|omega|(simp only[lenW]<;>omega)) only[hlt,Qc9 hx,h4,wV,simprocAttr]
      exact⟨1,by omega,by omega,⟨[(50,.blk 50 0)],rfl,au0,au1,au2⟩⟩
    · obtain ⟨y, hy⟩ := Qaj (l := a.es) (i := i - 1) (by omega)
      have h4:¬(i:Int)=0:=by omega
      have h5:(i:Int)-1=((i-1:Nat):Int):=by omega
      have h6:((i-1:Nat):Int)<a.es.length:=by omega
      rcases h.step hy (by rw[show i-1+1=i by omega];exact hx)with h3|⟨h3,h3b⟩
      · have g1 : ¬ x.fr < y.fr := by omega
        have g2:¬x.fr=y.fr:=by omega
        simp(disch:=first|omega|(simp only[lenW]<;>omega)) only[hlt,Qc9 hx,h4,h5,h6,Qc9 hy,g1,g2,wV,simprocAttr]
        exact⟨i+1,by omega,by omega,⟨[(50,.blk 50 0)],rfl,au0,au1,au2⟩⟩
      · have g1 : ¬ x.fr < y.fr := by omega
        have g2:x.fr=y.fr:=by omega
        have g3:¬x.ev<=y.ev:=by omega
        simp(disch:=first|omega|(simp only[lenW]<;>omega)) only[hlt,Qc9 hx,h4,h5,h6,Qc9 hy,g1,g2,g3,wV,simprocAttr]
        exact⟨i+1,by omega,by omega,⟨[(50,.blk 50 0)],rfl,au0,au1,au2⟩⟩
  · simp (disch := first | omega | (simp only [lenW] <;> omega)) only [hlt, wV, simprocAttr]
    exact⟨.inr trivial,_,rfl,rfl⟩
structure AuOk (a:Au):Prop extends EgsOk a where
 alS:SetOk a.al 32
 msS:SetOk a.ms a.n
 mslen:a.ms.length<=140737488355328
 n0:0<=a.n
 nm:a.n<=4096
theorem check37 (a:Au) (h:AuOk a):PSpec Tryz.prog 66 [auV a] (.int .i64 0):=by
 refine PSpec.Qas 64 ok66 rfl (by(try simp only[noRefs,Qaa,Qaw,Qaq,Qay,Qau,noRef,Bool.and_self,Bool.and_true])<;>rfl) rfl ?_
 have h1:¬a.n<0:=by have:=h.n0;omega
 have h2:¬4096<a.n:=by have:=h.nm;omega
 simp(disch:=first|omega|(simp only[lenW]<;>omega)) only[s66,wV,simprocAttr]
 refine cp (set49 a.al 32 h.all h.alS) ?_
 simp(disch:=first|omega|(simp only[lenW]<;>omega)) only[h1,h2,wV,simprocAttr]
 refine cp (set49 a.ms a.n h.mslen h.msS) ?_
 simp(disch:=first|omega|(simp only[lenW]<;>omega)) only[wV,simprocAttr]
 refine cp (edges50 a h.toEgsOk) ?_
 simp(disch:=first|omega|(simp only[lenW]<;>omega)) only[wV,simprocAttr]
 exact⟨.inr trivial,_,rfl,rfl⟩
end Go.AM.SE
namespace Go.AM.SE
open Go.Proofs Go.AM.SD
def fe (f:Nat->Int):Nat->Int
 |0=>0
 |n+1=>if fe f n=0 then f n else fe f n
theorem Qeu {f:Nat->Int}:∀{n:Nat},(∀j,j<n->f j=0)->fe f n=0
 |0,_=>rfl
 |n+1,h=>by
  rw[fe,if_pos (Qeu fun j hj=>h j (by omega))]
  exact h n (Nat.lt_succ_self n)
theorem fe_at {f:Nat->Int} {i:Nat} {e:Int} (hf:f i=e) (he:e≠0) (hb:∀j,j<i->f j=0):∀{n:Nat},i<n->fe f n=e
  |0,h=>absurd h (Nat.not_lt_zero _)
  | n + 1, h => by
    rw[fe]
    by_cases e1:i=n
    · subst e1;rw[if_pos (Qeu hb)];exact hf
    · have := fe_at hf he hb (n := n) (by omega)
      rw[if_neg (by rw[this];exact he)];exact this
theorem fe_up {f:Nat->Int} {i:Nat} (hb:∀j,j<i->f j=0) (h:f i=0):∀j,j<i+1->f j=0:=fun j hj=>by
 by_cases e:j=i
 ·subst e;exact h
 ·exact hb j (by omega)
theorem QaB {α:Type} {l:List α} {i:Nat} {x d:α} (h:l[i]?=some x):l.getD i d=x:=by rw[List.getD_eq_getElem?_getD,h];rfl
end Go.AM.SE
namespace Go.AM.SO
open Go.Proofs Go.AM.SD Go.AM.SE
structure Bxn where
 lo:List Int
 hi:List Int
structure Gdn where
 ev:Int
 bs:List Bxn
def bxC (b:Bxn):List AV:=[sli b.lo,sli b.hi]
abbrev bxV (b:Bxn):AV:= .agg [sli b.lo,sli b.hi]
abbrev bxsV (l:List Bxn):AV:= .fsl (l.flatMap bxC) l.length 2
def gdC (g:Gdn):List AV:=[.int .i64 g.ev,bxsV g.bs]
abbrev gdV (g:Gdn):AV:= .agg [.int .i64 g.ev,bxsV g.bs]
abbrev gdsV (l:List Gdn):AV:= .fsl (l.flatMap gdC) l.length 2
theorem Qax (l:List Bxn):noRefs (l.flatMap bxC)=true:=Qa3 (fun x=>by simp only[bxC,noRefs,noRef,Qaa];rfl) l
theorem Qfs (l:List Bxn):noRef (bxsV l)=true:=by simp only[noRef];exact Qax l
theorem QaD (l:List Gdn):noRefs (l.flatMap gdC)=true:=Qa3 (fun x=>by simp only[gdC,noRefs,noRef,Qax];rfl) l
theorem Qby (l:List Gdn):noRef (gdsV l)=true:=by simp only[noRef];exact QaD l
theorem Qd1 (l:List Bxn):(l.flatMap bxC).length=l.length*2:=QbD (k:=2) (fun _=>rfl) l
theorem Qnt (l:List Gdn):(l.flatMap gdC).length=l.length*2:=QbD (k:=2) (fun _=>rfl) l
theorem QdG {l:List Bxn} {i:Nat} {x:Bxn} (h:l[i]?=some x):(l.flatMap bxC).drop (i*2)=sli x.lo::sli x.hi::(l.drop (i+1)).flatMap bxC:=Qbr (f:=bxC) (k:=2) (fun _=>rfl) h
theorem QcM {l:List Gdn} {i:Nat} {x:Gdn} (h:l[i]?=some x):(l.flatMap gdC).drop (i*2)= .int .i64 x.ev::bxsV x.bs::(l.drop (i+1)).flatMap gdC:=Qbr (f:=gdC) (k:=2) (fun _=>rfl) h
def vrC (x:List UInt8×Int):List AV:=[.str x.1,.int .i64 0,.int .i64 x.2,.int .i64 0]
abbrev vrsV (l:List (List UInt8×Int)):AV:= .fsl (l.flatMap vrC) l.length 4
theorem Qav (l:List (List UInt8×Int)):noRefs (l.flatMap vrC)=true:=Qa3 (fun x=>rfl) l
theorem Qar (l:List (List UInt8×Int)):noRef (vrsV l)=true:=by simp only[noRef];exact Qav l
theorem Qft (l:List (List UInt8×Int)):(l.flatMap vrC).length=l.length*4:=QbD (k:=4) (fun _=>rfl) l
theorem QbO {l:List (List UInt8×Int)} {i:Nat} {x:List UInt8×Int} (h:l[i]?=some x):(l.flatMap vrC).drop (i*4)= .str x.1:: .int .i64 0:: .int .i64 x.2:: .int .i64 0::(l.drop (i+1)).flatMap vrC:=Qbr (f:=vrC) (k:=4) (fun _=>rfl) h
abbrev vr0:List UInt8×Int:=([],0)
abbrev bx0:Bxn:=⟨[],[]⟩
abbrev gd0:Gdn:=⟨0,[]⟩
def vrE (v:List (List UInt8×Int)) (b:Bxn) (j:Nat):Int:=if b.lo.getD j 0<0\/(v.getD j vr0).2<b.hi.getD j 0\/b.hi.getD j 0<b.lo.getD j 0 then 2 else 0
def bxE (v:List (List UInt8×Int)) (b:Bxn):Int:=if b.lo.length=v.length/\b.hi.length=v.length then fe (vrE v b) v.length else 4
def bxsE (v:List (List UInt8×Int)) (l:List Bxn):Int:=fe (fun i=>bxE v (l.getD i bx0)) l.length
def gdE (ct:Nat->Bool) (v:List (List UInt8×Int)) (first:Bool) (y x:Gdn):Int:=
 if x.ev<0\/5<=x.ev then 2 else if ct x.ev.toNat=false then 11 else if first=false/\x.ev<=y.ev then 5 else bxsE v x.bs
def gdsE (ct:Nat->Bool) (v:List (List UInt8×Int)) (l:List Gdn):Int:=fe (fun i=>gdE ct v (decide (i=0)) (l.getD (i-1) gd0) (l.getD i gd0)) l.length
def BxOk (v:List (List UInt8×Int)) (b:Bxn):Prop:=b.lo.length=v.length/\b.hi.length=v.length/\∀(j:Nat) x,v[j]?=some x->0<=b.lo.getD j 0/\b.lo.getD j 0<=b.hi.getD j 0/\b.hi.getD j 0<=x.2
end Go.AM.SO
namespace Go.AM.SO
open Go.Proofs Go.AM.SD Go.AM.SE
theorem Qa6 {x y:List AV} (hx:noRefs x=true) (hy:noRefs y=true):noRefs (x++y)=true:=by rw[Qah,hx,hy];rfl
inductive Xp where
 |mk (op val idx:Int) (args:List Xp)
instance:Inhabited Xp:=⟨.mk 0 0 0 []⟩
mutual
def xpC:Xp->List AV
 | .mk o v i ar=>[.int .i64 o,.int .i64 v,.int .i64 i,xpV ar]
def xpV:List Xp->AV
 |[]=> .nilsl
 |x::l=> .fsl (xpC x++xpsC l) (l.length+1) 4
def xpsC:List Xp->List AV
 |[]=>[]
 |x::l=>xpC x++xpsC l
end
theorem Qa8:∀x:Xp,(xpC x).length=4
 | .mk o v i ar=>by rw[xpC];rfl
theorem QiI:∀l:List Xp,xpsC l=l.flatMap xpC
 |[]=>by rw[xpsC];rfl
 |x::l=>by rw[xpsC,QiI l,List.flatMap_cons]
theorem QbU (l:List Xp):(l.flatMap xpC).length=l.length*4:=QbD (k:=4) Qa8 l
def joinE (op:Int):Nat->List Xp->Xp
 |0,l=>l.headD default
 |n+1,l=>if l.length=1 then l.headD default else .mk op 0 0 [joinE op n (l.take (l.length/2)),joinE op n (l.drop (l.length/2))]
end Go.AM.SO
namespace Go.AM.XA
open Go.Proofs
set_option maxHeartbeats 4000000
noncomputable section
def cf:YA.Cf:={most:= .pure,value:= .pure}
def s26:SFn:=by
 refine(?f:YA.Yt Tryz.prog cf 26 [[5],[0,1,6,7,8,9,10]]) ?s ?h
 case h=>exact YA.rr
 exact fun s _=>s
def s68:SFn:=by
 refine(?f:YA.Yt Tryz.prog cf 68 [[5],[12,13],[0,1,14,15],[5,14],[],[],[16,17,18],[19,22],[23,24,25],[23,27,28,29,30,31,32,26,33,34],[35,36],[9,10,37,38,39,40,41,42,43],[9,37,44,45,46,47,48],[],[49,50,51],[52,55],[56,57,58],[56,59,60,61,62,63,64],[53,54],[10,11,20,21],[0,1,6,7,8,65,66,67]]) ?s ?h
 case h=>exact YA.rr
 exact fun s _=>s
def s135:SFn:=by
 refine(?f:YA.Yt Tryz.prog cf 135 [[],[1,2,3,4]]) ?s ?h
 case h=>exact YA.rr
 exact fun s _=>s
def s136:SFn:=by
 refine(?f:YA.Yt Tryz.prog cf 136 [[1,4,5],[],[],[],[13,14,15],[16,19,20,21,22,23,24,25,26,27,28,29,30,31,32],[33,34,35,36,37,38,39,40,41,42,43,44,56],[12,57,58],[9,10,11,70,71,72,73,74,75,76,77],[78,79,80,81,82,83,84,85,86,87,88,89,90,91,92,93],[70,94,95,96,97,98,99,100,101,102,103],[10,104,105,106,107,108,109,110,111],[112,113,114,115,116,117,118,119,120,121,122,123,124,125,126,127],[10,104,128,129,130,131,132,133,134,135,136,137],[9,11,138,139,140,141,142,143,144,145],[146,147,148,149,150,151,152,153,154,155,156,157,158,159,160,161],[9,11,138,17,18],[0,3,6,7,8,69,63,68,67,65,66,64,62,60,61,59,55,49,54,53,52,50,51,48,46,47,45,162,163]] [(12,[(3,17),(6,17),(9,17),(12,17),(9,18),(12,18)])]) ?s ?h
 case h=>exact YA.rr
 exact fun s _=>s
def s137:SFn:=by
 refine(?f:YA.Yt Tryz.prog cf 137 [[],[1,2,3,4]]) ?s ?h
 case h=>exact YA.rr
 exact fun s _=>s
def s138:SFn:=by
 refine(?f:YA.Yt Tryz.prog cf 138 [[],[5,6],[0,1,7,8,9,10],[0,1,7,11,12,13,14,15,16,17,18,19,20,21,22,23,24,25,26,27]]) ?s ?h
 case h=>exact YA.rr
 exact fun s _=>s
def s141:SFn:=by
 refine(?f:YA.Yt Tryz.prog cf 141 [[2,3],[0],[6],[7],[4,5],[5,9],[10],[4,8],[8,12],[13],[14],[15],[16],[17],[18],[19],[20],[4,11],[4,11,22],[21],[21]]) ?s ?h
 case h=>exact YA.rr
 exact fun s _=>s
def s142:SFn:=by
 refine(?f:YA.Yt Tryz.prog cf 142 [[4],[0,1,5,6,7,8,9,10,11,12,13]]) ?s ?h
 case h=>exact YA.rr
 exact fun s _=>s
def s185:SFn:=by
 refine(?f:YA.Yt Tryz.prog cf 185 [[0],[5,6,7],[],[9,10,11,12,13,14],[1,3,4,8,15,16,17,18,19,20,21],[8,23,24],[1,3,4,22,25,26,27,28,29,30,31],[1,3,4,22,32,33,34,35,36,37,38]]) ?s ?h
 case h=>exact YA.rr
 exact fun s _=>s
def s186:SFn:=by
 refine(?f:YA.Yt Tryz.prog cf 186 [[],[6,7],[0,1,8,9,10,11],[8,12,13,14],[0,1,5,15,16,17,18,19,20,21,22,23,24,25,26,27]]) ?s ?h
 case h=>exact YA.rr
 exact fun s _=>s
theorem ok26:okFn Tryz.prog 26 s26=true:=by kernel_rfl
theorem ok68:okFn Tryz.prog 68 s68=true:=by kernel_rfl
theorem ok135:okFn Tryz.prog 135 s135=true:=by kernel_rfl
theorem ok136:okFn Tryz.prog 136 s136=true:=by kernel_rfl
theorem ok137:okFn Tryz.prog 137 s137=true:=by kernel_rfl
theorem ok138:okFn Tryz.prog 138 s138=true:=by kernel_rfl
theorem ok141:okFn Tryz.prog 141 s141=true:=by kernel_rfl
theorem ok142:okFn Tryz.prog 142 s142=true:=by kernel_rfl
theorem ok185:okFn Tryz.prog 185 s185=true:=by kernel_rfl
theorem ok186:okFn Tryz.prog 186 s186=true:=by kernel_rfl
end
end Go.AM.XA
namespace Go.AM.SO
open Go.Proofs Go.AM.SD Go.AM.SE
mutual
theorem QaM:∀x:Xp,noRefs (xpC x)=true
 | .mk o v i ar=>by rw[xpC];simp only[noRefs,noRef,Qdr ar];rfl
theorem Qdr:∀l:List Xp,noRef (xpV l)=true
 |[]=>by rw[xpV];rfl
 |x::l=>by rw[xpV,noRef];exact Qa6 (QaM x) (Qeg l)
theorem Qeg:∀l:List Xp,noRefs (xpsC l)=true
 |[]=>by rw[xpsC];rfl
 |x::l=>by rw[xpsC];exact Qa6 (QaM x) (Qeg l)
end
theorem QaS (l:List Xp):noRefs (l.flatMap xpC)=true:=by rw[<-QiI];exact Qeg l
theorem Qbu:∀x:Xp,(xpC x).all AV.one=true
 | .mk o v i ar=>by rw[xpC];cases ar<;>rw[xpV]<;>rfl
theorem join138 (op : Int) : ∀ (n : Nat) (l : List Xp), 0 < l.length -> l.length <= n -> l.length <= 1000000 -> PSpec Tryz.prog 138 [.int .i64 op, .fsl (l.flatMap xpC) l.length 4] (.agg (xpC (joinE op n l)))
  |0,l,h0,h,_=>by omega
  | n + 1, l, h0, h, hb => by
    refine PSpec.of_rn 64 XA.ok138 rfl (by simp only[noRefs,noRef,QaS];rfl) (by rw[noRef];exact QaM _) ?_
    have hlen:=QbU l
    by_cases h1:l.length=1
    · obtain ⟨x, rfl⟩ : ∃ x, l = [x] := List.length_eq_one_iff.1 h1
      obtain⟨o,v,i,ar⟩:=x
      have e:[Xp.mk o v i ar].flatMap xpC=[.int .i64 o,.int .i64 v,.int .i64 i,xpV ar]:=by rw[List.flatMap_cons,List.flatMap_nil,xpC];rfl
      have e2:xpC (joinE op (n+1) [Xp.mk o v i ar])=[.int .i64 o,.int .i64 v,.int .i64 i,xpV ar]:=by rw[joinE,if_pos (show[Xp.mk o v i ar].length=1 from rfl)];show xpC (Xp.mk o v i ar)=_;rw[xpC]
      have hx:=Qdr ar
      have ho:(xpV ar).one=true:=by cases ar<;>rw[xpV]<;>rfl
      rw[e,e2]
      generalize xpV ar=w at*
      simp(disch:=first|omega|exact PairsOK.mk rfl|(simp only[lenW]<;>omega)) only[XA.s138,ho,wW,wV,simprocAttr]
      exact⟨.inr trivial,_,rfl,Rn.same (by simp only[noRef,noRefs,hx];rfl)⟩
    · have h1' : ¬ (l.length : Int) = 1 := by omega
      have q1:=join138 op n (l.take (l.length/2)) (by rw[List.length_take];omega) (by rw[List.length_take];omega) (by rw[List.length_take];omega)
      have q2:=join138 op n (l.drop (l.length/2)) (by rw[List.length_drop];omega) (by rw[List.length_drop];omega) (by rw[List.length_drop];omega)
      have e1:(l.flatMap xpC).take (l.length/2*4)=(l.take (l.length/2)).flatMap xpC:=by
        have:l.flatMap xpC=(l.take (l.length/2)).flatMap xpC++(l.drop (l.length/2)).flatMap xpC:=by rw[<-List.flatMap_append,List.take_append_drop]
        rw[this,List.take_left' (by rw[QbU,List.length_take];omega)]
      have e2:(l.flatMap xpC).drop (l.length/2*4)=(l.drop (l.length/2)).flatMap xpC:=by
        have:l.flatMap xpC=(l.take (l.length/2)).flatMap xpC++(l.drop (l.length/2)).flatMap xpC:=by rw[<-List.flatMap_append,List.take_append_drop]
        rw[this,List.drop_left' (by rw[QbU,List.length_take];omega)]
      have l1:(l.take (l.length/2)).length=l.length/2:=by rw[List.length_take];omega
      have l2:(l.drop (l.length/2)).length=l.length-l.length/2:=by rw[List.length_drop]
      rw[l1]at q1;rw[l2]at q2
      have hw:wr IntKind.i64 ((l.length:Int).tdiv 2)=((l.length/2:Nat):Int):=by
        rw[Int.tdiv_eq_ediv_of_nonneg (by omega),Qg5 (by omega) (by omega)];omega
      have hj:xpC (joinE op (n+1) l)=[.int .i64 op,.int .i64 0,.int .i64 0,.fsl (xpC (joinE op n (l.take (l.length/2)))++xpC (joinE op n (l.drop (l.length/2)))) 2 4]:=by
        rw[joinE,if_neg h1,xpC,xpV,xpsC,xpsC,List.append_nil];rfl
      rw[hj]
      have n1:=Qa8 (joinE op n (l.take (l.length/2)))
      have n2:=Qa8 (joinE op n (l.drop (l.length/2)))
      simp(disch:=first|omega|exact PairsOK.mk rfl|(simp only[lenW]<;>omega)) only[XA.s138,h1',hlen,hw,e1,wW,wV,simprocAttr]
      refine cp q1 ?_
      have e3:((l.drop (l.length/2)).flatMap xpC).take ((l.length-l.length/2)*4)=(l.drop (l.length/2)).flatMap xpC:=by exact List.take_of_length_le (by rw[QbU,l2];exact Nat.le_refl _)
      simp(disch:=first|omega|exact PairsOK.mk rfl|(simp only[lenW]<;>omega)) only[h1',hlen,hw,e2,n1,n2,e3,wW,wV,simprocAttr]
      refine cp q2 ?_
      have m1:∀X:List AV,X.length=4->∃a b c d,X=[a,b,c,d]:=fun X h=>by
        match X,h with
        |[a,b,c,d],_=>exact⟨a,b,c,d,rfl⟩
      have o1:=Qbu (joinE op n (l.take (l.length/2)))
      have o2:=Qbu (joinE op n (l.drop (l.length/2)))
      have z1:=QaM (joinE op n (l.take (l.length/2)))
      have z2:=QaM (joinE op n (l.drop (l.length/2)))
      generalize xpC (joinE op n (l.take (l.length/2)))=X at*
      generalize xpC (joinE op n (l.drop (l.length/2)))=Y at*
      obtain⟨a,b,c,d,rfl⟩:=m1 X n1
      obtain⟨a',b',c',d',rfl⟩:=m1 Y n2
      have p1:putR [.int .i64 0,.int .i64 0,.int .i64 0,.nilsl,.int .i64 0,.int .i64 0,.int .i64 0,.nilsl] 0 [a,b,c,d]=[a,b,c,d,.int .i64 0,.int .i64 0,.int .i64 0,.nilsl]:=rfl
      have p2:putR [a,b,c,d,.int .i64 0,.int .i64 0,.int .i64 0,.nilsl] 4 [a',b',c',d']=[a,b,c,d,a',b',c',d']:=rfl
      simp(disch:=first|omega|exact PairsOK.mk rfl|(simp only[lenW]<;>omega)) only[n1,n2,p1,p2,o1,o2,wW,wV,simprocAttr]
      refine⟨.inr trivial,_,rfl,?_⟩
      show Rn 0 π0 _ (.agg _) (.agg [.int .i64 op,.int .i64 0,.int .i64 0,.sl 83 0 0 2 4])
      have hz:noRefs [a,b,c,d,a',b',c',d']=true:=Qa6 z1 z2
      refine Rn.agg (RnL.cons (Rn.same rfl) (RnL.cons (Rn.same rfl) (RnL.cons (Rn.same rfl) (RnL.cons ?_ RnL.nil))))
      exact Rn.frz (b:=83) (g:=0) (ds:=[a,b,c,d,a',b',c',d']) (by rw[Tr.QaZ _ (by decide),if_neg (by decide),Tr.QaZ _ (by decide),if_pos rfl]) (Nat.zero_le _) (fun b' g' _ e=>by cases e) (Nat.le_refl 8) (RnL.same hz)
end Go.AM.SO
namespace Go.AM.SO
open Go.Proofs Go.AM.SD Go.AM.SE
theorem join186 (op : Int) : ∀ (n : Nat) (l : List Xp), 0 < l.length -> l.length <= n -> l.length <= 1000000 -> PSpec Tryz.prog 186 [.int .i64 op, .fsl (l.flatMap xpC) l.length 4] (.agg (xpC (joinE op n l)))
  |0,l,h0,h,_=>by omega
  | n + 1, l, h0, h, hb => by
    refine PSpec.of_rn 64 XA.ok186 rfl (by simp only[noRefs,noRef,QaS];rfl) (by rw[noRef];exact QaM _) ?_
    have hlen:=QbU l
    by_cases h1:l.length=1
    · obtain ⟨x, rfl⟩ : ∃ x, l = [x] := List.length_eq_one_iff.1 h1
      obtain⟨o,v,i,ar⟩:=x
      have e:[Xp.mk o v i ar].flatMap xpC=[.int .i64 o,.int .i64 v,.int .i64 i,xpV ar]:=by rw[List.flatMap_cons,List.flatMap_nil,xpC];rfl
      have e2:xpC (joinE op (n+1) [Xp.mk o v i ar])=[.int .i64 o,.int .i64 v,.int .i64 i,xpV ar]:=by rw[joinE,if_pos (show[Xp.mk o v i ar].length=1 from rfl)];show xpC (Xp.mk o v i ar)=_;rw[xpC]
      have hx:=Qdr ar
      have ho:(xpV ar).one=true:=by cases ar<;>rw[xpV]<;>rfl
      rw[e,e2]
      generalize xpV ar=w at*
      simp(disch:=first|omega|exact PairsOK.mk rfl|(simp only[lenW]<;>omega)) only[XA.s186,ho,wW,wV,simprocAttr]
      exact⟨.inr trivial,_,rfl,Rn.same (by simp only[noRef,noRefs,hx];rfl)⟩
    · have h1' : ¬ (l.length : Int) = 1 := by omega
      have q1:=join186 op n (l.take (l.length/2)) (by rw[List.length_take];omega) (by rw[List.length_take];omega) (by rw[List.length_take];omega)
      have q2:=join186 op n (l.drop (l.length/2)) (by rw[List.length_drop];omega) (by rw[List.length_drop];omega) (by rw[List.length_drop];omega)
      have e1:(l.flatMap xpC).take (l.length/2*4)=(l.take (l.length/2)).flatMap xpC:=by
        have:l.flatMap xpC=(l.take (l.length/2)).flatMap xpC++(l.drop (l.length/2)).flatMap xpC:=by rw[<-List.flatMap_append,List.take_append_drop]
        rw[this,List.take_left' (by rw[QbU,List.length_take];omega)]
      have e2:(l.flatMap xpC).drop (l.length/2*4)=(l.drop (l.length/2)).flatMap xpC:=by
        have:l.flatMap xpC=(l.take (l.length/2)).flatMap xpC++(l.drop (l.length/2)).flatMap xpC:=by rw[<-List.flatMap_append,List.take_append_drop]
        rw[this,List.drop_left' (by rw[QbU,List.length_take];omega)]
      have l1:(l.take (l.length/2)).length=l.length/2:=by rw[List.length_take];omega
      have l2:(l.drop (l.length/2)).length=l.length-l.length/2:=by rw[List.length_drop]
      rw[l1]at q1;rw[l2]at q2
      have hw:wr IntKind.i64 ((l.length:Int).tdiv 2)=((l.length/2:Nat):Int):=by
        rw[Int.tdiv_eq_ediv_of_nonneg (by omega),Qg5 (by omega) (by omega)];omega
      have hj:xpC (joinE op (n+1) l)=[.int .i64 op,.int .i64 0,.int .i64 0,.fsl (xpC (joinE op n (l.take (l.length/2)))++xpC (joinE op n (l.drop (l.length/2)))) 2 4]:=by
        rw[joinE,if_neg h1,xpC,xpV,xpsC,xpsC,List.append_nil];rfl
      rw[hj]
      have n1:=Qa8 (joinE op n (l.take (l.length/2)))
      have n2:=Qa8 (joinE op n (l.drop (l.length/2)))
      simp(disch:=first|omega|exact PairsOK.mk rfl|(simp only[lenW]<;>omega)) only[XA.s186,h1',hlen,hw,e1,wW,wV,simprocAttr]
      refine cp q1 ?_
      have e3:((l.drop (l.length/2)).flatMap xpC).take ((l.length-l.length/2)*4)=(l.drop (l.length/2)).flatMap xpC:=by exact List.take_of_length_le (by rw[QbU,l2];exact Nat.le_refl _)
      simp(disch:=first|omega|exact PairsOK.mk rfl|(simp only[lenW]<;>omega)) only[h1',hlen,hw,e2,n1,n2,e3,wW,wV,simprocAttr]
      refine cp q2 ?_
      have m1:∀X:List AV,X.length=4->∃a b c d,X=[a,b,c,d]:=fun X h=>by
        match X,h with
        |[a,b,c,d],_=>exact⟨a,b,c,d,rfl⟩
      have o1:=Qbu (joinE op n (l.take (l.length/2)))
      have o2:=Qbu (joinE op n (l.drop (l.length/2)))
      have z1:=QaM (joinE op n (l.take (l.length/2)))
      have z2:=QaM (joinE op n (l.drop (l.length/2)))
      generalize xpC (joinE op n (l.take (l.length/2)))=X at*
      generalize xpC (joinE op n (l.drop (l.length/2)))=Y at*
      obtain⟨a,b,c,d,rfl⟩:=m1 X n1
      obtain⟨a',b',c',d',rfl⟩:=m1 Y n2
      have p1:putR [.int .i64 0,.int .i64 0,.int .i64 0,.nilsl,.int .i64 0,.int .i64 0,.int .i64 0,.nilsl] 0 [a,b,c,d]=[a,b,c,d,.int .i64 0,.int .i64 0,.int .i64 0,.nilsl]:=rfl
      have p2:putR [a,b,c,d,.int .i64 0,.int .i64 0,.int .i64 0,.nilsl] 4 [a',b',c',d']=[a,b,c,d,a',b',c',d']:=rfl
      simp(disch:=first|omega|exact PairsOK.mk rfl|(simp only[lenW]<;>omega)) only[n1,n2,p1,p2,o1,o2,wW,wV,simprocAttr]
      refine⟨.inr trivial,_,rfl,?_⟩
      show Rn 0 π0 _ (.agg _) (.agg [.int .i64 op,.int .i64 0,.int .i64 0,.sl 83 0 0 2 4])
      have hz:noRefs [a,b,c,d,a',b',c',d']=true:=Qa6 z1 z2
      refine Rn.agg (RnL.cons (Rn.same rfl) (RnL.cons (Rn.same rfl) (RnL.cons (Rn.same rfl) (RnL.cons ?_ RnL.nil))))
      exact Rn.frz (b:=83) (g:=0) (ds:=[a,b,c,d,a',b',c',d']) (by rw[Tr.QaZ _ (by decide),if_neg (by decide),Tr.QaZ _ (by decide),if_pos rfl]) (Nat.zero_le _) (fun b' g' _ e=>by cases e) (Nat.le_refl 8) (RnL.same hz)
end Go.AM.SO
namespace Go.AM.SO
open Go.Proofs Go.AM.SD Go.AM.SE
structure Lt where
 i:Nat
 lo:Int
 hi:Int
 fr:Bool
 to:Bool
def ltC (x:Lt):List AV:=[.int .i64 x.i,.int .i64 x.lo,.int .i64 x.hi,.bool x.fr,.bool x.to]
theorem Qa1 (l:List Lt):noRefs (l.flatMap ltC)=true:=Qa3 (fun x=>rfl) l
theorem Qnu (l:List Lt):(l.flatMap ltC).length=l.length*5:=QbD (k:=5) (fun _=>rfl) l
theorem QhJ {l:List Lt} {i:Nat} {x:Lt} (h:l[i]?=some x):(l.flatMap ltC).drop (i*5)= .int .i64 x.i:: .int .i64 x.lo:: .int .i64 x.hi:: .bool x.fr:: .bool x.to::(l.drop (i+1)).flatMap ltC:=Qbr (f:=ltC) (k:=5) (fun _=>rfl) h
def lit1 (m:Int) (k:Nat) (l h:Int):List Lt:=
 if l=0/\h=m then[]else if l=h then[⟨k,l,h,true,true⟩]else(if l=0 then[]else[⟨k,l,h,true,false⟩])++(if h=m then[]else[⟨k,l,h,false,true⟩])
abbrev varE (i:Nat):Xp:= .mk 1 0 i []
abbrev conE (n:Int):Xp:= .mk 0 n 0 []
abbrev truE:Xp:= .mk 6 0 0 [conE 0,conE 0]
abbrev falE:Xp:= .mk 7 0 0 [conE 0,conE 0]
def ltX (x:Lt):Xp:=if x.fr=true/\x.to=true then .mk 6 0 0 [varE x.i,conE x.lo]else if x.fr=true then .mk 9 0 0 [conE x.lo,varE x.i]else .mk 9 0 0 [varE x.i,conE x.hi]
abbrev dgB (n:Int):List UInt8:=[UInt8.ofNat (48+n.toNat)]
section
variable (v:List (List UInt8×Int))
def ltT (x:Lt):List UInt8:=if x.fr=true/\x.to=true then(v.getD x.i vr0).1++[32,61,32]++dgB x.lo else if x.fr=true then dgB x.lo++[32,60,61,32]++(v.getD x.i vr0).1 else(v.getD x.i vr0).1++[32,60,61,32]++dgB x.hi
def litN (b:Bxn):Nat->List Lt
 |0=>[]
 |k+1=>litN b k++lit1 (v.getD k vr0).2 k (b.lo.getD k 0) (b.hi.getD k 0)
def lits (b:Bxn):List Lt:=litN v b v.length
def bxE' (b:Bxn):Xp:=if(lits v b).length=0 then truE else joinE 11 (lits v b).length ((lits v b).map ltX)
def whE (bs:List Bxn):Xp:=if bs.length=0 then falE else joinE 12 bs.length (bs.map (bxE' v))
abbrev lt0:Lt:=⟨0,0,0,false,false⟩
def anT (l:List Lt):Nat->List UInt8
 |0=>[]
 |k+1=>anT l k++(if 0<k then[32,97,110,100,32]else[])++ltT v (l.getD k lt0)
def bxT (b:Bxn):List UInt8:=if(lits v b).length=0 then[116,114,117,101]else anT v (lits v b) (lits v b).length
def orT (bs:List Bxn):Nat->List UInt8
 |0=>[]
 |k+1=>orT bs k++(if 0<k then[32,111,114,32]else[])++bxT v (bs.getD k bx0)
def whT (bs:List Bxn):List UInt8:=if bs.length=0 then[102,97,108,115,101]else orT v bs bs.length
end
structure LtOk (v:List (List UInt8×Int)) (x:Lt):Prop where
 i:x.i<v.length
 l0:0<=x.lo
 l2:x.lo<=2
 h0:0<=x.hi
 h2:x.hi<=2
theorem Qpo {v:List (List UInt8×Int)} {m l h:Int} {k:Nat} (hk:k<v.length) (h0:0<=l) (h1:l<=h) (h2:h<=m) (hm:m<=2):∀x∈lit1 m k l h,LtOk v x:=by
 intro x hx
 unfold lit1 at hx
 split at hx
 ·cases hx
 split at hx
 ·rw[List.mem_singleton.1 hx];exact⟨hk,h0,by dsimp only;omega,by dsimp only;omega,by dsimp only;omega⟩
 rcases List.mem_append.1 hx with hx|hx<;>split at hx
 ·cases hx
 ·rw[List.mem_singleton.1 hx];exact⟨hk,h0,by dsimp only;omega,by dsimp only;omega,by dsimp only;omega⟩
 ·cases hx
 ·rw[List.mem_singleton.1 hx];exact⟨hk,h0,by dsimp only;omega,by dsimp only;omega,by dsimp only;omega⟩
theorem Qow {m l h:Int} {k:Nat}:(lit1 m k l h).length<=2:=by
 unfold lit1
 split
 ·simp
 split
 ·simp
 rw[List.length_append]
 split<;>split<;>simp
theorem QlI {v:List (List UInt8×Int)} (hin:∀x∈v,0<=x.2/\x.2<=2) {b:Bxn} (hb:BxOk v b):∀k,k<=v.length->∀x∈litN v b k,LtOk v x
  |0,_,x,hx=>by cases hx
  | k + 1, hk, x, hx => by
    rw[litN]at hx
    rcases List.mem_append.1 hx with hx|hx
    · exact QlI hin hb k (by omega) x hx
    · obtain ⟨y, hy⟩ := Qaj (l := v) (i := k) (by omega)
      rw[QaB hy]at hx
      have:=hb.2.2 k y hy
      exact Qpo (by omega) this.1 this.2.1 this.2.2 (hin y (List.mem_of_getElem? hy)).2 x hx
theorem QfD {v:List (List UInt8×Int)} (hin:∀x∈v,0<=x.2/\x.2<=2) {b:Bxn} (hb:BxOk v b):∀x∈lits v b,LtOk v x:=QlI hin hb v.length (Nat.le_refl _)
theorem Qcc {v:List (List UInt8×Int)} {b:Bxn}:∀k,(litN v b k).length<=2*k
 |0=>Nat.le_refl _
 |k+1=>by
  rw[litN,List.length_append]
  have:=@Qcc v b k
  have:=@Qow (v.getD k vr0).2 (b.lo.getD k 0) (b.hi.getD k 0) k
  omega
inductive BT (n:Nat):Int->Xp->Prop
 |con (v:Int):0<=v->v<=2->BT n 1 (.mk 0 v 0 [])
 |var (i:Nat):i<n->BT n 1 (.mk 1 0 i [])
 |two (o k:Int) (a b:Xp):((o=6\/o=7\/o=9)/\k=1\/(o=11\/o=12)/\k=2)->BT n k a->BT n k b->BT n 2 (.mk o 0 0 [a,b])
theorem bt_lt {v:List (List UInt8×Int)} {x:Lt} (h:LtOk v x):BT v.length 2 (ltX x):=by
 unfold ltX
 have hv:=BT.var (n:=v.length) x.i h.i
 have hl:=BT.con (n:=v.length) x.lo h.l0 h.l2
 have hh:=BT.con (n:=v.length) x.hi h.h0 h.h2
 split
 ·exact .two 6 1 _ _ (.inl ⟨.inl rfl,rfl⟩) hv hl
 split
 ·exact .two 9 1 _ _ (.inl ⟨.inr (.inr rfl),rfl⟩) hl hv
 ·exact .two 9 1 _ _ (.inl ⟨.inr (.inr rfl),rfl⟩) hv hh
theorem QfE {n:Nat} {op:Int} (ho:op=11\/op=12):∀(m:Nat) (l:List Xp),0<l.length->l.length<=m->(∀x∈l,BT n 2 x)->BT n 2 (joinE op m l)
 |0,l,h,h1,_=>by omega
 | m + 1, l, h, h1, hb => by
  rw[joinE]
  split
  ·obtain ⟨x, rfl⟩ : ∃ x, l = [x] := List.length_eq_one_iff.1 (by assumption)
   exact hb x (List.mem_singleton.2 rfl)
  ·refine .two op 2 _ _ (.inr ⟨ho, rfl⟩) (QfE ho m _ ?_ ?_ fun x hx => hb x (List.mem_of_mem_take hx)) (QfE ho m _ ?_ ?_ fun x hx => hb x (List.mem_of_mem_drop hx))
   all_goals first|rw[List.length_take]|rw[List.length_drop]
   all_goals omega
theorem Qp6 {n:Nat}:BT n 2 truE:= .two 6 1 _ _ (.inl ⟨.inl rfl,rfl⟩) (.con 0 (by decide) (by decide)) (.con 0 (by decide) (by decide))
theorem Qnv {n:Nat}:BT n 2 falE:= .two 7 1 _ _ (.inl ⟨.inr (.inl rfl),rfl⟩) (.con 0 (by decide) (by decide)) (.con 0 (by decide) (by decide))
theorem bt_bx {v:List (List UInt8×Int)} (hin:∀x∈v,0<=x.2/\x.2<=2) {b:Bxn} (hb:BxOk v b):BT v.length 2 (bxE' v b):=by
  unfold bxE'
  split
  · exact Qp6
  · refine QfE (.inl rfl) _ _ (by rw [List.length_map]; omega) (by rw [List.length_map]; exact Nat.le_refl _) fun x hx => ?_
    obtain⟨y,hy,rfl⟩:=List.mem_map.1 hx
    exact bt_lt (QfD hin hb y hy)
theorem bt_wh {v:List (List UInt8×Int)} (hin:∀x∈v,0<=x.2/\x.2<=2) {bs:List Bxn} (hb:∀b∈bs,BxOk v b):BT v.length 2 (whE v bs):=by
  unfold whE
  split
  · exact Qnv
  · refine QfE (.inr rfl) _ _ (by rw [List.length_map]; omega) (by rw [List.length_map]; exact Nat.le_refl _) fun x hx => ?_
    obtain⟨y,hy,rfl⟩:=List.mem_map.1 hx
    exact bt_bx hin (hb y hy)
theorem Qev {v:List (List UInt8×Int)} (hn:∀x∈v,x.1.length=2) {x:Lt} (h:LtOk v x):(ltT v x).length<=7/\0<(ltT v x).length:=by
 obtain⟨y,hy⟩:=Qaj h.i
 have:=hn y (List.mem_of_getElem? hy)
 unfold ltT
 rw[QaB hy]
 split
 ·simp;omega
 split<;>simp<;>omega
theorem QfF {v:List (List UInt8×Int)} (hn:∀x∈v,x.1.length=2) {l:List Lt} (h:∀x∈l,LtOk v x):∀k,k<=l.length->(anT v l k).length<=12*k/\(0<k->0<(anT v l k).length)
 |0,_=>⟨Nat.le_refl _,fun h=>absurd h (Nat.lt_irrefl _)⟩
 |k+1,hk=>by
  obtain⟨y,hy⟩:=Qaj (l:=l) (i:=k) (by omega)
  have h1:=Qev hn (h y (List.mem_of_getElem? hy))
  have h2:=QfF hn h k (by omega)
  rw[anT,QaB hy]
  split<;>simp<;>omega
theorem Qpp {v:List (List UInt8×Int)} (hn:∀x∈v,x.1.length=2) (h5:v.length<=5) (hin:∀x∈v,0<=x.2/\x.2<=2) {b:Bxn} (hb:BxOk v b):(bxT v b).length<=120/\0<(bxT v b).length:=by
 unfold bxT
 split
 ·decide
 ·have h1 := QfF hn (QfD hin hb) (lits v b).length (Nat.le_refl _)
  have h2:=@Qcc v b v.length
  have h3:(lits v b).length<=2*v.length:=h2
  omega
theorem Qew {v:List (List UInt8×Int)} (hn:∀x∈v,x.1.length=2) (h5:v.length<=5) (hin:∀x∈v,0<=x.2/\x.2<=2) {bs:List Bxn} (hb:∀b∈bs,BxOk v b):∀k,k<=bs.length->(orT v bs k).length<=124*k/\(0<k->0<(orT v bs k).length)
 |0,_=>⟨Nat.le_refl _,fun h=>absurd h (Nat.lt_irrefl _)⟩
 |k+1,hk=>by
  obtain⟨y,hy⟩:=Qaj (l:=bs) (i:=k) (by omega)
  have h1:=Qpp hn h5 hin (hb y (List.mem_of_getElem? hy))
  have h2:=Qew hn h5 hin hb k (by omega)
  rw[orT,QaB hy]
  split<;>simp<;>omega
theorem Qpq {v:List (List UInt8×Int)} (hn:∀x∈v,x.1.length=2) (h5:v.length<=5) (hin:∀x∈v,0<=x.2/\x.2<=2) {bs:List Bxn} (hb:∀b∈bs,BxOk v b):(whT v bs).length<=5+124*bs.length/\0<(whT v bs).length:=by
 unfold whT
 split
 ·simp
 ·have := Qew hn h5 hin hb bs.length (Nat.le_refl _)
  omega
def ltsN (v:List (List UInt8×Int)) (bs:List Bxn):Nat->Nat
 |0=>0
 |k+1=>ltsN v bs k+(lits v (bs.getD k bx0)).length
theorem QgF {v:List (List UInt8×Int)} {bs:List Bxn}:∀k,ltsN v bs k<=2*v.length*k
 |0=>Nat.le_refl _
 |k+1=>by
  have h1:=@QgF v bs k
  have h2:(lits v (bs.getD k bx0)).length<=2*v.length:=Qcc v.length
  rw[ltsN,Nat.mul_succ]
  omega
end Go.AM.SO
namespace Go.AM.XG
open Go.Proofs
set_option maxHeartbeats 4000000
noncomputable section
def cf:YA.Cf:={most:= .pure,always:=[73,144].map fun k=>(k,.heap),value:= .pure}
def s29:SFn:=by
 refine(?f:YA.Yt Tryz.prog cf 29 [[0,4,5],[8,9,10,11,12],[1,2,13],[4,5,13],[1,6,14,15,16],[17],[2,7,18,19],[5,2,7,18,20,21],[22],[23],[23,24]]) ?s ?h
 case h=>exact YA.rr
 exact fun s _=>s
def s30:SFn:=by
 refine(?f:YA.Yt Tryz.prog cf 30 [[0,1,4],[2,3,5,6,7,8,9,10,11,12,13,14,15,16,17,18,19,20,21,22,23,24,25,26,27,28,29,30]]) ?s ?h
 case h=>exact YA.rr
 exact fun s _=>s
def s73:SFn:=by
 refine(?f:YA.Yt Tryz.prog cf 73 [[0,8],[14,15,16,17,18,19,20],[1,2,3,4,21],[8,21,22,23,24,25,26],[28,29,30,27,31,32],[10,34,35],[1,2,3,4,9,33],[9,33,37,38,39,40,41],[1,2,3,4,36],[36,43,44,45,46,47,48,49,50,51,52,53,54,55,56,57,58,59,60],[1,2,3,4,42],[42,62,63,64,65,66,67,68,69,70,71,72,73,74,75,76,77,78,79,80,81,82,83,84,85],[1,2,3,4,61],[8,4,61,86],[],[90,91,92],[12,93,94,95,96,97,98],[99],[1,2,3,87,88,89,13,100,101],[8,13,100,102],[1,2,3,87,88,89]]) ?s ?h
 case h=>exact YA.rr
 exact fun s _=>s
def s75:SFn:=by
 refine(?f:YA.Yt Tryz.prog cf 75 [[6],[10,11,12,13],[0,1,2,14],[6,0,14],[],[18,19,20,21],[7,22,23,24,25],[8,9,26,27,28,29],[1,2,15,16,17,30],[6,30,31],[1,2,15,16,17]]) ?s ?h
 case h=>exact YA.rr
 exact fun s _=>s
def s143:SFn:=by
 refine(?f:YA.Yt Tryz.prog cf 143 [[0,3],[1,2,4,5,6,7]]) ?s ?h
 case h=>exact YA.rr
 exact fun s _=>s
def s145:SFn:=by
 refine(?f:YA.Yt Tryz.prog cf 145 [[3],[0,1,4,5,6]]) ?s ?h
 case h=>exact YA.rr
 exact fun s _=>s
theorem ok29:okFn Tryz.prog 29 s29=true:=by kernel_rfl
theorem ok30:okFn Tryz.prog 30 s30=true:=by kernel_rfl
theorem ok73:okFn Tryz.prog 73 s73=true:=by kernel_rfl
theorem ok75:okFn Tryz.prog 75 s75=true:=by kernel_rfl
theorem ok143:okFn Tryz.prog 143 s143=true:=by kernel_rfl
theorem ok145:okFn Tryz.prog 145 s145=true:=by kernel_rfl
end
end Go.AM.XG
namespace Go.AM.XH
open Go.Proofs
set_option maxHeartbeats 4000000
noncomputable section
def cf:YA.Cf:={most:= .pure}
def s74:SFn:=by
 refine(?f:YA.Yt Tryz.prog cf 74 [[0,2],[],[8],[],[12,13,14],[5,15,16],[17],[1,3,9,10,11,63,59,62,61,60,58,57,6,18],[2,6,18,19,20,21,22],[23],[9,10,11,24],[1,25],[28],[29],[3,63,59,62,61,60,58,57,7,26,27],[27,31],[32],[33],[34],[3,63,59,62,61,60,58,57,7,26,30,35],[36],[30,38],[39],[40],[41],[3,63,59,62,61,60,58,57,7,26,37,42],[43],[37,45],[46],[47],[3,63,59,62,61,60,58,57,7,26,44,48],[49],[7,26,44,51],[63,59,62,61,60,58,57,50,52,53,54,55,56],[3,64,65,66,67],[36,43,49,3,64,63,59,62,61,60,58,57,50]]) ?s ?h
 case h=>exact YA.rr
 exact fun s _=>s
theorem ok74:okFn Tryz.prog 74 s74=true:=by kernel_rfl
end
end Go.AM.XH
namespace Go.AM
variable {P:Program}
end Go.AM
namespace Go.AM
end Go.AM
namespace Go.AM
variable {P:Program}
abbrev Claims:=List (Nat×List Nat)
def clm:Claims->Nat->Option (List Nat)
 |[],_=>none
 |(j,bs)::r,d=>bif Nat.beq j d then some bs else clm r d
def absH (C:Claims) (d:Nat) (a:Option (List Nat)):Option (List Nat):=match clm C d with|some bs=>some bs|none=>a
def touch2 (i:Nat) (ax:Opd->Option (List Nat)):SOp->Option (List Nat)
 | .call .pure _ _=>some []
 |s=>s.touch i ax
theorem Qkf {i:Nat} {T:Tmps} {ax:Opd->Option (List Nat)} {s:SOper} {h h1:Heap} {v:AV} {f:FP} {ts:List Nat} (hax:∀x bs,ax x=some bs->Pts (ev T x) bs) (ht:touch2 i ax s.op=some ts) (hs:StepV P i s T h v h1 f):
  f.all=false/\∀b,b∈f.R\/b∈f.W->b∈ts:=by
 by_cases hc:∃x asg,s.op= .call .pure x asg
 ·obtain ⟨x, asg, hop⟩ := hc
  have key:StepX P i s.op T h v h1 f->f.all=false/\∀b,b∈f.R\/b∈f.W->b∈ts:=by
   rintro⟨out,h2,hm,ho⟩
   rw[hop]at hm ho
   simp only[aop]at hm ho
   cases hx:ev T x with
   |fn f' first cap=>
    rw[hx]at hm ho
    simp only[aCall,HM.run,Option.some.injEq,Prod.mk.injEq]at hm
    obtain⟨rfl,rfl⟩:=hm
    simp only[aCall,HM.fp]at ho
    obtain⟨_,_,rfl⟩:=ho
    exact⟨rfl,fun b hb=>by simp[fpOf]at hb⟩
   |_=>rw[hx]at hm;simp[aCall,HM.run]at hm
  unfold StepV at hs
  grind
 ·refine Qge hax ?_ hs
  simp_all [touch2]
def touchesH (C:Claims) (n:Nat) (T:Tmps):List SOper->Abs->List (Option (List Nat))
 |[],_=>[]
 |s::r,A=>touch2 n (absO T A) s.op::touchesH C (n+1) T r (match s.dst with|some d=>(d,absH C d (s.op.absV n (absO T A)))::A|none=>A)
def ssa (C:Claims):List SOper->Bool
 |[]=>true
 |s::r=>(match s.dst with|some d=>(clm C d).isNone||r.all fun s'=>(match s'.dst with|some e=> !Nat.beq e d|none=>true)|none=>true)&&ssa C r
theorem QlJ:∀{r:List SOper} {n:Nat} {T:Tmps} {h:Heap} {K:Tmps->Heap->Nat->Prop},wpR P n r T h K->∃T' h' n',K T' h' n'/\∀d,(∀s∈r,s.dst≠some d)->lk T' d=lk T d
 |[],n,T,h,K,hk=>⟨T,h,n,hk,fun _ _=>rfl⟩
 |s::r,n,T,h,K,⟨v,h1,f,hs,hr⟩=>by
  obtain⟨T',h',n',hk,he⟩:=QlJ hr
  refine⟨T',h',n',hk,fun d hd=>?_⟩
  simp_all [QbS]
theorem Qkg {T0:Tmps} {C:Claims}:∀{r:List SOper} {n:Nat} {A:Abs} {T:Tmps} {h:Heap} {K:Tmps->Heap->Nat->Prop} (hA:AbsOK T0 A T) (K':List FP->Tmps->Heap->Nat->Prop)
  (hC:∀T h n,K T h n->∀d bs,clm C d=some bs->Pts (lk T d) bs) (hssa:ssa C r=true),
  (∀fs T h n',fs.length=r.length->(∀(j:Nat) ts,(touchesH C n T0 r A).getD j none=some ts->(fs.getD j ⟨false,[],[]⟩).all=false/\∀b,b∈(fs.getD j ⟨false,[],[]⟩).R\/b∈(fs.getD j ⟨false,[],[]⟩).W->b∈ts)->K T h n'->K' fs T h n')->
  wpR P n r T h K->wpRF P n r T h K'
 |[],n,A,T,h,K,hA,K',hC,hssa,hK,hw=>hK [] T h n rfl (fun j ts hj=>by simp_all) hw
 | s :: r, n, A, T, h, K, hA, K', hC, hssa, hK, hw => by
  obtain⟨v,h1,f,hs,hr⟩:=hw
  simp only[ssa,Bool.and_eq_true]at hssa
  obtain⟨hs1,hs2⟩:=hssa
  refine⟨v,h1,f,hs,?_⟩
  have hA2:AbsOK T0 (match s.dst with|some d=>(d,absH C d (s.op.absV n (absO T0 A)))::A|none=>A) (putD T s.dst v):=by
   cases e:s.dst with
   |none=>exact hA
   | some d =>
    refine AbsOK.up hA fun bs hb=>?_
    unfold absH at hb
    split at hb
    ·rename_i bs' hc
     cases hb
     obtain⟨T',h',n',hk,he⟩:=QlJ hr
     have h3:=hC T' h' n' hk d _ hc
     rw[he d ?_,QbS,if_pos e]at h3
     ·exact h3
     ·intro s' hs'
      rw[e]at hs1
      simp only[hc,Option.isNone_some,Bool.false_or,List.all_eq_true]at hs1
      have:=hs1 s' hs'
      intro e2
      simp_all
    ·exact Qhh hA.opd hb hs
  refine Qkg hA2 (fun fs T h n=>K' (f::fs) T h n) hC hs2 (fun fs T h n' hl hf hk=>?_) hr
  refine hK (f::fs) T h n' (by simp[hl]) (fun j ts hj=>?_) hk
  cases j with
  |zero=>
   simp only[touchesH,List.getD_cons_zero]at hj⊢
   exact Qkf hA.opd hj hs
  |succ j=>
   simp only[touchesH,List.getD_cons_succ]at hj⊢
   exact hf j ts hj
def Clms (T:Tmps):Claims->Prop
 |[]=>True
 |(d,bs)::r=>Pts (lk T d) bs/\Clms T r
theorem Clms.get {T:Tmps}:∀{C:Claims},Clms T C->∀d bs,clm C d=some bs->Pts (lk T d) bs
 |[],_,d,bs,h=>by cases h
 | (j, cs) :: r, hh, d, bs, h => by
  simp only[clm]at h
  cases e:Nat.beq j d with
  |true=>
   rw[e]at h
   simp only[cond_true,Option.some.injEq]at h
   have:j=d:=by simpa using e
   subst this;subst h;exact hh.1
  |false=>rw[e]at h;exact Clms.get hh.2 d bs h
theorem QbM (C:Claims) {N:NM} {ops:List SOper} {p:Nat×Nat} {ps:List (Nat×Nat)} {dead:List Nat} {fs:List Fr} {n:Nat} {T:Tmps} {h:Heap} {Q:QC} (hssa:ssa C ops=true) (hp:pairsOK (touchesH C n T ops []) (p::ps)=true)
  (hw:wR P N ops [] [] n T h fun e T h n=>Clms T C/\wX P N .normal fs n (rm T dead) h Q):wS P N (.region ops (p::ps) dead) fs n T h Q:=by
 have rm0:∀T:Tmps,rm T []=T:=by
  intro T
  induction T with
  |nil=>rfl
  |cons p T ih=>obtain⟨j,v⟩:=p;simp[rm,ih]
 refine Qkg (C:=C) (K:=fun T h n=>Clms T C/\wX P N .normal fs n (rm T dead) h Q) AbsOK.nil _ (fun T h n hk d bs hc=>hk.1.get d bs hc) hssa (fun fs' T h n' hl hf hk=>⟨?_,hk.2⟩) ?_
 ·rw [List.all_eq_true]
  intro q hq
  have:=List.all_eq_true.1 hp q hq
  split at this
  ·rename_i a b ha hb
   obtain⟨f1,f2⟩:=hf _ _ ha
   obtain⟨g1,g2⟩:=hf _ _ hb
   have hd:∀x y,x∈a->y∈b->x≠y:=by
    grind
   have dj:∀xs ys:List Nat,(∀x∈xs,∀y∈ys,x≠y)->disj xs ys=true:=by
    intro xs ys hh
    unfold disj
    grind
   grind [FP.apart]
  ·cases this
 ·have hw' : wpR P n ops T h fun T h n => Clms (rm T []) C /\ wX P N .normal fs n (rm (rm T []) dead) h Q := hw
  simp_all
end Go.AM
namespace Go.AM
variable {P:Program} {N:NM} {n:Nat} {d:Option Nat} {af dead:List Nat} {r:List SOper} {T:Tmps} {h:Heap} {Q:QC} {fs:List Fr}
def wAn (P:Program) (N:NM) (ys:Option (List AV)) (len sz bytes:Nat) (d:Option Nat) (ops:List SOper) (dead:List Nat) (fs:List Fr) (n:Nat) (T:Tmps) (h:Heap) (Q:QC):Prop:=
 ∃y,ys=some y/\(len*bytes<=140737488355328/\len<=140737488355328)/\y.all AV.one=true/\wN P N y (.sl n 0 0 len sz) d ops dead fs n T h Q
theorem Qd2 {sz bytes b g off len:Nat} (hl:0<len):wM P N (aAppend .dyn n sz bytes .nilsl (.sl b g off len sz)) d r dead fs n T h Q=wAn P N (srcB (h.get b) g off len sz) len sz bytes d r dead fs n T h Q:=by
 obtain⟨k,rfl⟩:∃k,len=k+1:=⟨len-1,by omega⟩
 rw[QkX]
 rfl
theorem QgG {ys:List AV} {len sz bytes:Nat} (h1:len*bytes<=140737488355328) (h2:len<=140737488355328):wAn P N (some ys) len sz bytes d r dead fs n T h Q=if ys.all AV.one=true then wN P N ys (.sl n 0 0 len sz) d r dead fs n T h Q else False:=by
 by_cases ho:ys.all AV.one=true
 ·rw [if_pos ho]; apply propext; constructor
  ·rintro⟨y,e1,_,_,h5⟩;simp_all
  ·intro h5;exact⟨ys,rfl,⟨h1,h2⟩,ho,h5⟩
 ·rw [if_neg ho]; apply propext; constructor
  ·rintro⟨y,e1,_,h4,h5⟩;grind
  simp_all
end Go.AM
namespace Go.AM
end Go.AM
namespace Go.AM
theorem Rn.nilK {m:Nat} {π:Nat->Option Src} {h:Heap} {sz:Nat}:Rn m π h (.fsl [] 0 sz) .nilsl:=fun _ c w v H M hv=>by
 simp_all [VRel]
end Go.AM
namespace Go.AM
variable {P:Program}
end Go.AM
namespace Go.AM
variable {P:Program}
theorem HSpec.empty {f sz:Nat} {asg:List AV} {h h':Heap} {v:AV} (h1:HSpec P f (.nilsl::asg) h v h') (h2:HSpec P f (.nsl::asg) h v h'):HSpec P f (.fsl [] 0 sz::asg) h v h':=by
 obtain⟨hc,h1⟩:=h1
 obtain⟨_,h2⟩:=h2
 refine⟨hc,fun c w cargs H ha=>?_⟩
 simp only[VRels]at ha
 obtain⟨u,us,e,hv,hr⟩:=ha
 simp only[VRel]at hv
 rcases hv with⟨⟨a,rfl⟩,_⟩|⟨cb,off,cap,C,_,_,rfl,_⟩
 ·cases a with
  |none=>exact h1 c w cargs H (by rw[e];simp only[VRels];exact⟨_,_,rfl,by simp[VRel],hr⟩)
  |some a=>exact h2 c w cargs H (by rw[e];simp only[VRels];exact⟨_,_,rfl,by simp[VRel],hr⟩)
 ·exact h2 c w cargs H (by rw[e];simp only[VRels];exact⟨_,_,rfl,by simp[VRel],hr⟩)
end Go.AM
namespace Go.AM
end Go.AM
namespace Go.AM
variable {P:Program}
theorem HSpec.freeze {f b g len sz : Nat} {args ds : List AV} {h h1 : Heap} (S : HSpec P f args h (.sl b g 0 len sz) h1) (hb : h1.get b = some (.cells g ds)) (hf : flatVs ds = true) (hl : len * sz <= ds.length)
    (hlim:Nat.blt b 1099511627775=true):HSpec P f args h (.fsl (ds.take (len*sz)) len sz) (h1.set b (.dead g)):=by
  have hlim':b<1099511627775:=by simp_all
  obtain⟨hc,hs⟩:=S
  refine⟨hc,fun c w cargs H ha=>(hs c w cargs H ha).mono ?_⟩
  rintro e w' ⟨cv,c',rfl,E,H',V⟩
  have hlive:Live h1 b g:=⟨_,hb,rfl,fun _=>by simp⟩
  let c2:Ctx (okc P):={c' with F:=fun k=>c'.F k\/∃base,c'.ρ b g=some (.loc k base),O:=fun k=>c'.O k/\¬∃base,c'.ρ b g=some (.loc k base)}
  have hset:∀k,(h1.set b (.dead g)).get k=if k=b then some (.dead g)else h1.get k:=fun k=>by
    by_cases e:k=b
    · subst e;rw[Qbj hlim',if_pos rfl]
    simp_all [Qbt]
  have hlv:∀k y,Live (h1.set b (.dead g)) k y->k≠b/\Live h1 k y:=by
    rintro k y ⟨x,hk,hg,hd⟩
    rw[hset]at hk
    split at hk
    · grind
    · rename_i e;exact⟨e,x,hk,hg,hd⟩
  have E2:Evo c w c2 w':=⟨E.os,E.tape,E.output,E.size,E.shape,E.keep,E.rho,fun k hk=> .inl (E.frz k hk),fun k hk=>by
    rcases hk with hk|⟨base,hk⟩
    · exact E.frzNew k hk
    · rcases E.own k (H'.owned hlive hk) with h | h
      · simp_all
      omega,fun k hk=>E.own k hk.1,E.base⟩
  refine⟨cv,c2,rfl,E2,⟨fun k hk y=>?_,fun k x hk y hlt=>?_,fun k x hk=>?_,fun k y k' y' cb base base' l1 l2 p1 p2=>H'.inj k y k' y' cb base base' (hlv _ _ l1).2 (hlv _ _ l2).2 p1 p2,fun k hF hO=>?_,fun k hF=>?_,fun k hO=>H'.inO k hO.1⟩,?_⟩
  · rw [hset] at hk
    split at hk
    · cases hk
    · exact H'.fresh k hk y
  · rw [hset] at hk
    split at hk
    · rename_i e; subst e; cases hk
      exact H'.later k _ hb y hlt
    · exact H'.later k x hk y hlt
  · rw [hset] at hk
    split at hk
    · cases hk;trivial
    · rename_i e
      refine BRel.mono (c:=c') (c':=c2) (w:=w') (w':=w') ⟨fun _ _ _ h=>h,fun _ h=> .inl h,fun _ _ _ h=>h,fun _ C _ fr h=>⟨C,fr,h,rfl⟩⟩ (fun cb base hd hp=>?_) (H'.blk k x hk)
      have hlk:Live h1 k x.gen:=⟨x,hk,rfl,hd⟩
      exact⟨⟨H'.owned hlk hp,fun⟨base',hp'⟩=>e (H'.inj _ _ _ _ _ _ _ hlk hlive hp hp')⟩,rfl⟩
  · rcases hF with hF | hF
    · exact H'.disj k hF hO.1
    grind
  · rcases hF with hF | ⟨base, hF⟩
    · exact H'.inF k hF
    · exact H'.inO k (H'.owned hlive hF)
  · simp only [VRel] at V
    rcases V with⟨hp,rfl,_,rfl⟩|⟨cb,base,o,cap,C,e,fr,hp,rfl,hlc,hC,hcap⟩
    · simp_all [VRel]
    · obtain ⟨C', e', fr', hO, hC', hfr, hbs, hpre⟩ := H'.here hb hp
      rw[hC]at hC';cases hC'
      have hF:c2.F cb:= .inr ⟨base,hp⟩
      by_cases h0:cap=0
      · have hl0 : len = 0 := by omega
        subst hl0
        simp only[VRel]
        simp_all
      · obtain ⟨rfl, hbd⟩ := hcap.resolve_left h0
        have hp2:=VPre.flat (c':=c2) (w':=w') hf hpre
        have hp3:=VPre_take2 (len*sz) hp2
        simp only[VRel]
        grind
where
  VPre_take2 {c:Ctx (okc P)} {w:World}:∀(n:Nat) {xs:List AV} {vs:List Value},VPre c w xs vs->VPre c w (xs.take n) vs
    |0,xs,vs,h=>by simp[VPre]
    |n+1,[],vs,h=>by simp[VPre]
    | n + 1, x :: xs, vs, h => by
      simp only[VPre]at h
      obtain⟨v,vs',rfl,h1,h2⟩:=h
      simp only[List.take_succ_cons,VPre]
      exact⟨v,vs',rfl,h1,VPre_take2 n h2⟩
end Go.AM
namespace Go.AM
variable {P:Program}
def OnlyD (D:Nat->Prop) (args:List AV):Prop:=∀(ok:Okc) (c c1:Ctx ok) (w:World) (vs:List Value),(∀b g,D b->c1.ρ b g=c.ρ b g)->(∀k,c.F k->c1.F k)->VRels c w args vs->VRels c1 w args vs
theorem OnlyD.nil {D:Nat->Prop}:OnlyD D []:=fun _ c c1 w vs _ _ h=>by grind [VRels]
theorem OnlyD.cons {D:Nat->Prop} {x:AV} {xs:List AV} (hx:OnlyD D [x]) (h:OnlyD D xs):OnlyD D (x::xs):=fun ok c c1 w vs h1 h2 hv=>by
 simp only[VRels]at hv⊢
 obtain⟨v,vs',rfl,h3,h4⟩:=hv
 have:=hx ok c c1 w [v] h1 h2 (by simp only[VRels];simp_all)
 simp only[VRels]at this
 obtain⟨v2,vs2,e,h5,_⟩:=this
 cases e
 exact⟨v,vs',rfl,h5,h _ c c1 w vs' h1 h2 h4⟩
theorem OnlyD.same {D:Nat->Prop} {x:AV} (hn:noRef x=true):OnlyD D [x]:=fun _ c c1 w vs h1 h2 hv=>by
 simp only[VRels]at hv⊢
 obtain⟨v,vs',rfl,h3,h4⟩:=hv
 exact⟨v,vs',rfl,VRel.noRef h2 _ _ hn h3,h4⟩
theorem OnlyD.sl {D:Nat->Prop} {b g off len sz:Nat} (hb:D b):OnlyD D [.sl b g off len sz]:=fun _ c c1 w vs h1 h2 hv=>by
 simp only[VRels]at hv⊢
 obtain⟨v,vs',rfl,h3,h4⟩:=hv
 refine⟨v,vs',rfl,?_,h4⟩
 simp_all [VRel]
theorem OnlyD.ptr {D:Nat->Prop} {b g off:Nat} (hb:D b):OnlyD D [.ptr b g off]:=fun _ c c1 w vs h1 h2 hv=>by
 simp only[VRels]at hv⊢
 obtain⟨v,vs',rfl,h3,h4⟩:=hv
 refine⟨v,vs',rfl,?_,h4⟩
 simp_all [VRel]
theorem OnlyD.fn {D:Nat->Prop} {f:Nat} {xs ys:List AV} (hx:OnlyD D xs) (hy:OnlyD D ys):OnlyD D [.fn f xs ys]:=fun ok c c1 w vs h1 h2 hv=>by
 simp only[VRels]at hv⊢
 obtain⟨v,vs',rfl,h3,h4⟩:=hv
 refine⟨v,vs',rfl,?_,h4⟩
 simp only[VRel]at h3⊢
 obtain⟨x',y',rfl,g1,g2⟩:=h3
 exact⟨x',y',rfl,hx ok c c1 w _ h1 h2 g1,hy ok c c1 w _ h1 h2 g2⟩
theorem OnlyD.map {D:Nat->Prop} {b g:Nat} (hb:D b):OnlyD D [.map b g]:=fun _ c c1 w vs h1 h2 hv=>by
 simp only[VRels]at hv⊢
 obtain⟨v,vs',rfl,h3,h4⟩:=hv
 refine⟨v,vs',rfl,?_,h4⟩
 simp_all [VRel]
def NoRefB:Blk->Prop
 | .cells _ cs=>noRefs cs=true
 | .map _ es=>∀e∈es,noRef e.1=true/\noRef e.2=true
 | .dead _=>True
 |_=>False
theorem VPre.noRef2 {ok:Okc} {c c':Ctx ok} {w:World} (hF:∀k,c.F k->c'.F k) {xs:List AV} {vs:List Value} (hn:noRefs xs=true) (h:VPre c w xs vs):VPre c' w xs vs:=VPre.noRef hF _ _ hn h
theorem MRel.noRef2 {ok:Okc} {c c':Ctx ok} {w:World} (hF:∀k,c.F k->c'.F k):∀{xs:List (AV×AV)} {es:List MapEntry} {clock:Nat},(∀e∈xs,noRef e.1=true/\noRef e.2=true)->MRel c w xs es clock->MRel c' w xs es clock
 |[],_,_,_,h=>h
 |(k,x)::r,es,clock,hn,h=>by
  obtain⟨e,es',h1,h2,h3,h4,h5,h6⟩:=h
  obtain⟨q1,q2⟩:=hn (k,x) (by simp)
  exact⟨e,es',h1,VRel.noRef hF _ _ q1 h2,VRel.noRef hF _ _ q2 h3,h4,h5,MRel.noRef2 hF (fun e he=>hn e (by simp[he])) h6⟩
theorem NoRefB.rel {ok:Okc} {c c':Ctx ok} {w:World} {b:Nat} {x:Blk} (hx:NoRefB x) (hF:∀k,c.F k->c'.F k) (hr:∀g,c'.ρ b g=c.ρ b g) (hO:∀k g base,c.ρ b g=some (.loc k base)->(∀j,x≠ .dead j)->x.gen=g->c.O k->c'.O k) (h:BRel c w b x):BRel c' w b x:=by
 cases x with
 |dead g=>trivial
 |map g es=>
  obtain⟨cb,es',clock,h1,h2,h3,h4⟩:=h
  exact⟨cb,es',clock,(hr _).trans h1,hO cb g 0 h1 (fun _=>by simp) rfl h2,h3,MRel.noRef2 hF hx h4.1,h4.2⟩
 |loop=>exact hx.elim
 |cells g cs=>
  rcases h with⟨h1,h2⟩|⟨cb,base,C,e,fr,h1,h2,h3,h4,h5,h6⟩
  ·exact .inl ⟨(hr _).trans h1,h2⟩
  ·exact .inr ⟨cb,base,C,e,fr,(hr _).trans h1,hO cb g base h1 (fun _=>by simp) rfl h2,h3,h4,h5,VPre.noRef2 hF hx h6⟩
theorem HSpec.frame {f : Nat} {args : List AV} {v : AV} {h h1 h1' h' : Heap} (D : Nat -> Prop) [DecidablePred D] (hs : HSpec P f args h1 v h1') (ha : OnlyD D args) (hv : OnlyD D [v])
    (e1:∀k,h1.get k=if D k then h.get k else none) (e2:∀k,¬D k->h1'.get k=none) (e3:∀k,h'.get k=if D k then h1'.get k else h.get k)
    (n1:∀k x,h1.get k=some x->NoRefB x) (n2:∀k x,h1'.get k=some x->NoRefB x):HSpec P f args h v h':=by
  obtain⟨hc,hs⟩:=hs
  refine⟨hc,fun c w cargs H hargs=>?_⟩
  let c1:Ctx (okc P):={ρ:=fun k y=>if D k then c.ρ k y else none,F:=c.F,O:=fun k=>∃b g base,D b/\Live h b g/\c.ρ b g=some (.loc k base),base:=c.base}
  have hr1:∀b y,D b->c1.ρ b y=c.ρ b y:=fun b y hb=>if_pos hb
  have hO1:∀k,c1.O k->c.O k:=fun k ⟨b,g,base,_,hl,hk⟩=>H.owned hl hk
  have hg1:∀{k x},h1.get k=some x->D k/\h.get k=some x:=fun{k x} hk=>by
    simp_all
  have hl1:∀{k y},Live h1 k y->D k/\Live h k y:=fun{k y} ⟨x,hk,hx,hd⟩=>⟨(hg1 hk).1,x,(hg1 hk).2,hx,hd⟩
  have H1:HRel c1 h1 w:=by
    refine⟨fun k hk y=>?_,fun k x hk y hlt=>?_,fun k x hk=>?_,fun k y k' y' cb base base' l1 l2 p1 p2=>?_,fun k hF hO=>H.disj k hF (hO1 k hO),H.inF,fun k hO=>H.inO k (hO1 k hO)⟩
    · rw [e1] at hk
      split at hk
      · rename_i hd;rw[hr1 _ _ hd];exact H.fresh k hk y
      grind
    · obtain ⟨hd, hk⟩ := hg1 hk
      rw[hr1 _ _ hd];exact H.later k _ hk y hlt
    · obtain ⟨hd, hk2⟩ := hg1 hk
      exact NoRefB.rel (c:=c) (c':=c1) (n1 k x hk) (fun _ h=>h) (fun g=>hr1 k g hd) (fun cb g base hp hne hgen _=>⟨k,g,base,hd,⟨x,hk2,hgen,hne⟩,hp⟩) (H.blk k x hk2)
    · obtain ⟨d1, l1⟩ := hl1 l1
      obtain⟨d2,l2⟩:=hl1 l2
      rw[hr1 _ _ d1]at p1
      rw[hr1 _ _ d2]at p2
      exact H.inj _ _ _ _ _ _ _ l1 l2 p1 p2
  refine(hs c1 w cargs H1 (ha _ c c1 w _ (fun b g hb=>hr1 b g hb) (fun _ h=>h) hargs)).mono ?_
  rintro e w' ⟨cv,c',rfl,E,H',V⟩
  let c2:Ctx (okc P):={ρ:=fun k y=>if D k then c'.ρ k y else c.ρ k y,F:=c'.F,O:=fun k=>c'.O k\/(c.O k/\¬c1.O k),base:=c.base}
  have hrD:∀b y,D b->c2.ρ b y=c'.ρ b y:=fun b y hb=>if_pos hb
  have hrN:∀b y,¬D b->c2.ρ b y=c.ρ b y:=fun b y hb=>if_neg hb
  have E2:Evo c w c2 w':=by
    refine⟨E.os,E.tape,E.output,E.size,E.shape,fun k hk hO=>E.keep k hk fun h=>hO (hO1 k h),fun b y p hp=>?_,fun k hk=>E.frz k hk,fun k hk=>?_,fun k hk=>?_,rfl⟩
    · by_cases hd : D b
      · rw[hrD _ _ hd];exact E.rho b y p ((hr1 _ _ hd).trans hp)
      simp_all
    · rcases E.frzNew k hk with h | h | h
      · exact .inl h
      · simp_all
      omega
    · rcases hk with hk | hk
      · rcases E.own k hk with h | h
        · simp_all
        · exact .inr h
      simp_all
  have hg3:∀{k x},h'.get k=some x->(D k/\h1'.get k=some x)\/(¬D k/\h.get k=some x):=fun{k x} hk=>by
    grind
  have hl3:∀{k y},Live h' k y->(D k/\Live h1' k y)\/(¬D k/\Live h k y):=fun{k y} ⟨x,hk,hx,hd⟩=>by
    rcases hg3 hk with⟨q1,q2⟩|⟨q1,q2⟩
    · exact .inl ⟨q1,x,q2,hx,hd⟩
    · exact .inr ⟨q1,x,q2,hx,hd⟩
  have hout:∀{k y cb base},¬D k->Live h k y->c.ρ k y=some (.loc cb base)->¬c1.O cb:=by
    rintro k y cb base hd hl hp ⟨b,g,base',hb,hlb,hpb⟩
    have:=H.inj _ _ _ _ _ _ _ hl hlb hp hpb
    simp_all
  have hcross:∀{k y k' y' cb base base'},D k->Live h1' k y->c'.ρ k y=some (.loc cb base)->¬D k'->Live h k' y'->c.ρ k' y'=some (.loc cb base')->False:=by
    intro k y k' y' cb base base' hd l1 p1 hd' l2 p2
    rcases E.own cb (H'.owned l1 p1)with h|h
    · grind
    · have:=H.inO cb (H.owned l2 p2);omega
  refine⟨cv,c2,rfl,E2,⟨fun k hk y=>?_,fun k x hk y hlt=>?_,fun k x hk=>?_,fun k y k' y' cb base base' l1 l2 p1 p2=>?_,fun k hF hO=>?_,H'.inF,fun k hO=>?_⟩,?_⟩
  · rw [e3] at hk
    split at hk
    · rename_i hd;rw[hrD _ _ hd];exact H'.fresh k hk y
    · rename_i hd;rw[hrN _ _ hd];exact H.fresh k hk y
  · rcases hg3 hk with ⟨hd, hk⟩ | ⟨hd, hk⟩
    · rw[hrD _ _ hd];exact H'.later k x hk y hlt
    · rw[hrN _ _ hd];exact H.later k x hk y hlt
  · rcases hg3 hk with ⟨hd, hk⟩ | ⟨hd, hk⟩
    · exact NoRefB.rel (c:=c') (c':=c2) (n2 k x hk) (fun _ h=>h) (fun g=>hrD k g hd) (fun cb g base hp hne hgen hO=> .inl hO) (H'.blk k x hk)
    · refine BRel.mono (E2.ext H.disj) (fun cb base hne hp => ?_) (H.blk k x hk)
      have hl:Live h k x.gen:=⟨x,hk,rfl,hne⟩
      have hO:=H.owned hl hp
      have hn:=hout hd hl hp
      exact⟨.inr ⟨hO,hn⟩,E.keep cb (H.inO cb hO) hn⟩
  · rcases hl3 l1 with ⟨d1, l1⟩ | ⟨d1, l1⟩
    · rw [hrD _ _ d1] at p1
      rcases hl3 l2 with⟨d2,l2⟩|⟨d2,l2⟩
      · rw [hrD _ _ d2] at p2
        exact H'.inj _ _ _ _ _ _ _ l1 l2 p1 p2
      grind
    · rw [hrN _ _ d1] at p1
      rcases hl3 l2 with⟨d2,l2⟩|⟨d2,l2⟩
      · grind
      · rw [hrN _ _ d2] at p2
        exact H.inj _ _ _ _ _ _ _ l1 l2 p1 p2
  · rcases hO with hO | ⟨hO, hn⟩
    · exact H'.disj k hF hO
    · rcases E.frzNew k hF with h | h | h
      · exact H.disj k h hO
      · exact hn h
      · have:=H.inO k hO;omega
  · rcases hO with hO | ⟨hO, _⟩
    · exact H'.inO k hO
    · exact Nat.lt_of_lt_of_le (H.inO k hO) E.size
  · have h5 : VRels c' w' [v] [cv] := by simp only [VRels]; simp_all
    have h6:=hv _ c' c2 w' [cv] (fun b g hb=>hrD b g hb) (fun _ h=>h) h5
    simp_all [VRels]
theorem Qb3 {b:Nat} {x:Blk} (hb:b<1099511627775) (k:Nat):(hp [(b,x)]).get k=if k=b then some x else none:=by
 simp only[hp]
 by_cases e:k=b
 ·subst e;rw[Qbj hb,if_pos rfl]
 simp_all [Qbt,get_e]
theorem Qex {b c:Nat} {x y:Blk} (hb:b<1099511627775) (hc:c<1099511627775) (k:Nat):(hp [(b,x),(c,y)]).get k=if k=b then some x else if k=c then some y else none:=by
 rw[QcI]
 by_cases e:k=b
 ·subst e;rw[Qbj hb,if_pos rfl]
 simp_all [Qbt,Qb3]
theorem HSpec.frameA {f b g g':Nat} {args xs ys:List AV} {v:AV} {h:Heap} (hs:HSpec P f args (hp [(b,.cells g xs)]) v (hp [(b,.cells g' ys)])) (ha:OnlyD (fun k=>k=b) args) (hv:OnlyD (fun k=>k=b) [v]) (hx:noRefs xs=true) (hy:noRefs ys=true)
  (hb:h.get b=some (.cells g xs)) (hlim:Nat.blt b 1099511627775=true):HSpec P f args h v (h.set b (.cells g' ys)):=by
 have hlim':b<1099511627775:=by simp_all
 refine HSpec.frame (fun k=>k=b) hs ha hv (fun k=>?_) (fun k hk=>?_) (fun k=>?_) (fun k x hk=>?_) (fun k x hk=>?_)
 ·rw [Qb3 hlim']
  simp_all
 ·simp_all [Qb3]
 ·rw [Qb3 hlim']
  by_cases e:k=b
  ·subst e;rw[if_pos rfl,if_pos rfl,Qbj hlim']
  simp_all [Qbt]
 ·rw [Qb3 hlim'] at hk
  split at hk
  ·cases hk;exact hx
  ·cases hk
 ·rw [Qb3 hlim'] at hk
  split at hk
  ·cases hk;exact hy
  ·cases hk
theorem HSpec.frameM {f b g g':Nat} {args:List AV} {xs ys:List (AV×AV)} {v:AV} {h:Heap} (hs:HSpec P f args (hp [(b,.map g xs)]) v (hp [(b,.map g' ys)])) (ha:OnlyD (fun k=>k=b) args) (hv:OnlyD (fun k=>k=b) [v]) (hx:∀e∈xs,noRef e.1=true/\noRef e.2=true) (hy:∀e∈ys,noRef e.1=true/\noRef e.2=true)
  (hb:h.get b=some (.map g xs)) (hlim:Nat.blt b 1099511627775=true):HSpec P f args h v (h.set b (.map g' ys)):=by
 have hlim':b<1099511627775:=by simp_all
 refine HSpec.frame (fun k=>k=b) hs ha hv (fun k=>?_) (fun k hk=>?_) (fun k=>?_) (fun k x hk=>?_) (fun k x hk=>?_)
 ·rw [Qb3 hlim']
  simp_all
 ·simp_all [Qb3]
 ·rw [Qb3 hlim']
  by_cases e:k=b
  ·subst e;rw[if_pos rfl,if_pos rfl,Qbj hlim']
  simp_all [Qbt]
 ·rw [Qb3 hlim'] at hk
  split at hk
  ·cases hk;exact hx
  ·cases hk
 ·rw [Qb3 hlim'] at hk
  split at hk
  ·cases hk;exact hy
  ·cases hk
theorem HSpec.frameB {f a ga b g g':Nat} {args us xs ys:List AV} {v:AV} {h:Heap} (hs:HSpec P f args (hp [(a,.cells ga us),(b,.cells g xs)]) v (hp [(a,.cells ga us),(b,.cells g' ys)])) (ha:OnlyD (fun k=>k=a\/k=b) args) (hv:OnlyD (fun k=>k=a\/k=b) [v])
  (hu:noRefs us=true) (hx:noRefs xs=true) (hy:noRefs ys=true) (ha2:h.get a=some (.cells ga us)) (hb:h.get b=some (.cells g xs)) (hab:a≠b) (hlima:Nat.blt a 1099511627775=true) (hlim:Nat.blt b 1099511627775=true):HSpec P f args h v (h.set b (.cells g' ys)):=by
 have hl1:a<1099511627775:=by simp_all
 have hl2:b<1099511627775:=by simp_all
 refine HSpec.frame (fun k=>k=a\/k=b) hs ha hv (fun k=>?_) (fun k hk=>?_) (fun k=>?_) (fun k x hk=>?_) (fun k x hk=>?_)
 ·rw [Qex hl1 hl2]
  grind
 ·simp_all [Qex]
 ·rw [Qex hl1 hl2]
  by_cases e:k=a
  ·subst e;rw[if_pos rfl,if_pos (.inl rfl),Qbt hl2 hab,ha2]
  ·rw [if_neg e]
   by_cases e2:k=b
   ·subst e2;rw[if_pos rfl,if_pos (.inr rfl),Qbj hl2]
   simp_all [Qbt]
 ·rw [Qex hl1 hl2] at hk
  split at hk
  ·cases hk;exact hu
  ·split at hk
   ·cases hk;exact hx
   ·cases hk
 ·rw [Qex hl1 hl2] at hk
  split at hk
  ·cases hk;exact hu
  ·split at hk
   ·cases hk;exact hy
   ·cases hk
theorem HSpec.QlK {f m:Nat} {sf:SFn} {args:List AV} {L0 L:HL} {v:AV} (n:Nat) (hok:okFn P f sf=true) (hl:Nat.ble args.length sf.n=true) (hm:(Nat.ble m 1099511627775&&L0.all fun p=>Nat.blt p.1 m)=true)
  (hw:wS P ⟨sf.n,m⟩ sf.body [] n (argT 0 args) (hp L0) fun e T k _=>(e= .normal\/e= .ret)/\∃vs,resV T k sf.res=some vs/\Rec m [(0,v)] L [(0,resOf vs)] k):HSpec P f args (hp L0) v (hp L):=by
 simp only[Bool.and_eq_true,Nat.ble_eq]at hm
 refine HSpec.of_W2 hok (Nat.le_of_ble_eq_true hl) (fun b hb=>?_) ((wpC.toW hw).mono ?_)
 ·have : ∀ M : HL, M.all (fun p => Nat.blt p.1 m) = true -> (hp M).get b = none := by
   intro M
   induction M with
   |nil=>intro _;exact get_e
   |cons q M ih=>
    obtain⟨j,x⟩:=q
    intro hM
    simp only[List.all_cons,Bool.and_eq_true,Nat.blt,Nat.ble_eq]at hM
    rw[QcI,Qbt (by omega) (by omega)];exact ih (by grind [Nat.blt])
  grind
 ·rintro e B ⟨n', h1, vs, h2, ps, ho, hro, hb, ht⟩
  exact⟨h1,vs,_,h2,Rec.maps ho hb,Rec.heap ho hb,Rec.dom ho hro,ht 0⟩
end Go.AM
namespace Go.AM.SO
open Go.Proofs Go.AM.SD Go.AM.SE
theorem arg0 {o:Int} (ho:o=0\/o=1):PSpec Tryz.prog 141 [.int .i64 o] (.tup [.int .i64 0,.bool true]):=by
 rcases ho with rfl|rfl<;>refine PSpec.Qas 64 XA.ok141 rfl rfl rfl ?_
 all_goals simp(disch:=first|omega|exact PairsOK.mk rfl|(simp only[lenW]<;>omega)) only[XA.s141,wW,wV,simprocAttr]
 all_goals exact⟨.inr trivial,_,rfl,rfl⟩
theorem arg2 {o:Int} (ho:o=6\/o=7\/o=9\/o=11\/o=12):PSpec Tryz.prog 141 [.int .i64 o] (.tup [.int .i64 2,.bool true]):=by
 rcases ho with rfl|rfl|rfl|rfl|rfl<;>refine PSpec.Qas 64 XA.ok141 rfl rfl rfl ?_
 all_goals simp(disch:=first|omega|exact PairsOK.mk rfl|(simp only[lenW]<;>omega)) only[XA.s141,wW,wV,simprocAttr]
 all_goals exact⟨.inr trivial,_,rfl,rfl⟩
theorem lrg142 {v:Int} (h0:0<=v) (h2:v<=2):PSpec Tryz.prog 142 [.int .i64 v,.int .i64 65536] (.bool false):=by
 refine PSpec.Qas 64 XA.ok142 rfl rfl rfl ?_
 have h1:¬65536<v:=by omega
 have h3:¬v< -65536:=by omega
 simp(disch:=first|omega|exact PairsOK.mk rfl|(simp only[lenW]<;>omega)) only[XA.s142,h1,h3,wW,wV,simprocAttr]
 exact⟨.inr trivial,_,rfl,rfl⟩
abbrev fmS (x:Xp) (n:Nat) (lv c c' e:Int):Prop:=HSpec Tryz.prog 73 [.agg (xpC x),.int .i64 n,.int .i64 lv,.ptr 70 0 0] (hp [(70,.cells 0 [.int .i64 c])]) (.int .i64 e) (hp [(70,.cells 0 [.int .i64 c'])])
theorem Qds {o v i:Int} {ar:List Xp}:xpC (.mk o v i ar)=[.int .i64 o,.int .i64 v,.int .i64 i,xpV ar]:=by rw[xpC]
theorem QfG:xpV []= .nilsl:=by rw[xpV]
theorem QhK {a b:Xp}:xpV [a,b]= .fsl (xpC a++xpC b) 2 4:=by rw[xpV,xpsC,xpsC,List.append_nil];rfl
theorem QlL (l:List Xp):(xpV l).one=true:=by cases l<;>rw[xpV]<;>rfl
theorem _root_.Go.AM.au3 {p:Prop} (h:p:=by repeat (first|exact RT.nil|(refine RT.cons ?_ ?_; · (first|exact Rn.any|exact Rn.x1 rfl rfl|exact Rn.x2 rfl rfl|exact Rn.x3 rfl rfl|exact Rn.x4 rfl rfl|exact Rn.x5 rfl|exact Rn.x6 rfl|exact Rn.x7 rfl|(refine Rn.slot ?_ ?_;(first|rfl|(rw[Int.natCast_add];rfl));(first|rfl|(simp only[noRef,noRefs,Qah,Bool.and_self,Bool.and_true,Bool.true_and,QaS];done)))|(refine Rn.fn ?_ ?_<;>(repeat' (first|exact RnL.nil|refine RnL.cons ?_ ?_|exact Rn.same rfl|exact Rn.x6 rfl|exact Rn.x2 rfl rfl|exact Rn.x5 rfl|exact Rn.x1 rfl rfl))))))):p:=h
theorem Qkh {x:Xp} {n:Nat} {lv c:Int} (h:c=64\/c≠64/\8<lv):fmS x n lv c c 3:=by
  obtain⟨o,v,i,ar⟩:=x
  have h1:=QlL ar
  have hx:=Qdr ar
  unfold fmS
  rw[Qds]
  refine HSpec.QbB (m:=71) 100 XG.ok73 rfl rfl rfl ?_
  generalize xpV ar=w at*
  rcases h with rfl|⟨h,h8⟩
  · simp (disch := first | omega | exact PairsOK.mk rfl | (simp only [lenW] <;> omega)) only [XG.s73, h1, wW, wV, simprocAttr]
    refine⟨.inr trivial,_,rfl,rfl,?_⟩
    refine⟨[(70,.nil)],rfl,au0,?_,au3⟩
    exact RB.cellsB rfl gg (RnL.same rfl) RB.nil
  · simp (disch := first | omega | exact PairsOK.mk rfl | (simp only [lenW] <;> omega)) only [XG.s73, h1, h, h8, wW, wV, simprocAttr]
    refine⟨.inr trivial,_,rfl,rfl,?_⟩
    refine⟨[(70,.nil)],rfl,au0,?_,au3⟩
    exact RB.cellsB rfl gg (RnL.same rfl) RB.nil
theorem Qki {v:Int} {n:Nat} {lv c:Int} (hc:0<=c) (hc2:c<64) (hl:lv<=8) (h0:0<=v) (h2:v<=2):fmS (.mk 0 v 0 []) n lv c (c+1) 0:=by
 unfold fmS
 rw[Qds,QfG]
 have a1:=arg0 (o:=0) (.inl rfl)
 have a2:=lrg142 h0 h2
 have n1:¬c=64:=by omega
 have n2:¬8<lv:=by omega
 refine HSpec.QbB (m:=71) 100 XG.ok73 rfl rfl rfl ?_
 simp(disch:=first|omega|exact PairsOK.mk rfl|(simp only[lenW]<;>omega)) only[XG.s73,n1,n2,wW,wV,simprocAttr]
 refine cp a1 ?_
 simp(disch:=first|omega|exact PairsOK.mk rfl|(simp only[lenW]<;>omega)) only[wW,wV,simprocAttr]
 refine cp a2 ?_
 simp(disch:=first|omega|exact PairsOK.mk rfl|(simp only[lenW]<;>omega)) only[wW,wV,simprocAttr]
 refine QbF (Qbc ?_)
 simp(disch:=first|omega|exact PairsOK.mk rfl|(simp only[lenW]<;>omega)) only[wW,wV,simprocAttr]
 refine⟨.inr trivial,_,rfl,rfl,?_⟩
 refine⟨[(70,.nil)],rfl,au0,?_,au3⟩
 exact RB.cellsB rfl gg (RnL.same rfl) RB.nil
theorem Qp7 {i n:Nat} {lv c:Int} (hc:0<=c) (hc2:c<64) (hl:lv<=8) (hi:i<n):fmS (.mk 1 0 i []) n lv c (c+1) 0:=by
 unfold fmS
 rw[Qds,QfG]
 have a1:=arg0 (o:=1) (.inr rfl)
 have n1:¬c=64:=by omega
 have n2:¬8<lv:=by omega
 have n3:¬(i:Int)<0:=by omega
 have n4:¬(n:Int)<=(i:Int):=by omega
 refine HSpec.QbB (m:=71) 100 XG.ok73 rfl rfl rfl ?_
 simp(disch:=first|omega|exact PairsOK.mk rfl|(simp only[lenW]<;>omega)) only[XG.s73,n1,n2,wW,wV,simprocAttr]
 refine cp a1 ?_
 simp(disch:=first|omega|exact PairsOK.mk rfl|(simp only[lenW]<;>omega)) only[n3,n4,wW,wV,simprocAttr]
 refine QbF (Qbc ?_)
 simp(disch:=first|omega|exact PairsOK.mk rfl|(simp only[lenW]<;>omega)) only[wW,wV,simprocAttr]
 refine⟨.inr trivial,_,rfl,rfl,?_⟩
 refine⟨[(70,.nil)],rfl,au0,?_,au3⟩
 exact RB.cellsB rfl gg (RnL.same rfl) RB.nil
theorem Qp8 {a b:Xp}:(xpC a++xpC b).take 4=xpC a/\(xpC a++xpC b).drop 4=xpC b:=⟨List.take_left' (Qa8 a),List.drop_left' (Qa8 a)⟩
theorem QhL {x:Xp} {n:Nat} {lv:Int}:OnlyD (fun k=>k=70) [.agg (xpC x),.int .i64 n,.int .i64 lv,.ptr 70 0 0]:=
 OnlyD.cons (OnlyD.same (by rw[noRef];exact QaM x)) (OnlyD.cons (OnlyD.same rfl) (OnlyD.cons (OnlyD.same rfl) (OnlyD.cons (OnlyD.ptr rfl) OnlyD.nil)))
theorem four (X:List AV) (h:X.length=4):∃a b c d,X=[a,b,c,d]:=by
 match X,h with
 |[a,b,c,d],_=>exact⟨a,b,c,d,rfl⟩
theorem Qnw {o:Int} {a b:Xp} {n:Nat} {lv c c1 e1 c2 e2:Int} (ho:o=6\/o=7\/o=9\/o=11\/o=12) (hc:0<=c) (hc2:c<64) (h1:1<=lv) (hl:lv<=8) (ha:fmS a n (lv+1) (c+1) c1 e1) (hb:e1=0->fmS b n (lv+1) c1 c2 e2):
    fmS (.mk o 0 0 [a,b]) n lv c (if e1=0 then c2 else c1) (if e1=0 then e2 else e1):=by
  have a1:=arg2 ho
  have o0:¬o=0:=by omega
  have o1:¬o=1:=by omega
  have n1:¬c=64:=by omega
  have n2:¬8<lv:=by omega
  have la:=Qa8 a
  have lb:=Qa8 b
  obtain⟨t1,t2⟩:=@Qp8 a b
  have nX:noRefs (xpC a++xpC b)=true:=Qa6 (QaM a) (QaM b)
  have oa:=Qbu a
  have ob:=Qbu b
  have za:=@QhL a n (lv+1)
  have zb:=@QhL b n (lv+1)
  unfold fmS at ha hb⊢
  rw[Qds,QhK]
  generalize xpC a=A at*
  generalize xpC b=B at*
  obtain⟨p0,p1,p2,p3,rfl⟩:=four A la
  obtain⟨q0,q1,q2,q3,rfl⟩:=four B lb
  have r1:putR [.int .i64 0,.int .i64 0,.int .i64 0,.nilsl] 0 [p0,p1,p2,p3]=[p0,p1,p2,p3]:=rfl
  have r2:putR [.int .i64 0,.int .i64 0,.int .i64 0,.nilsl] 0 [q0,q1,q2,q3]=[q0,q1,q2,q3]:=rfl
  refine HSpec.QbB (m:=71) 100 XG.ok73 rfl rfl rfl ?_
  simp(disch:=first|omega|exact PairsOK.mk rfl|(simp only[lenW]<;>omega)) only[XG.s73,n1,n2,wW,wV,simprocAttr]
  refine cp a1 ?_
  simp(disch:=first|omega|exact PairsOK.mk rfl|(simp only[lenW]<;>omega)) only[o0,o1,wW,wV,simprocAttr]
  refine QbF (Qbc ?_)
  simp(disch:=first|omega|exact PairsOK.mk rfl|(simp only[lenW]<;>omega)) only[oa,r1,wW,wV,simprocAttr]
  refine ch (HSpec.frameA ha za (OnlyD.same rfl) rfl rfl gg rfl) ?_
  by_cases h0:e1=0
  · subst h0
    have hb:=hb rfl
    simp(disch:=first|omega|exact PairsOK.mk rfl|(simp only[lenW]<;>omega)) only[wW,wV,simprocAttr]
    refine Qbc ?_
    simp(disch:=first|omega|exact PairsOK.mk rfl|(simp only[lenW]<;>omega)) only[ob,r2,wW,wV,simprocAttr]
    refine ch (HSpec.frameA hb zb (OnlyD.same rfl) rfl rfl gg rfl) ?_
    by_cases h2:e2=0
    · subst h2
      simp(disch:=first|omega|exact PairsOK.mk rfl|(simp only[lenW]<;>omega)) only[wW,wV,simprocAttr]
      refine Qbc ?_
      simp(disch:=first|omega|exact PairsOK.mk rfl|(simp only[lenW]<;>omega)) only[wW,wV,simprocAttr]
      refine⟨.inr trivial,_,rfl,rfl,?_⟩
      refine⟨[(70,.nil)],rfl,au0,?_,au3⟩
      exact RB.cellsB rfl gg (RnL.same rfl) RB.nil
    · simp (disch := first | omega | exact PairsOK.mk rfl | (simp only [lenW] <;> omega)) only [h2, wW, wV, simprocAttr]
      refine⟨.inr trivial,_,rfl,rfl,?_⟩
      refine⟨[(70,.nil)],rfl,au0,?_,au3⟩
      exact RB.cellsB rfl gg (RnL.same rfl) RB.nil
  · simp (disch := first | omega | exact PairsOK.mk rfl | (simp only [lenW] <;> omega)) only [h0, wW, wV, simprocAttr]
    refine⟨.inr trivial,_,rfl,rfl,?_⟩
    refine⟨[(70,.nil)],rfl,au0,?_,au3⟩
    exact RB.cellsB rfl gg (RnL.same rfl) RB.nil
theorem fm_ex {n:Nat} {k:Int} {x:Xp} (h:BT n k x):∀lv c:Int,1<=lv->lv<=9->0<=c->c<=64->∃c' e:Int,0<=c'/\c'<=64/\fmS x n lv c c' e:=by
  induction h with
  | con v h0 h2 =>
    intro lv c l1 l9 c0 c6
    by_cases hl:c<64/\lv<=8
    · exact⟨c+1,0,by omega,by omega,Qki c0 hl.1 hl.2 h0 h2⟩
    · exact⟨c,3,c0,c6,Qkh (by omega)⟩
  | var i hi =>
    intro lv c l1 l9 c0 c6
    by_cases hl:c<64/\lv<=8
    · exact⟨c+1,0,by omega,by omega,Qp7 c0 hl.1 hl.2 hi⟩
    · exact⟨c,3,c0,c6,Qkh (by omega)⟩
  | two o k a b ho _ _ iha ihb =>
    intro lv c l1 l9 c0 c6
    by_cases hl:c<64/\lv<=8
    · obtain ⟨c1, e1, p1, p2, ha⟩ := iha (lv + 1) (c + 1) (by omega) (by omega) (by omega) (by omega)
      obtain⟨c2,e2,q1,q2,hb⟩:=ihb (lv+1) c1 (by omega) (by omega) p1 p2
      exact⟨_,_,by split<;>assumption,by split<;>assumption,Qnw (by omega) c0 hl.1 l1 hl.2 ha fun _=>hb⟩
    · exact⟨c,3,c0,c6,Qkh (by omega)⟩
theorem Qp9 {n:Nat}:fmS falE n 1 0 3 0:=
 Qnw (o:=7) (e1:=0) (c1:=2) (c2:=3) (e2:=0) (by decide) (by decide) (by decide) (by decide) (by decide) (Qki (c:=1) (by decide) (by decide) (by decide) (by decide) (by decide)) fun _=>Qki (c:=2) (by decide) (by decide) (by decide) (by decide) (by decide)
end Go.AM.SO
namespace Go.AM.SO
open Go.Proofs Go.AM.SD Go.AM.SE
theorem eqf0:PSpec Tryz.prog 75 [.nilsl,.nilsl,.fn 30 [] []] (.bool true):=by
 refine PSpec.Qas 64 XG.ok75 rfl rfl rfl ?_
 simp(disch:=first|omega|exact PairsOK.mk rfl|(simp only[lenW]<;>omega)) only[XG.s75,wW,wV,simprocAttr]
 refine QbF (Qbc ?_)
 simp(disch:=first|omega|exact PairsOK.mk rfl|(simp only[lenW]<;>omega)) only[wW,wV,simprocAttr]
 exact⟨.inr trivial,_,rfl,rfl⟩
abbrev eqS (x:Xp):Prop:=PSpec Tryz.prog 30 [.agg (xpC x),.agg (xpC x)] (.bool true)
theorem eqf2 {a b:Xp} (ha:eqS a) (hb:eqS b):PSpec Tryz.prog 75 [xpV [a,b],xpV [a,b],.fn 30 [] []] (.bool true):=by
 have la:=Qa8 a
 have lb:=Qa8 b
 have nX:noRefs (xpC a++xpC b)=true:=Qa6 (QaM a) (QaM b)
 have oa:=Qbu a
 have ob:=Qbu b
 unfold eqS at ha hb
 rw[QhK]
 generalize xpC a=A at*
 generalize xpC b=B at*
 obtain⟨p0,p1,p2,p3,rfl⟩:=four A la
 obtain⟨q0,q1,q2,q3,rfl⟩:=four B lb
 have r1:putR [.int .i64 0,.int .i64 0,.int .i64 0,.nilsl] 0 [p0,p1,p2,p3]=[p0,p1,p2,p3]:=rfl
 have r2:putR [.int .i64 0,.int .i64 0,.int .i64 0,.nilsl] 0 [q0,q1,q2,q3]=[q0,q1,q2,q3]:=rfl
 refine PSpec.Qas 64 XG.ok75 rfl (by rw[noRefs,noRef,nX,noRefs,noRef,nX];rfl) rfl ?_
 simp(disch:=first|omega|exact PairsOK.mk rfl|(simp only[lenW]<;>omega)) only[XG.s75,wW,wV,simprocAttr]
 refine QbF (Qbc ?_)
 simp(disch:=first|omega|exact PairsOK.mk rfl|(simp only[lenW]<;>omega)) only[oa,r1,wW,wV,simprocAttr]
 refine cp ha ?_
 simp(disch:=first|omega|exact PairsOK.mk rfl|(simp only[lenW]<;>omega)) only[wW,wV,simprocAttr]
 refine Qbc ?_
 simp(disch:=first|omega|exact PairsOK.mk rfl|(simp only[lenW]<;>omega)) only[ob,r2,wW,wV,simprocAttr]
 refine cp hb ?_
 simp(disch:=first|omega|exact PairsOK.mk rfl|(simp only[lenW]<;>omega)) only[wW,wV,simprocAttr]
 refine Qbc ?_
 simp(disch:=first|omega|exact PairsOK.mk rfl|(simp only[lenW]<;>omega)) only[wW,wV,simprocAttr]
 exact⟨.inr trivial,_,rfl,rfl⟩
theorem QlM {o v i:Int}:eqS (.mk o v i []):=by
 have h:=eqf0
 unfold eqS
 rw[Qds,QfG]
 refine PSpec.Qas 64 XG.ok30 rfl rfl rfl ?_
 simp(disch:=first|omega|exact PairsOK.mk rfl|(simp only[lenW]<;>omega)) only[XG.s30,wW,wV,simprocAttr]
 refine cp h ?_
 simp(disch:=first|omega|exact PairsOK.mk rfl|(simp only[lenW]<;>omega)) only[wW,wV,simprocAttr]
 exact⟨.inr trivial,_,rfl,rfl⟩
theorem Qqa {o:Int} {a b:Xp} (ha:eqS a) (hb:eqS b):eqS (.mk o 0 0 [a,b]):=by
 have h:=eqf2 ha hb
 have h1:=QlL [a,b]
 have hx:=Qdr [a,b]
 unfold eqS
 rw[Qds]
 generalize xpV [a,b]=w at*
 refine PSpec.Qas 64 XG.ok30 rfl (by simp only[noRefs,noRef,hx];rfl) rfl ?_
 simp(disch:=first|omega|exact PairsOK.mk rfl|(simp only[lenW]<;>omega)) only[XG.s30,h1,wW,wV,simprocAttr]
 refine cp h ?_
 simp(disch:=first|omega|exact PairsOK.mk rfl|(simp only[lenW]<;>omega)) only[wW,wV,simprocAttr]
 exact⟨.inr trivial,_,rfl,rfl⟩
theorem eq_bt {n:Nat} {k:Int} {x:Xp} (h:BT n k x):eqS x:=by
 induction h with
 |con=>exact QlM
 |var=>exact QlM
 |two o k a b ho _ _ iha ihb=>exact Qqa iha ihb
end Go.AM.SO
namespace Go.AM.XI
open Go.Proofs
set_option maxHeartbeats 4000000
noncomputable section
def cf:YA.Cf:={most:= .pure,always:=[77,78].map fun k=>(k,.heap)}
def s27:SFn:=by
 refine(?f:YA.Yt Tryz.prog cf 27 [[4,5],[10,11,12],[13],[0,1,6,14,15],[4,5,6,14],[1],[],[19,20,21],[9,22,23,24,25,26,27],[28],[0,7,16,17,18,29]]) ?s ?h
 case h=>exact YA.rr
 exact fun s _=>s
def s69:SFn:=by
 refine(?f:YA.Yt Tryz.prog cf 69 [[4],[12,13,11,14,15,5],[16],[0,1,6,17,18],[4,1,6,17],[],[22,23,24],[25,26,27,28,29,30,31],[0,19,20,21,75,69,74,73,71,72,70,68,66,67,65,62,59,61,60,58,56,57,55,37,34,36,35,33,32,8,38],[4,38],[],[42,43,44,45],[10,9,46,47,48,49,50,51,52,53,54,63,64],[0,19,20,21,75,69,74,73,71,72,70,68,66,67,65,62,59,61,60,58,56,57,55,37,34,36,35,33,32,8,39,40,41,76],[4,76,77],[8,39,40,41,78],[0,19,20,21,75,69,74,73,71,72,70,68,66,67,65,62,59,61,60,58,56,57,55,37,34,36,35,33,32]]) ?s ?h
 case h=>exact YA.rr
 exact fun s _=>s
def s70:SFn:=by
 refine(?f:YA.Yt Tryz.prog cf 70 [[0,4],[],[1],[],[11,12,13,14],[62,63,64,65,66,67,68,69,70,79],[61,81,82,83,84,85,86,87,88,89,90,91],[7,6,80,92,93,94,95,96,97,98,99,100,101,102,103,104,105,106],[80,15,16,17,18,19,20,21],[22,23,24,25,26,27,28,29,30,31,32,33,34,35,36,37],[7,22,38,39,40,41,42,43,44],[6,45,46,47,48,49,50,51,52,53,54,55,56,57,58,59,60],[7,6,61,45,107],[2,5,8,9,10,78,75,77,76,74,72,73,71,108]]) ?s ?h
 case h=>exact YA.rr
 exact fun s _=>s
def s72:SFn:=by
 refine(?f:YA.Yt Tryz.prog cf 72 [[5],[7,8,9],[10],[0,1,6,11,12,13],[0,1,6,11,14,15,16,17,18]]) ?s ?h
 case h=>exact YA.rr
 exact fun s _=>s
def s76:SFn:=by
 refine(?f:YA.Yt Tryz.prog cf 76 [[4,5],[13,14,15],[16],[0,1,6,17,18],[4,5,6,17,19,20],[0,1,21],[4,5,21],[1],[],[25,26,27,28],[8,29],[30,31],[9,30,32,33,34],[35,36],[37,38],[10,37],[],[42,43,44,45],[11,46],[47,48],[12,47,49,50,51,52],[53],[39,40,41,54],[0,7,22,23,24,55]]) ?s ?h
 case h=>exact YA.rr
 exact fun s _=>s
def s146:SFn:=by
 refine(?f:YA.Yt Tryz.prog cf 146 [[0,4],[1,6,7,8,9,10,11],[13,14,15,16,17,18],[2,5,12,19,20,21,22,23,24],[12,26,27],[2,5,25,28,29,30,31,32,33],[2,5,25,34,35,36,37,38,39]]) ?s ?h
 case h=>exact YA.rr
 exact fun s _=>s
def s184:SFn:=by
 refine(?f:YA.Yt Tryz.prog cf 184 [[2],[3],[0,4,5,6,7,8],[2,4,9],[0,10,11,12,13,14,15],[0,10,16,17,18,19,20,21,22,23,24,25]] [(0,[(2,7)])]) ?s ?h
 case h=>exact YA.rr
 exact fun s _=>s
theorem ok27:okFn Tryz.prog 27 s27=true:=by kernel_rfl
theorem ok69:okFn Tryz.prog 69 s69=true:=by kernel_rfl
theorem ok70:okFn Tryz.prog 70 s70=true:=by kernel_rfl
theorem ok72:okFn Tryz.prog 72 s72=true:=by kernel_rfl
theorem ok76:okFn Tryz.prog 76 s76=true:=by kernel_rfl
theorem ok146:okFn Tryz.prog 146 s146=true:=by kernel_rfl
theorem ok184:okFn Tryz.prog 184 s184=true:=by kernel_rfl
end
end Go.AM.XI
namespace Go.AM.SO
open Go.Proofs Go.AM.SD Go.AM.SE
theorem xp2_C {o:Int} {a b:Xp}:xpC (.mk o 0 0 [a,b])=[.int .i64 o,.int .i64 0,.int .i64 0,.fsl (xpC a++xpC b) 2 4]:=by rw[Qds,QhK]
theorem at_C {o v i:Int}:xpC (.mk o v i [])=[.int .i64 o,.int .i64 v,.int .i64 i,.nilsl]:=by rw[Qds,QfG]
theorem false135:PSpec Tryz.prog 135 [] (.agg (xpC falE)):=by
 refine PSpec.of_rn 64 XA.ok135 rfl rfl (by rw[noRef];exact QaM _) ?_
 rw[xp2_C,at_C]
 simp(disch:=first|omega|exact PairsOK.mk rfl|(simp only[lenW]<;>omega)) only[XA.s135,wW,wV,simprocAttr]
 refine⟨.inr trivial,_,rfl,?_⟩
 refine Rn.agg (RnL.cons (Rn.same rfl) (RnL.cons (Rn.same rfl) (RnL.cons (Rn.same rfl) (RnL.cons ?_ RnL.nil))))
 exact Rn.fz0 gg rfl (RnL.same rfl)
theorem true137:PSpec Tryz.prog 137 [] (.agg (xpC truE)):=by
 refine PSpec.of_rn 64 XA.ok137 rfl rfl (by rw[noRef];exact QaM _) ?_
 rw[xp2_C,at_C]
 simp(disch:=first|omega|exact PairsOK.mk rfl|(simp only[lenW]<;>omega)) only[XA.s137,wW,wV,simprocAttr]
 refine⟨.inr trivial,_,rfl,?_⟩
 refine Rn.agg (RnL.cons (Rn.same rfl) (RnL.cons (Rn.same rfl) (RnL.cons (Rn.same rfl) (RnL.cons ?_ RnL.nil))))
 exact Rn.fz0 gg rfl (RnL.same rfl)
end Go.AM.SO
namespace Go.AM.XN
open Go.Proofs
set_option maxHeartbeats 4000000
noncomputable section
def cf:YA.Cf:={most:= .pure,always:=[186].map fun k=>(k,.heap)}
def s140:SFn:=by
 refine(?f:YA.Yt Tryz.prog cf 140 [[5],[15,16],[0,1,17,18],[5,17],[1],[],[22,23,24],[],[8,25,26],[],[30,31,32],[11,33,34,35,36,37],[38],[27,28,29,39,40],[41,42,43,44,45],[9,41,46,47,48,49,50],[51],[6,19,20,21,52,53],[0,55,56,57,58,54,59,60,13],[61],[12,14,62,63,64],[12,14,62,65]]) ?s ?h
 case h=>exact YA.rr
 exact fun s _=>s
def s238:SFn:=by
 refine(?f:YA.Yt Tryz.prog cf 238 [[],[0,3,4]]) ?s ?h
 case h=>exact YA.rr
 exact fun s _=>s
theorem ok140:okFn Tryz.prog 140 s140=true:=by kernel_rfl
theorem ok238:okFn Tryz.prog 238 s238=true:=by kernel_rfl
end
end Go.AM.XN
namespace Go.AM.SO
open Go.Proofs Go.AM.SD Go.AM.SE
theorem const238 (n:Int):PSpec Tryz.prog 238 [.int .i64 n] (.agg (xpC (conE n))):=by
 rw[at_C]
 refine PSpec.Qas 64 XN.ok238 rfl rfl rfl ?_
 simp(disch:=first|omega|exact PairsOK.mk rfl|(simp only[lenW]<;>omega)) only[XN.s238,wW,wV,simprocAttr]
 exact⟨.inr trivial,_,rfl,rfl⟩
theorem expr185 (x:Lt):PSpec Tryz.prog 185 [.agg (ltC x)] (.agg (xpC (ltX x))):=by
 obtain⟨i,lo,hi,fr,to⟩:=x
 have hl:=const238 lo
 have hh:=const238 hi
 refine PSpec.of_rn 64 XA.ok185 rfl rfl (by rw[noRef];exact QaM _) ?_
 rw[at_C]at hl hh
 unfold ltX ltC
 cases fr with
 | true =>
  cases to with
  |true=>
   rw[if_pos ⟨rfl,rfl⟩,xp2_C,at_C,at_C]
   simp(disch:=first|omega|exact PairsOK.mk rfl|(simp only[lenW]<;>omega)) only[XA.s185,wW,wV,simprocAttr]
   refine cp hl ?_
   simp(disch:=first|omega|exact PairsOK.mk rfl|(simp only[lenW]<;>omega)) only[wW,wV,simprocAttr]
   refine⟨.inr trivial,_,rfl,?_⟩
   refine Rn.agg (RnL.cons (Rn.same rfl) (RnL.cons (Rn.same rfl) (RnL.cons (Rn.same rfl) (RnL.cons ?_ RnL.nil))))
   exact Rn.fz0 gg rfl (RnL.same rfl)
  |false=>
   rw[if_neg (by rintro⟨_,h⟩;cases h),if_pos rfl,xp2_C,at_C,at_C]
   simp(disch:=first|omega|exact PairsOK.mk rfl|(simp only[lenW]<;>omega)) only[XA.s185,wW,wV,simprocAttr]
   refine cp hl ?_
   simp(disch:=first|omega|exact PairsOK.mk rfl|(simp only[lenW]<;>omega)) only[wW,wV,simprocAttr]
   refine⟨.inr trivial,_,rfl,?_⟩
   refine Rn.agg (RnL.cons (Rn.same rfl) (RnL.cons (Rn.same rfl) (RnL.cons (Rn.same rfl) (RnL.cons ?_ RnL.nil))))
   exact Rn.fz0 gg rfl (RnL.same rfl)
 |false=>
  rw[if_neg (by rintro⟨h,_⟩;cases h),if_neg (fun h=>by cases h),xp2_C,at_C,at_C]
  simp(disch:=first|omega|exact PairsOK.mk rfl|(simp only[lenW]<;>omega)) only[XA.s185,wW,wV,simprocAttr]
  refine cp hh ?_
  simp(disch:=first|omega|exact PairsOK.mk rfl|(simp only[lenW]<;>omega)) only[wW,wV,simprocAttr]
  refine⟨.inr trivial,_,rfl,?_⟩
  refine Rn.agg (RnL.cons (Rn.same rfl) (RnL.cons (Rn.same rfl) (RnL.cons (Rn.same rfl) (RnL.cons ?_ RnL.nil))))
  exact Rn.fz0 gg rfl (RnL.same rfl)
theorem cvB1 {P:Program} {N:NM} {d:Option Nat} {r:List SOper} {dead:List Nat} {fs:List Fr} {n:Nat} {T:Tmps} {h:Heap} {Q:QC} {b g x:Nat} (hb:h.get b=some (.cells g [.int .u8 (x:Int)]))
  (hk:wR P N r dead fs (n+1) (putD T d (.str [UInt8.ofNat x])) h Q):wM P N (aConvB (.sl b g 0 1 1)) d r dead fs n T h Q:=by
 refine⟨_,h,?_,hk⟩
 have hg:Nat.beq g g=true:=by simp
 simp[aConvB,aSrc,HM.cells,HM.run,hb,hg,bytesOf]
theorem digits184 (n:Int) (h0:0<=n) (h2:n<=2):PSpec Tryz.prog 184 [.int .i64 n] (.str (dgB n)):=by
 obtain⟨k,rfl⟩:∃k:Nat,n=(k:Int):=⟨n.toNat,by omega⟩
 have n0:¬(k:Int)<0:=by omega
 have n1:(k:Int)<10:=by omega
 have e1:wr .u8 (k:Int)=(k:Int):=wr_u8 (by omega) (by omega)
 have e48:wr .u8 ((48:Int)+(k:Int))=((48+k:Nat):Int):=by rw[wr_u8 (by omega) (by omega)];omega
 have e2:dgB (k:Int)=[UInt8.ofNat (48+k)]:=rfl
 rw[e2]
 refine PSpec.Qas 64 XI.ok184 rfl rfl rfl ?_
 simp(disch:=first|omega|exact PairsOK.mk rfl|(simp only[lenW]<;>omega)) only[XI.s184,n0,n1,e1,e48,QjH,wW,wV,simprocAttr]
 refine cvB1 gg ?_
 simp(disch:=first|omega|exact PairsOK.mk rfl|(simp only[lenW]<;>omega)) only[wW,wV,simprocAttr]
 exact⟨.inr trivial,_,rfl,rfl⟩
end Go.AM.SO
namespace Go.AM.SO
open Go.Proofs Go.AM.SD Go.AM.SE
abbrev ltsV (l:List Lt):AV:= .fsl (l.flatMap ltC) l.length 5
theorem _root_.Go.AM.au4 {p:Prop} (h:p:=by repeat (first|exact RT.nil|(refine RT.cons ?_ ?_; · (first|exact Rn.any|exact Rn.x1 rfl rfl|exact Rn.x2 rfl rfl|exact Rn.x3 rfl rfl|exact Rn.x4 rfl rfl|exact Rn.x5 rfl|exact Rn.x6 rfl|exact Rn.x7 rfl|(refine Rn.slot ?_ ?_;(first|rfl|(rw[Int.natCast_add];rfl));(first|rfl|(simp only[noRef,noRefs,Qah,Bool.and_self,Bool.and_true,Bool.true_and,QaS,Qav,Qax,Qa1,Qaa];done)))|(refine Rn.fn ?_ ?_<;>(repeat' (first|exact RnL.nil|refine RnL.cons ?_ ?_|exact Rn.same rfl|exact Rn.x6 rfl|exact Rn.x2 rfl rfl|exact Rn.x5 rfl|exact Rn.x1 rfl rfl))))))):p:=h
theorem lits70 (v : List (List UInt8 × Int)) (b : Bxn) (hv : v.length <= 1000) (hlo : b.lo.length = v.length) (hhi : b.hi.length = v.length) : PSpec Tryz.prog 70 [bxV b, vrsV v] (ltsV (lits v b)) := by
  refine PSpec.of_rn 64 XI.ok70 rfl (by simp only[noRefs,noRef,Qav,Qaa];rfl) (by rw[noRef];exact Qa1 _) ?_
  have hnb:noRefs [sli b.lo,sli b.hi]=true:=by rw[noRefs,noRefs,Qat,Qat];rfl
  simp(disch:=first|omega|exact PairsOK.mk rfl|(simp only[lenW]<;>omega)) only[XI.s70,wW,wV,simprocAttr]
  refine Qaz 200 (fun i:Nat=>[(2,.ptr 51 0 0),(5,.sl 60 0 0 (litN v b i).length 5),(8,vrsV v),(9,.int .i64 v.length),(10,.int .i64 i)]) (fun i=>[(51,.cells 0 [sli b.lo,sli b.hi]),(60,.cells 0 ((litN v b i).flatMap ltC))]) (fun i=>i<=v.length) (fun i=>v.length-i) 0 0 500 (fun _:Unit=>[(5,ltsV (lits v b))]) (fun _=>[]) (fun _=>True) ?_ (Nat.zero_le _) ?_ ?_
  · refine ⟨[(51, .blk 64 0), (60, .nil)], rfl, au0, ?_, au4⟩
    exact RB.cells rfl rfl gg (RnL.same hnb) (RB.newnil rfl rfl RB.nil)
  · rintro i hi
    have hXn:=@Qcc v b i
    have hXl:=Qnu (litN v b i)
    by_cases hlt:i<v.length
    · obtain ⟨x, hx⟩ := Qaj hlt
      obtain⟨p,hp⟩:=Qaj (l:=b.lo) (i:=i) (by omega)
      obtain⟨q,hq⟩:=Qaj (l:=b.hi) (i:=i) (by omega)
      have hlp:i<b.lo.length:=by omega
      have hlq:i<b.hi.length:=by omega
      have hdv:=QbO hx
      have hdw:4<=((v.flatMap vrC).drop (i*4)).length:=by rw[hdv];simp
      have hp1:=QaR hp
      have hq1:=QaR hq
      have hst:litN v b (i+1)=litN v b i++lit1 x.2 i p q:=by rw[litN,QaB hx,QaB hp,QaB hq]
      generalize litN v b i=X at*
      by_cases c1:p=0/\q=x.2
      · have hli : lit1 x.2 i p q = [] := by unfold lit1; rw [if_pos c1]
        obtain⟨c1,c2⟩:=c1
        subst c1
        subst c2
        simp(disch:=first|omega|exact PairsOK.mk rfl|(simp only[lenW]<;>omega)) only[hlt,hlp,hlq,hdv,hdw,hp1,hq1,wW,wV,simprocAttr]
        refine⟨i+1,by omega,by omega,?_⟩
        rw[hst,hli,List.append_nil]
        refine⟨[(51,.blk 51 0),(60,.blk 60 0)],rfl,au0,?_,au4⟩
        exact RB.cells rfl rfl gg (RnL.same hnb) (RB.cells rfl rfl gg (RnL.same (Qa1 _)) RB.nil)
      by_cases c2:p=q
      · have hli : lit1 x.2 i p q = [⟨i, p, q, true, true⟩] := by unfold lit1; rw [if_neg c1, if_pos c2]
        subst c2
        by_cases c3:p=0
        · subst c3
          have c4:¬0=x.2:=fun h=>c1 ⟨rfl,h⟩
          simp(disch:=first|omega|exact PairsOK.mk rfl|(simp only[lenW]<;>omega)) only[hlt,hlp,hlq,hdv,hdw,hp1,hq1,c4,hXl,wW,wV,simprocAttr]
          refine⟨i+1,by omega,by omega,?_⟩
          rw[hst,hli,List.flatMap_append,List.length_append]
          refine⟨[(51,.blk 51 0),(60,.blk 60 1)],rfl,au0,?_,au4⟩
          exact RB.cells rfl rfl gg (RnL.same hnb) (RB.cells rfl rfl gg (RnL.same (Qa6 (Qa1 _) (Qa1 [⟨i,0,0,true,true⟩]))) RB.nil)
        · simp (disch := first | omega | exact PairsOK.mk rfl | (simp only [lenW] <;> omega)) only [hlt, hlp, hlq, hdv, hdw, hp1, hq1, c3, hXl, wW, wV, simprocAttr]
          refine⟨i+1,by omega,by omega,?_⟩
          rw[hst,hli,List.flatMap_append,List.length_append]
          refine⟨[(51,.blk 51 0),(60,.blk 60 1)],rfl,au0,?_,au4⟩
          exact RB.cells rfl rfl gg (RnL.same hnb) (RB.cells rfl rfl gg (RnL.same (Qa6 (Qa1 _) (Qa1 [⟨i,p,p,true,true⟩]))) RB.nil)
      by_cases c3:p=0
      · subst c3
        have c4:¬q=x.2:=fun h=>c1 ⟨rfl,h⟩
        have hli:lit1 x.2 i 0 q=[⟨i,0,q,false,true⟩]:=by unfold lit1;rw[if_neg c1,if_neg c2,if_pos rfl,if_neg c4];rfl
        simp(disch:=first|omega|exact PairsOK.mk rfl|(simp only[lenW]<;>omega)) only[hlt,hlp,hlq,hdv,hdw,hp1,hq1,c2,c4,hXl,wW,wV,simprocAttr]
        refine⟨i+1,by omega,by omega,?_⟩
        rw[hst,hli,List.flatMap_append,List.length_append]
        refine⟨[(51,.blk 51 0),(60,.blk 60 1)],rfl,au0,?_,au4⟩
        exact RB.cells rfl rfl gg (RnL.same hnb) (RB.cells rfl rfl gg (RnL.same (Qa6 (Qa1 _) (Qa1 [⟨i,0,q,false,true⟩]))) RB.nil)
      by_cases c4:q=x.2
      · have hli : lit1 x.2 i p q = [⟨i, p, q, true, false⟩] := by unfold lit1; rw [if_neg c1, if_neg c2, if_neg c3, if_pos c4]; rfl
        subst c4
        simp(disch:=first|omega|exact PairsOK.mk rfl|(simp only[lenW]<;>omega)) only[hlt,hlp,hlq,hdv,hdw,hp1,hq1,c2,c3,hXl,wW,wV,simprocAttr]
        refine⟨i+1,by omega,by omega,?_⟩
        rw[hst,hli,List.flatMap_append,List.length_append]
        refine⟨[(51,.blk 51 0),(60,.blk 60 1)],rfl,au0,?_,au4⟩
        exact RB.cells rfl rfl gg (RnL.same hnb) (RB.cells rfl rfl gg (RnL.same (Qa6 (Qa1 _) (Qa1 [⟨i,p,x.2,true,false⟩]))) RB.nil)
      · have hli : lit1 x.2 i p q = [⟨i, p, q, true, false⟩] ++ [⟨i, p, q, false, true⟩] := by unfold lit1; rw [if_neg c1, if_neg c2, if_neg c3, if_neg c4]
        simp(disch:=first|omega|exact PairsOK.mk rfl|(simp only[lenW]<;>omega)) only[hlt,hlp,hlq,hdv,hdw,hp1,hq1,c2,c3,c4,hXl,wW,wV,simprocAttr]
        refine⟨i+1,by omega,by omega,?_⟩
        rw[hst,hli,<-List.append_assoc,List.flatMap_append,List.flatMap_append,List.length_append,List.length_append]
        refine⟨[(51,.blk 51 0),(60,.blk 60 2)],rfl,au0,?_,au4⟩
        exact RB.cells rfl rfl gg (RnL.same hnb) (RB.cells rfl rfl gg (RnL.same (Qa6 (Qa6 (Qa1 _) (Qa1 [⟨i,p,q,true,false⟩])) (Qa1 [⟨i,p,q,false,true⟩]))) RB.nil)
    · have e : i = v.length := by omega
      subst e
      simp(disch:=first|omega|exact PairsOK.mk rfl|(simp only[lenW]<;>omega)) only[hlt,wW,wV,simprocAttr]
      refine⟨(),[],rfl,RO.zero,RB.nil,RT.cons (Rn.fz (b:=60) (g:=0) gg rfl rfl (Qnu _) (RnL.same (Qa1 _))) RT.nil⟩
  rintro _ _
  simp(disch:=first|omega|exact PairsOK.mk rfl|(simp only[lenW]<;>omega)) only[wW,wV,simprocAttr]
  exact⟨.inr trivial,_,rfl,Rn.same (by rw[noRef];exact Qa1 _)⟩
end Go.AM.SO
namespace Go.AM.SO
open Go.Proofs Go.AM.SD Go.AM.SE
def ltS (v:List (List UInt8×Int)) (x:Lt):AV:= .str (ltT v x)
theorem QaY (v:List (List UInt8×Int)):∀l:List Lt,noRefs (l.map (ltS v))=true
 |[]=>rfl
 |x::l=>by rw[List.map_cons,noRefs,QaY v l];rfl
abbrev xpsV (l:List Xp):AV:= .fsl (l.flatMap xpC) l.length 4
theorem xe1 {i:Nat} {l h:Int}:List.flatMap xpC (List.map ltX [⟨i,l,h,true,true⟩])=[.int .i64 6,.int .i64 0,.int .i64 0,.fsl [.int .i64 1,.int .i64 0,.int .i64 i,.nilsl,.int .i64 0,.int .i64 l,.int .i64 0,.nilsl] 2 4]:=by
 rw[List.map_cons,List.map_nil,List.flatMap_cons,List.flatMap_nil,List.append_nil]
 unfold ltX
 rw[if_pos ⟨rfl,rfl⟩,xp2_C,at_C,at_C];rfl
theorem xe2 {i:Nat} {l h:Int}:List.flatMap xpC (List.map ltX [⟨i,l,h,true,false⟩])=[.int .i64 9,.int .i64 0,.int .i64 0,.fsl [.int .i64 0,.int .i64 l,.int .i64 0,.nilsl,.int .i64 1,.int .i64 0,.int .i64 i,.nilsl] 2 4]:=by
 rw[List.map_cons,List.map_nil,List.flatMap_cons,List.flatMap_nil,List.append_nil]
 unfold ltX
 rw[if_neg (by rintro⟨_,h⟩;cases h),if_pos rfl,xp2_C,at_C,at_C];rfl
theorem xe3 {i:Nat} {l h:Int}:List.flatMap xpC (List.map ltX [⟨i,l,h,false,true⟩])=[.int .i64 9,.int .i64 0,.int .i64 0,.fsl [.int .i64 1,.int .i64 0,.int .i64 i,.nilsl,.int .i64 0,.int .i64 h,.int .i64 0,.nilsl] 2 4]:=by
 rw[List.map_cons,List.map_nil,List.flatMap_cons,List.flatMap_nil,List.append_nil]
 unfold ltX
 rw[if_neg (by rintro⟨h,_⟩;cases h),if_neg (fun h=>by cases h),xp2_C,at_C,at_C];rfl
theorem lits136 (v : List (List UInt8 × Int)) (b : Bxn) (hv : v.length <= 1000) (hin : ∀ x ∈ v, 0 <= x.2 /\ x.2 <= 2) (hn : ∀ x ∈ v, x.1.length = 2) (hb : BxOk v b) : PSpec Tryz.prog 136 [vrsV v, bxV b] (.tup [xpsV ((lits v b).map ltX), .fsl ((lits v b).map (ltS v)) (lits v b).length 1]) := by
  obtain⟨hlo,hhi,hbb⟩:=hb
  refine PSpec.of_rn 64 XA.ok136 rfl (by simp only[noRefs,noRef,Qav,Qaa];rfl) (by simp only[noRefs,noRef,QaS,QaY];rfl) ?_
  have hnb:noRefs [sli b.lo,sli b.hi]=true:=by rw[noRefs,noRefs,Qat,Qat];rfl
  simp(disch:=first|omega|exact PairsOK.mk rfl|(simp only[lenW]<;>omega)) only[XA.s136,wW,wV,simprocAttr]
  refine Qaz 200 (fun i:Nat=>[(0,vrsV v),(3,.ptr 51 0 0),(6,.sl 60 0 0 (litN v b i).length 4),(7,.sl 61 0 0 (litN v b i).length 1),(8,.int .i64 i)]) (fun i=>[(51,.cells 0 [sli b.lo,sli b.hi]),(60,.cells 0 (((litN v b i).map ltX).flatMap xpC)),(61,.cells 0 ((litN v b i).map (ltS v)))]) (fun i=>i<=v.length) (fun i=>v.length-i) 0 0 500 (fun _:Unit=>[(6,.fsl (((lits v b).map ltX).flatMap xpC) (lits v b).length 4),(7,.fsl ((lits v b).map (ltS v)) (lits v b).length 1)]) (fun _=>[]) (fun _=>True) ?_ (Nat.zero_le _) ?_ ?_
  · refine ⟨[(51, .blk 64 0), (60, .nil), (61, .nil)], rfl, au0, ?_, au4⟩
    exact RB.cells rfl rfl gg (RnL.same hnb) (RB.newnil rfl rfl (RB.newnil rfl rfl RB.nil))
  · rintro i hi
    have hXn:=@Qcc v b i
    have hXl:=QbU ((litN v b i).map ltX)
    have hXs:((litN v b i).map (ltS v)).length=(litN v b i).length:=List.length_map _
    rw[List.length_map]at hXl
    by_cases hlt:i<v.length
    · obtain ⟨x, hx⟩ := Qaj hlt
      obtain⟨p,hp⟩:=Qaj (l:=b.lo) (i:=i) (by omega)
      obtain⟨q,hq⟩:=Qaj (l:=b.hi) (i:=i) (by omega)
      have hlp:i<b.lo.length:=by omega
      have hlq:i<b.hi.length:=by omega
      have hdv:=QbO hx
      have hdw:4<=((v.flatMap vrC).drop (i*4)).length:=by rw[hdv];simp
      have hp1:=QaR hp
      have hq1:=QaR hq
      have hbi:=hbb i x hx
      have hx2:=(hin x (List.mem_of_getElem? hx)).2
      have hnl:=hn x (List.mem_of_getElem? hx)
      obtain⟨nm,m⟩:=x
      obtain⟨n0,n1,rfl⟩:∃a b,nm=[a,b]:=by
        match nm,hnl with
        |[a,b],_=>exact⟨a,b,rfl⟩
      have hT:∀(l h:Int) (f t:Bool),ltT v ⟨i,l,h,f,t⟩=if f=true/\t=true then[n0,n1]++[32,61,32]++dgB l else if f=true then dgB l++[32,60,61,32]++[n0,n1]else[n0,n1]++[32,60,61,32]++dgB h:=fun l h f t=>by unfold ltT;rw[QaB hx]
      dsimp only at hdv hbi hx2
      rw[QaB hp,QaB hq]at hbi
      have dp:=digits184 p (by omega) (by omega)
      have dq:=digits184 q (by omega) (by omega)
      have hst:litN v b (i+1)=litN v b i++lit1 m i p q:=by rw[litN,QaB hx,QaB hp,QaB hq]
      generalize litN v b i=X at*
      by_cases c1:p=0/\q=m
      · have hli : lit1 m i p q = [] := by unfold lit1; rw [if_pos c1]
        obtain⟨c1,c2⟩:=c1
        subst c1
        subst c2
        simp(disch:=first|omega|exact PairsOK.mk rfl|(simp only[lenW]<;>omega)) only[hlt,wW,wV,simprocAttr]
        refine QbM [(22,[]),(28,[])] rfl rfl ?_
        simp(disch:=first|omega|exact PairsOK.mk rfl|(simp only[lenW]<;>omega)) only[hlt,hlp,hlq,hdv,hdw,hp1,hq1,hXl,wW,wV,simprocAttr]
        refine⟨⟨⟨_,rfl,fun b hb=>hb⟩,⟨_,rfl,fun b hb=>hb⟩,trivial⟩,?_⟩
        refine⟨i+1,by omega,by omega,?_⟩
        rw[hst,hli,List.append_nil]
        refine⟨[(51,.blk 51 0),(60,.blk 60 0),(61,.blk 61 0)],rfl,au0,?_,au4⟩
        exact RB.cells rfl rfl gg (RnL.same hnb) (RB.cells rfl rfl gg (RnL.same (QaS _)) (RB.cells rfl rfl gg (RnL.same (QaY v _)) RB.nil))
      by_cases c2:p=q
      · have hli : lit1 m i p q = [⟨i, p, q, true, true⟩] := by unfold lit1; rw [if_neg c1, if_pos c2]
        subst c2
        by_cases c3:p=0
        · subst c3
          have c4:¬0=m:=fun h=>c1 ⟨rfl,h⟩
          simp(disch:=first|omega|exact PairsOK.mk rfl|(simp only[lenW]<;>omega)) only[hlt,wW,wV,simprocAttr]
          refine QbM [(22,[]),(28,[])] rfl rfl ?_
          simp(disch:=first|omega|exact PairsOK.mk rfl|(simp only[lenW]<;>omega)) only[hlt,hlp,hlq,hdv,hdw,hp1,hq1,hXl,c4,wW,wV,simprocAttr]
          refine⟨⟨⟨_,rfl,fun b hb=>hb⟩,⟨_,rfl,fun b hb=>hb⟩,trivial⟩,?_⟩
          refine cp dp ?_
          simp(disch:=first|omega|exact PairsOK.mk rfl|(simp only[lenW]<;>omega)) only[hXs,wW,wV,simprocAttr]
          refine⟨i+1,by omega,by omega,?_⟩
          rw[hst,hli,List.map_append,List.flatMap_append,List.map_append,List.length_append]
          refine⟨[(51,.blk 51 0),(60,.blk 60 1),(61,.blk 61 1)],rfl,au0,?_,au4⟩
          refine RB.cells rfl rfl gg (RnL.same hnb) (RB.cells rfl rfl gg (RnL.append (RnL.same (QaS _)) ?_) (RB.cells rfl rfl gg (RnL.append (RnL.same (QaY v _)) (RnL.eq ?_ (QaY v _))) RB.nil))
          · rw [xe1]
            exact RnL.cons (Rn.same rfl) (RnL.cons (Rn.same rfl) (RnL.cons (Rn.same rfl) (RnL.cons (Rn.fz gg rfl rfl rfl (RnL.same rfl)) RnL.nil)))
          · show [AV.str (ltT v _)] = _
            rw[hT];rfl
        · skip
          simp(disch:=first|omega|exact PairsOK.mk rfl|(simp only[lenW]<;>omega)) only[hlt,wW,wV,simprocAttr]
          refine QbM [(22,[]),(28,[])] rfl rfl ?_
          simp(disch:=first|omega|exact PairsOK.mk rfl|(simp only[lenW]<;>omega)) only[hlt,hlp,hlq,hdv,hdw,hp1,hq1,hXl,c3,wW,wV,simprocAttr]
          refine⟨⟨⟨_,rfl,fun b hb=>hb⟩,⟨_,rfl,fun b hb=>hb⟩,trivial⟩,?_⟩
          refine cp dp ?_
          simp(disch:=first|omega|exact PairsOK.mk rfl|(simp only[lenW]<;>omega)) only[hXs,wW,wV,simprocAttr]
          refine⟨i+1,by omega,by omega,?_⟩
          rw[hst,hli,List.map_append,List.flatMap_append,List.map_append,List.length_append]
          refine⟨[(51,.blk 51 0),(60,.blk 60 1),(61,.blk 61 1)],rfl,au0,?_,au4⟩
          refine RB.cells rfl rfl gg (RnL.same hnb) (RB.cells rfl rfl gg (RnL.append (RnL.same (QaS _)) ?_) (RB.cells rfl rfl gg (RnL.append (RnL.same (QaY v _)) (RnL.eq ?_ (QaY v _))) RB.nil))
          · rw [xe1]
            exact RnL.cons (Rn.same rfl) (RnL.cons (Rn.same rfl) (RnL.cons (Rn.same rfl) (RnL.cons (Rn.fz gg rfl rfl rfl (RnL.same rfl)) RnL.nil)))
          · show [AV.str (ltT v _)] = _
            rw[hT];rfl
      by_cases c3:p=0
      · subst c3
        have c4:¬q=m:=fun h=>c1 ⟨rfl,h⟩
        have hli:lit1 m i 0 q=[⟨i,0,q,false,true⟩]:=by unfold lit1;rw[if_neg c1,if_neg c2,if_pos rfl,if_neg c4];rfl
        simp(disch:=first|omega|exact PairsOK.mk rfl|(simp only[lenW]<;>omega)) only[hlt,wW,wV,simprocAttr]
        refine QbM [(22,[]),(28,[])] rfl rfl ?_
        simp(disch:=first|omega|exact PairsOK.mk rfl|(simp only[lenW]<;>omega)) only[hlt,hlp,hlq,hdv,hdw,hp1,hq1,hXl,c2,c4,wW,wV,simprocAttr]
        refine⟨⟨⟨_,rfl,fun b hb=>hb⟩,⟨_,rfl,fun b hb=>hb⟩,trivial⟩,?_⟩
        refine cp dq ?_
        simp(disch:=first|omega|exact PairsOK.mk rfl|(simp only[lenW]<;>omega)) only[hXs,wW,wV,simprocAttr]
        refine⟨i+1,by omega,by omega,?_⟩
        rw[hst,hli,List.map_append,List.flatMap_append,List.map_append,List.length_append]
        refine⟨[(51,.blk 51 0),(60,.blk 60 1),(61,.blk 61 1)],rfl,au0,?_,au4⟩
        refine RB.cells rfl rfl gg (RnL.same hnb) (RB.cells rfl rfl gg (RnL.append (RnL.same (QaS _)) ?_) (RB.cells rfl rfl gg (RnL.append (RnL.same (QaY v _)) (RnL.eq ?_ (QaY v _))) RB.nil))
        · rw [xe3]
          exact RnL.cons (Rn.same rfl) (RnL.cons (Rn.same rfl) (RnL.cons (Rn.same rfl) (RnL.cons (Rn.fz gg rfl rfl rfl (RnL.same rfl)) RnL.nil)))
        · show [AV.str (ltT v _)] = _
          rw[hT];rfl
      by_cases c4:q=m
      · have hli : lit1 m i p q = [⟨i, p, q, true, false⟩] := by unfold lit1; rw [if_neg c1, if_neg c2, if_neg c3, if_pos c4]; rfl
        subst c4
        simp(disch:=first|omega|exact PairsOK.mk rfl|(simp only[lenW]<;>omega)) only[hlt,wW,wV,simprocAttr]
        refine QbM [(22,[]),(28,[])] rfl rfl ?_
        simp(disch:=first|omega|exact PairsOK.mk rfl|(simp only[lenW]<;>omega)) only[hlt,hlp,hlq,hdv,hdw,hp1,hq1,hXl,c2,c3,wW,wV,simprocAttr]
        refine⟨⟨⟨_,rfl,fun b hb=>hb⟩,⟨_,rfl,fun b hb=>hb⟩,trivial⟩,?_⟩
        refine cp dp ?_
        simp(disch:=first|omega|exact PairsOK.mk rfl|(simp only[lenW]<;>omega)) only[hXs,hlt,hlp,hlq,hdv,hdw,hp1,hq1,wW,wV,simprocAttr]
        refine⟨i+1,by omega,by omega,?_⟩
        rw[hst,hli,List.map_append,List.flatMap_append,List.map_append,List.length_append]
        refine⟨[(51,.blk 51 0),(60,.blk 60 1),(61,.blk 61 1)],rfl,au0,?_,au4⟩
        refine RB.cells rfl rfl gg (RnL.same hnb) (RB.cells rfl rfl gg (RnL.append (RnL.same (QaS _)) ?_) (RB.cells rfl rfl gg (RnL.append (RnL.same (QaY v _)) (RnL.eq ?_ (QaY v _))) RB.nil))
        · rw [xe2]
          exact RnL.cons (Rn.same rfl) (RnL.cons (Rn.same rfl) (RnL.cons (Rn.same rfl) (RnL.cons (Rn.fz gg rfl rfl rfl (RnL.same rfl)) RnL.nil)))
        · show [AV.str (ltT v _)] = _
          rw[hT];rfl
      · have hli : lit1 m i p q = [⟨i, p, q, true, false⟩] ++ [⟨i, p, q, false, true⟩] := by unfold lit1; rw [if_neg c1, if_neg c2, if_neg c3, if_neg c4]
        simp(disch:=first|omega|exact PairsOK.mk rfl|(simp only[lenW]<;>omega)) only[hlt,hlp,hlq,hdv,hdw,hp1,hq1,hXl,c2,c3,c4,wW,wV,simprocAttr]
        refine cp dp ?_
        simp(disch:=first|omega|exact PairsOK.mk rfl|(simp only[lenW]<;>omega)) only[hXs,hlt,hlp,hlq,hdv,hdw,hp1,hq1,c4,wW,wV,simprocAttr]
        refine cp dq ?_
        simp(disch:=first|omega|exact PairsOK.mk rfl|(simp only[lenW]<;>omega)) only[hXs,wW,wV,simprocAttr]
        refine⟨i+1,by omega,by omega,?_⟩
        rw[hst,hli,<-List.append_assoc]
        simp only[List.map_append,List.flatMap_append,List.length_append]
        refine⟨[(51,.blk 51 0),(60,.blk 60 2),(61,.blk 61 2)],rfl,au0,?_,au4⟩
        refine RB.cells rfl rfl gg (RnL.same hnb) (RB.cells rfl rfl gg (RnL.append (RnL.append (RnL.same (QaS _)) ?_) ?_) (RB.cells rfl rfl gg (RnL.append (RnL.append (RnL.same (QaY v _)) (RnL.eq ?_ (QaY v _))) (RnL.eq ?_ (QaY v _))) RB.nil))
        · rw [xe2]
          exact RnL.cons (Rn.same rfl) (RnL.cons (Rn.same rfl) (RnL.cons (Rn.same rfl) (RnL.cons (Rn.fz gg rfl rfl rfl (RnL.same rfl)) RnL.nil)))
        · rw [xe3]
          exact RnL.cons (Rn.same rfl) (RnL.cons (Rn.same rfl) (RnL.cons (Rn.same rfl) (RnL.cons (Rn.fz gg rfl rfl rfl (RnL.same rfl)) RnL.nil)))
        · show [AV.str (ltT v _)] = _
          rw[hT];rfl
        · show [AV.str (ltT v _)] = _
          rw[hT];rfl
    · have e : i = v.length := by omega
      subst e
      simp(disch:=first|omega|exact PairsOK.mk rfl|(simp only[lenW]<;>omega)) only[hlt,wW,wV,simprocAttr]
      refine⟨(),[],rfl,RO.zero,RB.nil,RT.cons (Rn.fz (b:=60) (g:=0) gg rfl rfl hXl (RnL.same (QaS _))) (RT.cons (Rn.fz (b:=61) (g:=0) gg rfl rfl (by rw[List.length_map,Nat.mul_one]) (RnL.same (QaY v _))) RT.nil)⟩
  rintro _ _
  simp(disch:=first|omega|exact PairsOK.mk rfl|(simp only[lenW]<;>omega)) only[wW,wV,simprocAttr]
  refine⟨.inr trivial,_,rfl,?_⟩
  rw[xpsV,List.length_map]
  exact Rn.same (by simp only[noRefs,noRef,QaS,QaY];rfl)
end Go.AM.SO
namespace Go.AM.SO
open Go.Proofs Go.AM.SD Go.AM.SE
theorem Qox {v:List (List UInt8×Int)} {l:List Lt} {k:Nat} {x:Lt} (h:l[k]?=some x):((l.map (ltS v)).drop k).head?=some (.str (ltT v x)):=by
 rw[List.head?_drop,List.getElem?_map,h];rfl
theorem Qkj {v:List (List UInt8×Int)} {bs:List Bxn} {i:Nat} {b:Bxn} (h:bs[i]?=some b):((bs.take (i+1)).map (bxE' v)).flatMap xpC=((bs.take i).map (bxE' v)).flatMap xpC++xpC (bxE' v b):=by
 rw[show bs.take (i+1)=bs.take i++[b] by rw[List.take_add_one,h];rfl,List.map_append,List.flatMap_append]
 show _++([bxE' v b].flatMap xpC)=_
 rw[List.flatMap_cons,List.flatMap_nil,List.append_nil]
theorem _root_.Go.AM.au5 {p:Prop} (h:p:=by repeat (first|exact RT.nil|(refine RT.cons ?_ ?_; · (first|exact Rn.any|exact Rn.x1 rfl rfl|exact Rn.x2 rfl rfl|exact Rn.x3 rfl rfl|exact Rn.x4 rfl rfl|exact Rn.x5 rfl|exact Rn.x6 rfl|exact Rn.x7 rfl|(refine Rn.slot ?_ ?_;(first|rfl|(rw[Int.natCast_add];rfl));(first|rfl|(simp only[noRef,noRefs,Qah,Bool.and_self,Bool.and_true,Bool.true_and,QaY,QaS,Qav,Qax,Qa1,Qaa];done)))|(refine Rn.fn ?_ ?_<;>(repeat' (first|exact RnL.nil|refine RnL.cons ?_ ?_|exact Rn.same rfl|exact Rn.x6 rfl|exact Rn.x2 rfl rfl|exact Rn.x5 rfl|exact Rn.x1 rfl rfl))))))):p:=h
theorem whole68 (v : List (List UInt8 × Int)) (bs : List Bxn) (h5 : v.length <= 5) (hin : ∀ x ∈ v, 0 <= x.2 /\ x.2 <= 2) (hn : ∀ x ∈ v, x.1.length = 2) (hl : bs.length <= 1000) (hb : ∀ b ∈ bs, BxOk v b) : PSpec Tryz.prog 68 [vrsV v, bxsV bs] (.tup [.agg (xpC (whE v bs)), .str (whT v bs)]) := by
  refine PSpec.of_rn 64 XA.ok68 rfl (by simp only[noRefs,noRef,Qav,Qax];rfl) (by simp only[noRefs,noRef,QaM];rfl) ?_
  have hbl:=Qd1 bs
  unfold whE whT
  by_cases h0:bs.length=0
  · rw [if_pos h0, if_pos h0]
    have hf:=false135
    have n1:=QaM falE
    rw[xp2_C,at_C]at hf⊢
    simp(disch:=first|omega|exact PairsOK.mk rfl|(simp only[lenW]<;>omega)) only[XA.s68,h0,wW,wV,simprocAttr]
    refine cp hf ?_
    simp(disch:=first|omega|exact PairsOK.mk rfl|(simp only[lenW]<;>omega)) only[wW,wV,simprocAttr]
    exact⟨.inr trivial,_,rfl,Rn.same rfl⟩
  rw[if_neg h0,if_neg h0]
  have h0':¬(bs.length:Int)=0:=by omega
  simp(disch:=first|omega|exact PairsOK.mk rfl|(simp only[lenW]<;>omega)) only[XA.s68,h0',wW,wV,simprocAttr]
  refine Qaz 200 (fun i:Nat=>[(0,vrsV v),(1,bxsV bs),(4,.ptr 52 0 0),(6,.sl 60 0 0 i 4),(7,.str (orT v bs i)),(8,.int .i64 i)]) (fun i=>[(52,.cells 0 [.int .i64 0,.int .i64 0,.int .i64 0,.nilsl]),(60,.cells 0 (((bs.take i).map (bxE' v)).flatMap xpC))]) (fun i=>i<=bs.length) (fun i=>bs.length-i) 0 0 500 (fun _:Unit=>[(4,.ptr 52 0 0),(6,.fsl ((bs.map (bxE' v)).flatMap xpC) bs.length 4),(7,.str (orT v bs bs.length))]) (fun _=>[(52,.cells 0 [.int .i64 0,.int .i64 0,.int .i64 0,.nilsl])]) (fun _=>True) ?_ (Nat.zero_le _) ?_ ?_
  · refine ⟨[(52, .blk 64 0), (60, .nil)], rfl, au0, ?_, au5⟩
    exact RB.cells rfl rfl gg (RnL.same rfl) (RB.newnil rfl rfl RB.nil)
  · rintro i hi
    have hTl:=(Qew hn h5 hin hb i hi).1
    have hXl:=QbU ((bs.take i).map (bxE' v))
    rw[List.length_map,List.length_take,Nat.min_eq_left hi]at hXl
    by_cases hlt:i<bs.length
    · obtain ⟨b, hx⟩ := Qaj hlt
      have hdb:=QdG hx
      have hdl:2<=((bs.flatMap bxC).drop (i*2)).length:=by rw[hdb];simp
      have hbo:=hb b (List.mem_of_getElem? hx)
      have hL:=lits136 v b (by omega) hin hn hbo
      have hcs:=@Qkj v bs i b hx
      have hor:orT v bs (i+1)=orT v bs i++(if 0<i then[32,111,114,32]else[])++bxT v b:=by rw[orT,QaB hx]
      have hlo:=QfD hin hbo
      have hll:(lits v b).length<=2*v.length:=Qcc v.length
      obtain⟨S,hS,hSl⟩:∃S,orT v bs i++(if 0<i then[32,111,114,32]else[])=S/\S.length<=124004:=⟨_,rfl,by split<;>simp<;>omega⟩
      rw[hS]at hor
      have hLl:((lits v b).map ltX).length=(lits v b).length:=List.length_map _
      have hbx:bxE' v b=if(lits v b).length=0 then truE else joinE 11 (lits v b).length ((lits v b).map ltX):=rfl
      have hbt:bxT v b=if(lits v b).length=0 then[116,114,117,101]else anT v (lits v b) (lits v b).length:=rfl
      have hAl:=QfF hn hlo
      have hj:=join138 11 (lits v b).length ((lits v b).map ltX)
      have hhd:=@Qox v (lits v b)
      rw[hLl]at hj
      rw[xpsV,hLl]at hL
      have hXn:=QaS ((bs.take i).map (bxE' v))
      generalize ((bs.take i).map (bxE' v)).flatMap xpC=X at*
      generalize (lits v b).map ltX=LE at*
      generalize lits v b=L at*
      have hoi:(if 0<i then orT v bs i++[32,111,114,32]else orT v bs i)=S:=by rw[<-hS];split<;>simp
      generalize orT v bs i=O at*
      by_cases hi0:0<i
      · rw [if_pos hi0] at hoi
        simp(disch:=first|omega|exact PairsOK.mk rfl|(simp only[lenW]<;>omega)) only[hlt,hdb,hdl,hi0,wW,wV,simprocAttr]
        rw[hoi]
        refine cp hL ?_
        by_cases hK:L.length=0
        · rw [if_pos hK] at hbx hbt
          have ht:=true137
          rw[hbx,xp2_C,at_C]at hcs
          rw[xp2_C,at_C]at ht
          simp(disch:=first|omega|exact PairsOK.mk rfl|(simp only[lenW]<;>omega)) only[hK,wW,wV,simprocAttr]
          refine cp ht ?_
          simp(disch:=first|omega|exact PairsOK.mk rfl|(simp only[lenW]<;>omega)) only[hXl,wW,wV,simprocAttr]
          refine⟨i+1,by omega,by omega,?_⟩
          rw[hcs,hor,hbt]
          refine⟨[(52,.blk 52 0),(60,.blk 60 1)],rfl,au0,?_,au5⟩
          exact RB.cells rfl rfl gg (RnL.same rfl) (RB.cells rfl rfl gg (RnL.same (Qa6 hXn rfl)) RB.nil)
        · have hK' : ¬ (L.length : Int) = 0 := by omega
          have hj:=hj (by omega) (Nat.le_refl _) (by omega)
          rw[if_neg hK]at hbx hbt
          rw[hbx]at hcs
          have m1:=QaM (joinE 11 L.length LE)
          have m2:=Qa8 (joinE 11 L.length LE)
          have m3:=Qbu (joinE 11 L.length LE)
          generalize xpC (joinE 11 L.length LE)=W at*
          obtain⟨p0,p1,p2,p3,rfl⟩:=four W m2
          have hnX:noRefs (X++[p0,p1,p2,p3])=true:=Qa6 hXn m1
          simp(disch:=first|omega|exact PairsOK.mk rfl|(simp only[lenW]<;>omega)) only[hK',wW,wV,simprocAttr]
          refine cp hj ?_
          simp(disch:=first|omega|exact PairsOK.mk rfl|(simp only[lenW]<;>omega)) only[hXl,m3,wW,wV,simprocAttr]
          refine Qaz 600 (fun k:Nat=>[(0,vrsV v),(1,bxsV bs),(4,.ptr 52 0 0),(6,.sl 60 0 0 (i+1) 4),(7,.str (S++anT v L k)),(8,.int .i64 i),(10,.fsl (L.map (ltS v)) L.length 1),(11,.int .i64 k)]) (fun _=>[(52,.cells 0 [.int .i64 0,.int .i64 0,.int .i64 0,.nilsl]),(60,.cells 0 (X++[p0,p1,p2,p3]))]) (fun k=>k<=L.length) (fun k=>L.length-k) 0 2 700 (fun _:Unit=>[(0,vrsV v),(1,bxsV bs),(4,.ptr 52 0 0),(6,.sl 60 0 0 (i+1) 4),(7,.str (S++anT v L L.length)),(8,.int .i64 i)]) (fun _=>[(52,.cells 0 [.int .i64 0,.int .i64 0,.int .i64 0,.nilsl]),(60,.cells 0 (X++[p0,p1,p2,p3]))]) (fun _=>True) ?_ (Nat.zero_le _) ?_ ?_
          · show Rec _ [_, _, _, _, (7, .str (S ++ [])), _, _, _] _ _ _
            rw[List.append_nil]
            refine⟨[(52,.blk 52 0),(60,.blk 60 1)],rfl,au0,?_,au5⟩
            exact RB.cells rfl rfl gg (RnL.same rfl) (RB.cells rfl rfl gg (RnL.same hnX) RB.nil)
          · rintro k hk
            by_cases hlk:k<L.length
            · obtain ⟨y, hy⟩ := Qaj hlk
              have hh:=hhd hy
              have ha:=(hAl k (by omega)).1
              have hy7:=(Qev hn (hlo y (List.mem_of_getElem? hy))).1
              have han:anT v L (k+1)=anT v L k++(if 0<k then[32,97,110,100,32]else[])++ltT v y:=by rw[anT,QaB hy]
              by_cases hk0:0<k
              · rw [if_pos hk0] at han
                simp(disch:=first|omega|exact PairsOK.mk rfl|(simp only[lenW]<;>omega)) only[hlk,hh,hk0,wW,wV,simprocAttr]
                refine⟨k+1,by omega,by omega,?_⟩
                rw[han,<-List.append_assoc,<-List.append_assoc]
                refine⟨[(52,.blk 52 0),(60,.blk 60 0)],rfl,au0,?_,au5⟩
                exact RB.cells rfl rfl gg (RnL.same rfl) (RB.cells rfl rfl gg (RnL.same hnX) RB.nil)
              · rw [if_neg hk0, List.append_nil] at han
                simp(disch:=first|omega|exact PairsOK.mk rfl|(simp only[lenW]<;>omega)) only[hlk,hh,hk0,wW,wV,simprocAttr]
                refine⟨k+1,by omega,by omega,?_⟩
                rw[han,<-List.append_assoc]
                refine⟨[(52,.blk 52 0),(60,.blk 60 0)],rfl,au0,?_,au5⟩
                exact RB.cells rfl rfl gg (RnL.same rfl) (RB.cells rfl rfl gg (RnL.same hnX) RB.nil)
            · have e : k = L.length := by omega
              subst e
              simp(disch:=first|omega|exact PairsOK.mk rfl|(simp only[lenW]<;>omega)) only[hlk,wW,wV,simprocAttr]
              refine⟨(),⟨[(52,.blk 52 0),(60,.blk 60 0)],rfl,au0,?_,au5⟩⟩
              exact RB.cells rfl rfl gg (RnL.same rfl) (RB.cells rfl rfl gg (RnL.same hnX) RB.nil)
          · rintro _ _
            simp(disch:=first|omega|exact PairsOK.mk rfl|(simp only[lenW]<;>omega)) only[wW,wV,simprocAttr]
            refine⟨i+1,by omega,by omega,?_⟩
            rw[hcs,hor,hbt]
            refine⟨[(52,.blk 52 0),(60,.blk 60 0)],rfl,au0,?_,au5⟩
            exact RB.cells rfl rfl gg (RnL.same rfl) (RB.cells rfl rfl gg (RnL.same hnX) RB.nil)
      · rw [if_neg hi0] at hoi
        simp(disch:=first|omega|exact PairsOK.mk rfl|(simp only[lenW]<;>omega)) only[hlt,hdb,hdl,hi0,wW,wV,simprocAttr]
        rw[hoi]
        refine cp hL ?_
        by_cases hK:L.length=0
        · rw [if_pos hK] at hbx hbt
          have ht:=true137
          rw[hbx,xp2_C,at_C]at hcs
          rw[xp2_C,at_C]at ht
          simp(disch:=first|omega|exact PairsOK.mk rfl|(simp only[lenW]<;>omega)) only[hK,wW,wV,simprocAttr]
          refine cp ht ?_
          simp(disch:=first|omega|exact PairsOK.mk rfl|(simp only[lenW]<;>omega)) only[hXl,wW,wV,simprocAttr]
          refine⟨i+1,by omega,by omega,?_⟩
          rw[hcs,hor,hbt]
          refine⟨[(52,.blk 52 0),(60,.blk 60 1)],rfl,au0,?_,au5⟩
          exact RB.cells rfl rfl gg (RnL.same rfl) (RB.cells rfl rfl gg (RnL.same (Qa6 hXn rfl)) RB.nil)
        · have hK' : ¬ (L.length : Int) = 0 := by omega
          have hj:=hj (by omega) (Nat.le_refl _) (by omega)
          rw[if_neg hK]at hbx hbt
          rw[hbx]at hcs
          have m1:=QaM (joinE 11 L.length LE)
          have m2:=Qa8 (joinE 11 L.length LE)
          have m3:=Qbu (joinE 11 L.length LE)
          generalize xpC (joinE 11 L.length LE)=W at*
          obtain⟨p0,p1,p2,p3,rfl⟩:=four W m2
          have hnX:noRefs (X++[p0,p1,p2,p3])=true:=Qa6 hXn m1
          simp(disch:=first|omega|exact PairsOK.mk rfl|(simp only[lenW]<;>omega)) only[hK',wW,wV,simprocAttr]
          refine cp hj ?_
          simp(disch:=first|omega|exact PairsOK.mk rfl|(simp only[lenW]<;>omega)) only[hXl,m3,wW,wV,simprocAttr]
          refine Qaz 600 (fun k:Nat=>[(0,vrsV v),(1,bxsV bs),(4,.ptr 52 0 0),(6,.sl 60 0 0 (i+1) 4),(7,.str (S++anT v L k)),(8,.int .i64 i),(10,.fsl (L.map (ltS v)) L.length 1),(11,.int .i64 k)]) (fun _=>[(52,.cells 0 [.int .i64 0,.int .i64 0,.int .i64 0,.nilsl]),(60,.cells 0 (X++[p0,p1,p2,p3]))]) (fun k=>k<=L.length) (fun k=>L.length-k) 0 2 700 (fun _:Unit=>[(0,vrsV v),(1,bxsV bs),(4,.ptr 52 0 0),(6,.sl 60 0 0 (i+1) 4),(7,.str (S++anT v L L.length)),(8,.int .i64 i)]) (fun _=>[(52,.cells 0 [.int .i64 0,.int .i64 0,.int .i64 0,.nilsl]),(60,.cells 0 (X++[p0,p1,p2,p3]))]) (fun _=>True) ?_ (Nat.zero_le _) ?_ ?_
          · show Rec _ [_, _, _, _, (7, .str (S ++ [])), _, _, _] _ _ _
            rw[List.append_nil]
            refine⟨[(52,.blk 52 0),(60,.blk 60 1)],rfl,au0,?_,au5⟩
            exact RB.cells rfl rfl gg (RnL.same rfl) (RB.cells rfl rfl gg (RnL.same hnX) RB.nil)
          · rintro k hk
            by_cases hlk:k<L.length
            · obtain ⟨y, hy⟩ := Qaj hlk
              have hh:=hhd hy
              have ha:=(hAl k (by omega)).1
              have hy7:=(Qev hn (hlo y (List.mem_of_getElem? hy))).1
              have han:anT v L (k+1)=anT v L k++(if 0<k then[32,97,110,100,32]else[])++ltT v y:=by rw[anT,QaB hy]
              by_cases hk0:0<k
              · rw [if_pos hk0] at han
                simp(disch:=first|omega|exact PairsOK.mk rfl|(simp only[lenW]<;>omega)) only[hlk,hh,hk0,wW,wV,simprocAttr]
                refine⟨k+1,by omega,by omega,?_⟩
                rw[han,<-List.append_assoc,<-List.append_assoc]
                refine⟨[(52,.blk 52 0),(60,.blk 60 0)],rfl,au0,?_,au5⟩
                exact RB.cells rfl rfl gg (RnL.same rfl) (RB.cells rfl rfl gg (RnL.same hnX) RB.nil)
              · rw [if_neg hk0, List.append_nil] at han
                simp(disch:=first|omega|exact PairsOK.mk rfl|(simp only[lenW]<;>omega)) only[hlk,hh,hk0,wW,wV,simprocAttr]
                refine⟨k+1,by omega,by omega,?_⟩
                rw[han,<-List.append_assoc]
                refine⟨[(52,.blk 52 0),(60,.blk 60 0)],rfl,au0,?_,au5⟩
                exact RB.cells rfl rfl gg (RnL.same rfl) (RB.cells rfl rfl gg (RnL.same hnX) RB.nil)
            · have e : k = L.length := by omega
              subst e
              simp(disch:=first|omega|exact PairsOK.mk rfl|(simp only[lenW]<;>omega)) only[hlk,wW,wV,simprocAttr]
              refine⟨(),⟨[(52,.blk 52 0),(60,.blk 60 0)],rfl,au0,?_,au5⟩⟩
              exact RB.cells rfl rfl gg (RnL.same rfl) (RB.cells rfl rfl gg (RnL.same hnX) RB.nil)
          · rintro _ _
            simp(disch:=first|omega|exact PairsOK.mk rfl|(simp only[lenW]<;>omega)) only[wW,wV,simprocAttr]
            refine⟨i+1,by omega,by omega,?_⟩
            rw[hcs,hor,hbt]
            refine⟨[(52,.blk 52 0),(60,.blk 60 0)],rfl,au0,?_,au5⟩
            exact RB.cells rfl rfl gg (RnL.same rfl) (RB.cells rfl rfl gg (RnL.same hnX) RB.nil)
    · have e : i = bs.length := by omega
      subst e
      rw[List.take_length]at hXl
      simp(disch:=first|omega|exact PairsOK.mk rfl|(simp only[lenW]<;>omega)) only[hlt,wW,wV,simprocAttr]
      refine⟨(),[(52,.blk 52 0)],rfl,RO.zero,RB.cells rfl rfl gg (RnL.same rfl) RB.nil,RT.cons (Rn.x2 rfl rfl) (RT.cons (Rn.fz (b:=60) (g:=0) gg rfl rfl hXl (RnL.same (QaS _))) (RT.cons (Rn.same rfl) RT.nil))⟩
  rintro _ _
  have hj:=join138 12 bs.length (bs.map (bxE' v)) (by rw[List.length_map];omega) (by rw[List.length_map];exact Nat.le_refl _) (by rw[List.length_map];omega)
  rw[List.length_map]at hj
  have n1:=QaM (joinE 12 bs.length (bs.map (bxE' v)))
  have n2:=Qa8 (joinE 12 bs.length (bs.map (bxE' v)))
  have n3:=Qbu (joinE 12 bs.length (bs.map (bxE' v)))
  generalize xpC (joinE 12 bs.length (bs.map (bxE' v)))=W at*
  obtain⟨p0,p1,p2,p3,rfl⟩:=four W n2
  have r1:putR [.int .i64 0,.int .i64 0,.int .i64 0,.nilsl] 0 [p0,p1,p2,p3]=[p0,p1,p2,p3]:=rfl
  simp(disch:=first|omega|exact PairsOK.mk rfl|(simp only[lenW]<;>omega)) only[wW,wV,simprocAttr]
  refine cp hj ?_
  simp(disch:=first|omega|exact PairsOK.mk rfl|(simp only[lenW]<;>omega)) only[n3,r1,wW,wV,simprocAttr]
  exact⟨.inr trivial,_,rfl,Rn.same (by simp only[noRefs,noRef]at n1⊢;rw[n1];rfl)⟩
end Go.AM.SO
namespace Go.AM.OK
open Go.Proofs
def s77:SFn:=⟨19,[.tmp 4,.tmp 5],
 (.seq (.region [Zz 4 (.mov (.c (.int .i64 0))) [],
 Zz 5 (.mov (.c .nilif)) [0]] [] [4,5])
 (.seq (.region [Zm 6 0 [],
 Zz 7 (.call .heap (.f 147) [(.t 6)]) [0]] [] [6,7])
 (.seq (.region [Zm 8 0 [],
 Zm 9 0 [],
 Zz 10 (.nilchk (.t 9)) [1],
 Zf 11 1 10 [2],
 Zl 12 11 [3],
 Zm 13 1 [],
 Zz 14 (.appendT 5 .dyn 1 1 (.t 12) (.t 13)) [4,5],
 Zz 15 (.nilchk (.t 8)) (Za [0] 7),
 Zf 16 1 15 (Za [7] 7),
 Zs 1 16 14 (Za [8,6,6] 7)] [] [0,8,9,10,11,12,13,14,15,16])
 (.seq (.region [Zm 17 1 [],
 Zz 18 (.len 0 (.t 17)) [0],
 Zm 4 18 [1,0,1],
 Zz 5 (.mov (.c .nilif)) [2,0,1,2]] [] [1,17,18])
 .ret))))⟩
def s78:SFn:=⟨14,[.tmp 2],
 (.seq (.region [Zz 2 (.mov (.c (.str []))) []] [] [2])
 (.seq (.region [Zm 3 0 [],
 Zz 4 (.nilchk (.t 3)) [0],
 Zf 5 1 4 [1],
 Zl 6 5 [2],
 Zz 7 (.usd (.t 6)) [3],
 Zm 8 0 [],
 Zz 9 (.nilchk (.t 8)) [5],
 Zf 10 1 9 [6],
 Zl 11 10 [7],
 Zv 12 11 [8],
 Zz 13 (.ustr 5 (.t 7) (.t 12)) [4,9],
 Zm 2 13 (Za [10] 11)] [] [0,3,4,5,6,7,8,9,10,11,12,13])
 .ret))⟩
def s147:SFn:=⟨20,[],
 (.seq (.region [Zm 2 0 [],
 Zz 3 (.nilchk (.t 2)) [0],
 Zf 4 0 3 [1],
 Zl 5 4 [2],
 Zz 6 (.eq (.nil 1) false (.t 5) (.c .nilptr)) [3]] [] [2,3,4,5])
 (.cond (.t 6)
 (.region [Zm 7 0 [],
 Zm 8 0 [],
 Zz 9 (.convP 177 2 (.t 8)) [1],
 Zz 10 (.ext 2 187 [(.t 9)]) [2],
 Zz 11 (.convP 177 2 (.t 10)) [3],
 Zz 12 (.nilchk (.t 7)) (Za [0] 5),
 Zf 13 0 12 (Za [5] 5),
 Zs 1 13 11 (Za [6,4,3] 5)] [] [0,6,7,8,9,10,11,12,13])
 (.seq (.region [Zm 14 0 [],
 Zz 15 (.nilchk (.t 14)) [0],
 Zf 16 0 15 [1],
 Zl 17 16 [2],
 Zm 18 0 [],
 Zz 19 (.eqp true (.t 17) (.t 18)) [3,4]] [] [0,6,14,15,16,17,18])
 (.cond (.t 19)
 .bad
 .skip))))⟩
theorem ok77:okFn Tryz.prog 77 s77=true:=by kernel_rfl
theorem ok78:okFn Tryz.prog 78 s78=true:=by kernel_rfl
theorem ok147:okFn Tryz.prog 147 s147=true:=by kernel_rfl
end Go.AM.OK
namespace Go.AM
variable {P:Program} {N:NM} {r:List SOper} {dead:List Nat} {d:Option Nat} {fs:List Fr} {n:Nat} {T:Tmps} {h:Heap} {Q:QC}
def byV (s:List UInt8):List AV:=s.map fun b=> .int .u8 b.toNat
theorem QfH (s:List UInt8):(byV s).length=s.length:=by simp[byV]
theorem QhM (s u:List UInt8):byV (s++u)=byV s++byV u:=by simp[byV]
theorem QaP:∀s:List UInt8,noRefs (byV s)=true
 |[]=>rfl
 |x::s=>by show(true&&noRefs (byV s))=true;rw[QaP s];rfl
theorem Qkk:∀s:List UInt8,(byV s).all AV.one=true
 |[]=>rfl
 |x::s=>by show(true&&(byV s).all AV.one)=true;rw[Qkk s];rfl
theorem Qmu:∀s:List UInt8,bytesIn (byV s)=some s:=by
 intro s
 induction s with
 |nil=>rfl
 |cons x s ih=>
  show(if 0<=(x.toNat:Int)/\(x.toNat:Int)<256 then(bytesIn (byV s)).map (UInt8.ofNat (x.toNat:Int).toNat:: ·)else none)=_
  have:=x.toNat_lt
  rw[if_pos ⟨by omega,by omega⟩,ih]
  simp
theorem tNil {t k b g o:Nat}:aNil (.typed t k (.ptr b g o))=some (.typed t k (.ptr b g o)):=rfl
theorem tFA {off t k b g o:Nat}:aFAddr off (.typed t k (.ptr b g o))=some (.ptr b g (o+off)):=rfl
theorem tEq0:aEq (.nil 1) false .nilptr .nilptr=some (.bool true):=rfl
theorem tEq1 {t k b g o:Nat}:aEq (.nil 1) false (.typed t k (.ptr b g o)) .nilptr=some (.bool false):=rfl
theorem tConv {t k b g o:Nat}:aConvP t k (.typed t k (.ptr b g o))=some (.typed t k (.ptr b g o)):=if_pos ⟨rfl,rfl⟩
theorem tExt {t k b g o:Nat}:aExt 2 [.typed t k (.ptr b g o)]=some (.typed t k (.ptr b g o)):=rfl
theorem tEqP {t k b g o:Nat}:aEqP true (.typed t k (.ptr b g o)) (.typed t k (.ptr b g o))=some (.bool false):=by simp[aEqP,AV.bare]
theorem Qae {t k:Nat} {v:AV}:AV.cells (.typed t k v)=[.typed t k v]:=rfl
theorem Qao {t k:Nat} {v:AV}:AV.one (.typed t k v)=true:=rfl
theorem Qap {t k:Nat} {v:AV}:AV.boxable (.typed t k v)=true:=rfl
theorem tUsd {t b g len sz:Nat}:aUsd (.typed t 0 (.sl b g 0 (len+1) sz))=some (.typed t 0 (.ptr b g 0)):=rfl
theorem tLen {t k b g off len sz:Nat}:aLenC 1 (.typed t k (.sl b g off len sz))= .ret (.int .i64 len):=rfl
theorem QiJ {α β:Type} {m:HM α} {f:α->HM β} {h h1:Heap} {a:α} (hm:m.run h=some (a,h1)):(m.bind f).run h=(f a).run h1:=by
 induction m generalizing h with
 |ret b=>simp only[HM.run,Option.some.injEq,Prod.mk.injEq]at hm;obtain⟨rfl,rfl⟩:=hm;rfl
 |fail=>simp[HM.run]at hm
 |look b k ih=>exact ih _ hm
 |put b x k ih=>
  simp only[HM.run,HM.bind]at hm⊢
  cases hb:Nat.blt b lim
  ·rw[hb]at hm;simp at hm
  ·rw[hb]at hm;simp only[cond_true]at hm⊢;exact ih hm
theorem QiK {t:Nat} {s:List UInt8} (hs:0<s.length) (hl:s.length<=140737488355328) (hn:h.get n=none) (hl2:n<1099511627775)
  (hk:wR P N r dead fs (n+1) (putD T d (.typed t 0 (.sl n 0 0 s.length 1))) (h.set n (.cells 0 (byV s))) Q):wM P N (aAppendT t .dyn n 1 1 .nilsl (.str s)) d r dead fs n T h Q:=by
 obtain⟨k,hk'⟩:∃k,s.length=k+1:=⟨s.length-1,by omega⟩
 have hb:Nat.blt n lim=true:=by simp[Nat.blt,lim];omega
 have e:(aAppend .dyn n 1 1 .nilsl (.str s)).run h=some (.sl n 0 0 s.length 1,h.set n (.cells 0 (byV s))):=by
  have ho:=Qkk s
  unfold byV at ho⊢
  simp only[aAppend,aSrc,if_true,slLen,Nat.zero_add,hk',Nat.mul_one]
  rw[if_pos ⟨by omega,by omega,ho⟩]
  simp[HM.new,HM.run,hn,hb]
 refine⟨_,_,?_,hk⟩
 show((aAppend .dyn n 1 1 .nilsl (.str s)).bind fun v=> .ret (tagT t v)).run h=_
 rw[QiJ e];rfl
theorem QgH {t b g len:Nat} {s:List UInt8} {cs:List AV} (hb:h.get b=some (.cells g cs)) (hc:len+1=cs.length) (hl:len+1+s.length<=140737488355328) (hl2:b<1099511627775)
  (hk:wR P N r dead fs (n+1) (putD T d (.typed t 0 (.sl b (g+1) 0 (len+1+s.length) 1))) (h.set b (.cells (g+1) (cs++byV s))) Q):wM P N (aAppendT t .dyn n 1 1 (.typed t 0 (.sl b g 0 (len+1) 1)) (.str s)) d r dead fs n T h Q:=by
 have hb':Nat.blt b lim=true:=by simp[Nat.blt,lim];omega
 have e:(aAppend .dyn n 1 1 (.sl b g 0 (len+1) 1) (.str s)).run h=some (.sl b (g+1) 0 (len+1+s.length) 1,h.set b (.cells (g+1) (cs++byV s))):=by
  have ho:=Qkk s
  unfold byV at ho⊢
  simp only[aAppend,aSrc,if_true,slLen,Nat.mul_one]
  rw[if_pos ⟨by omega,by omega,ho⟩]
  have ht:cs.take (len+1)=cs:=List.take_of_length_le (by omega)
  simp[HM.cells,HM.run,hb,hb',ht]
  rw[if_pos (by omega)];simp[HM.run,hb']
 refine⟨_,_,?_,hk⟩
 show(if t=t then _ else _:HM AV).run h=_
 rw[if_pos rfl,QiJ e];rfl
theorem Qoy {t b g:Nat} {s:List UInt8} (hs:0<s.length) (hb:h.get b=some (.cells g (byV s))) (hl:s.length<=140737488355328) (hl2:b<1099511627775)
  (hk:wR P N r dead fs (n+1) (putD T d (.str s)) (h.set b (.dead g)) Q):wM P N (aUstr t (.typed t 0 (.ptr b g 0)) (.int .i64 s.length)) d r dead fs n T h Q:=by
 have hb':Nat.blt b lim=true:=by simp[Nat.blt,lim];omega
 refine⟨_,_,?_,hk⟩
 have ht:(byV s).take (s.length:Int).toNat=byV s:=List.take_of_length_le (by simp[byV])
 simp only[aUstr]
 rw[if_pos ⟨trivial,by omega,by omega⟩]
 simp only[HM.cells,HM.run,hb,Nat.beq_refl,cond_true,ht,Qmu]
 rw[if_pos (by omega)];simp[HM.run,hb']
theorem RB.deadB {m:Nat} {π:Nat->Option Src} {h:Heap} {b g:Nat} {r:HL} (hm:Nat.blt b m=true) (hg:h.get b=some (.dead g)) (hr:RB m π h r):RB m π h ((b,.dead g)::r):=⟨.inl ⟨by simpa using hm,hg⟩,hr⟩
theorem Qag {t:Nat} {x:AV}:wM P N (aBoxT t .dyn n x) d r dead fs n T h Q=if x.boxable=true then wN P N x.cells (.typed t x.cells.length (.ptr n 0 0)) d r dead fs n T h Q else False:=by
 unfold aBoxT
 rw[QcT,Qep rfl]
 split<;>simp_all
end Go.AM
namespace Go.AM.SK
open Go.Proofs
set_option maxHeartbeats 4000000
noncomputable section
def cf:YA.Cf:={}
noncomputable def ft:FT2:=YA.tre Tryz.prog cf 20 [45,52,64,66,77,78,83,86,91,95,98,100,101,102,113,114,115,116,117,129,132,133,144,147,148,149,151,152,154,155,156,157,159,160,161,162,163,164,165,169,170,171,172,173,174,175,179,183,188,191,192,193,194,195,196,197,198,199,200,201,202,204,205,206,216,217,218,219,220,221,222,223,224,234,236,239,245,251,252,253,254,259,260,261,262,263,264,265,266,267,276,277,278,279,283]
theorem ft_ok:ft.OK Tryz.prog:=YA.Qfr _ _ (YA.QeP (by kernel_rfl))
end
end Go.AM.SK
namespace Go.AM.SU
open Go.Proofs
set_option maxHeartbeats 4000000
noncomputable section
def cf:YA.Cf:={always:=[95,150].map fun k=>(k,.pure)}
def s42:SFn:=⟨192,[.cell 2 (some 5)],
 (.seq (.region [Zz 1 (.box .dyn (.t 0)) [],
 Zz 2 (.alloc .dyn (.agg [.nilsl,.nilsl,.nilsl,.nilsl,.nilsl])) []] [] [0])
 (.seq (.region [Zf 17 0 1 [],
 Zw 18 5 17 [0],
 Zz 19 (.call .pure (.f 89) [(.t 18)]) [1],
 Zz 20 (.build [.nilsl,.nilsl,.nilsl,.nilsl,.nilsl] [(0,1,(.t 19))]) [2],
 Zz 3 (.alloc .dyn (.agg [.nilsl,.nilsl,.nilsl,.nilsl,.nilsl])) [],
 Zs 5 3 20 (Za [4,3,2] 5)] [] [17,18,19,20])
 (.seq (.region [Zz 4 (.alloc .dyn .nilsl) []] [] [])
 (.seq (.region [Zf 21 5 1 [],
 Zl 22 21 [0],
 Zz 23 (.bin .rem (.t 22) (.c (.int .u8 3))) [1],
 Zz 24 (.conv .i64 (.t 23)) [2],
 Zz 25 (.bin .add (.c (.int .i64 1)) (.t 24)) [3],
 Zm 5 25 (Za [4] 5)] [] [21,22,23,24,25])
 (.seq (.seq (.region [Zm 26 5 [],
 Zz 27 (.mov (.c (.int .i64 0))) []] [] [])
 (.block 0 (.loop (.seq (.region [Zb 28 .lss 27 26 []] [] [])
 (.seq (.cond (.t 28)
 .skip
 (.exit 0))
 (.seq (.block 1 (.seq (.region [Zm 29 27 [],
 Zm 6 29 [0,0]] [] [28,29])
 (.seq (.region [Zm 30 6 [],
 Zf 31 6 1 [],
 Zz 32 (.iaddr (some 3) 1 (.t 31) (.t 30)) [1,0],
 Zl 33 32 [2],
 Zz 34 (.call .pure (.f 90) [(.t 33)]) [3],
 Zm 7 34 (Za [4,4] 5)] [] [30,31,32,33,34])
 (.seq (.region [Zl 35 4 [],
 Zm 36 7 [],
 Zz 37 (.call .pure (.f 91) [(.t 35),(.t 36)]) [0,1],
 Zs 1 4 37 [2,2,0,1,2]] [] [35,36,37])
 (.region [Zf 38 1 3 [],
 Zl 39 38 [0],
 Zm 40 6 [],
 Zz 41 (.bin .add (.c (.int .i64 48)) (.t 40)) [2],
 Zz 42 (.conv .i32 (.t 41)) [3],
 Zz 43 (.convS (.t 42)) [4],
 Zz 44 (.bin .add (.c (.str [99])) (.t 43)) [5],
 Zm 45 7 [],
 Zm 46 6 [],
 Zf 47 9 1 [],
 Zz 48 (.iaddr (some 3) 27 (.t 47) (.t 46)) [9,8],
 Zw 49 27 48 [10],
 Zz 50 (.call .pure (.f 92) [(.t 45),(.t 49),(.c (.int .i64 3))]) [7,11],
 Zz 51 (.build [(.str []),.nilsl,(.int .i64 0),.nilsl,.nilsl] [(0,1,(.t 44)),(1,4,(.t 50))]) [6,12],
 Zz 52 (.bslice false .dyn 5 1 [(.str []),.nilsl,(.int .i64 0),.nilsl,.nilsl] [(0,5,(.t 51))]) [13],
 Zz 53 (.append .dyn 5 96 (.t 39) (.t 52)) [1,14,12],
 Zf 54 1 3 (Za [] 16),
 Zs 1 54 53 (Za [16,15,15] 16)] [] [6,7,38,39,40,41,42,43,44,45,46,47,48,49,50,51,52,53,54])))))
 (.region [Zz 55 (.bin .add (.t 27) (.c (.int .i64 1))) [],
 Zm 27 55 [0]] [] [55])))))))
 (.seq (.seq (.region [Zf 56 90 1 [],
 Zl 57 56 [0],
 Zz 58 (.bin .rem (.t 57) (.c (.int .u8 3))) [1],
 Zz 59 (.conv .i64 (.t 58)) [2],
 Zz 60 (.mov (.c (.int .i64 0))) []] [] [26,27,56,57,58])
 (.block 2 (.loop (.seq (.region [Zb 61 .lss 60 59 []] [] [])
 (.seq (.cond (.t 61)
 .skip
 (.exit 2))
 (.seq (.block 3 (.seq (.region [Zm 62 60 [],
 Zm 8 62 [0,0]] [] [61,62])
 (.seq (.region [Zm 63 8 [],
 Zf 64 91 1 [],
 Zz 65 (.iaddr (some 2) 1 (.t 64) (.t 63)) [1,0],
 Zl 66 65 [2],
 Zz 67 (.call .heap (.f 90) [(.t 66)]) [3],
 Zz 68 (.mkfn 94 [] [(.t 4)]) [],
 Zz 69 (.call .heap (.f 93) [(.t 67),(.t 68)]) [4,5,4],
 Zm 9 69 (Za [6,6] 7)] [] [63,64,65,66,67,68,69])
 (.region [Zf 70 2 3 [],
 Zl 71 70 [0],
 Zm 72 8 [],
 Zz 73 (.bin .add (.c (.int .i64 48)) (.t 72)) [2],
 Zz 74 (.conv .i32 (.t 73)) [3],
 Zz 75 (.convS (.t 74)) [4],
 Zz 76 (.bin .add (.c (.str [114])) (.t 75)) [5],
 Zm 77 9 [],
 Zm 78 8 [],
 Zf 79 93 1 [],
 Zz 80 (.iaddr (some 2) 27 (.t 79) (.t 78)) [9,8],
 Zw 81 27 80 [10],
 Zz 82 (.call .pure (.f 92) [(.t 77),(.t 81),(.c (.int .i64 3))]) [7,11],
 Zz 83 (.build [(.str []),.nilsl,(.int .i64 0),.nilsl,.nilsl] [(0,1,(.t 76)),(1,4,(.t 82))]) [6,12],
 Zz 84 (.bslice false .dyn 5 1 [(.str []),.nilsl,(.int .i64 0),.nilsl,.nilsl] [(0,5,(.t 83))]) [13],
 Zz 85 (.append .dyn 5 96 (.t 71) (.t 84)) [1,14,12],
 Zf 86 2 3 (Za [] 16),
 Zs 1 86 85 (Za [16,15,15] 16)] [] [8,9,70,71,72,73,74,75,76,77,78,79,80,81,82,83,84,85,86]))))
 (.region [Zz 87 (.bin .add (.t 60) (.c (.int .i64 1))) [],
 Zm 60 87 [0]] [] [87])))))))
 (.seq (.seq (.region [Zf 88 147 1 [],
 Zl 89 88 [0],
 Zv 90 89 [1],
 Zz 91 (.mov (.c (.int .i64 0))) []] [] [4,59,60,88])
 (.block 4 (.loop (.seq (.region [Zb 92 .lss 91 90 []] [] [])
 (.seq (.cond (.t 92)
 .skip
 (.exit 4))
 (.seq (.block 5 (.seq (.region [Zm 93 91 [],
 Zi 94 4 89 91 [],
 Zw 95 4 94 [1],
 Zz 11 (.alloc .dyn (.agg [(.int .u8 0),(.int .u8 0),(.int .u8 0),(.int .u8 0)])) [],
 Zm 10 93 [0,0,1,2,3],
 Zs 4 11 95 (Za [3,2,4] 5)] [] [92,93,94,95])
 (.seq (.seq (.region [Zm 96 10 [],
 Zz 97 (.bin .eql (.t 96) (.c (.int .i64 2))) [0]] [] [96])
 (.cond (.t 97)
 (.exit 4)
 .skip))
 (.seq (.region [Zm 98 10 [],
 Zz 99 (.bin .add (.c (.int .i64 48)) (.t 98)) [0],
 Zz 100 (.conv .i32 (.t 99)) [1],
 Zz 101 (.convS (.t 100)) [2],
 Zz 102 (.bin .add (.c (.str [101])) (.t 101)) [3],
 Zz 103 (.build [(.str []),.nilsl] [(0,1,(.t 102))]) [4],
 Zz 12 (.alloc .dyn (.agg [(.str []),.nilsl])) [],
 Zs 2 12 103 (Za [6,5] 7)] [] [10,97,98,99,100,101,102,103])
 (.seq (.seq (.region [Zf 104 1 3 [],
 Zl 105 104 [0],
 Zv 106 105 [1],
 Zz 107 (.mov (.c (.int .i64 0))) []] [] [104,105])
 (.block 6 (.loop (.seq (.region [Zb 108 .lss 107 106 []] [] [])
 (.seq (.cond (.t 108)
 .skip
 (.exit 6))
 (.seq (.block 7 (.seq (.region [Zm 109 107 [],
 Zm 13 109 [0,0]] [] [108,109])
 (.seq (.region [Zf 110 1 3 [],
 Zl 111 110 [0],
 Zm 112 13 [],
 Zi 113 5 111 112 [1,2],
 Zf 114 1 113 [3],
 Zf 115 1 114 [4],
 Zl 116 115 [5],
 Zm 14 116 (Za [6] 7)] [] [110,111,112,113,114,115,116])
 (.seq (.region [Zm 117 13 [],
 Zz 118 (.iaddr (some 4) 1 (.t 11) (.t 117)) [0],
 Zl 119 118 [1],
 Zz 120 (.conv .i64 (.t 119)) [2],
 Zm 121 14 [],
 Zz 122 (.bin .add (.t 121) (.c (.int .i64 2))) [4],
 Zb 123 .rem 120 122 [3,5],
 Zm 124 14 [],
 Zb 125 .lss 123 124 [6,7]] [] [117,118,119,120,121,122,123,124])
 (.cond (.t 125)
 (.region [Zf 126 1 12 [],
 Zl 127 126 [0],
 Zm 128 13 [],
 Zm 129 13 [],
 Zz 130 (.iaddr (some 4) 1 (.t 11) (.t 129)) [3],
 Zl 131 130 [4],
 Zz 132 (.conv .i64 (.t 131)) [5],
 Zm 133 14 [],
 Zz 134 (.bin .add (.t 133) (.c (.int .i64 2))) [7],
 Zb 135 .rem 132 134 [6,8],
 Zz 136 (.build [(.int .i64 0),(.int .i64 0)] [(0,1,(.t 128)),(1,1,(.t 135))]) [2,9],
 Zz 137 (.bslice false .dyn 2 1 [(.int .i64 0),(.int .i64 0)] [(0,2,(.t 136))]) [10],
 Zz 138 (.append .dyn 2 16 (.t 127) (.t 137)) [1,11],
 Zf 139 1 12 (Za [] 13),
 Zs 1 139 138 (Za [13,12,12] 13)] [] [13,14,125,126,127,128,129,130,131,132,133,134,135,136,137,138,139])
 .skip)))))
 (.region [Zz 140 (.bin .add (.t 107) (.c (.int .i64 1))) [],
 Zm 107 140 [0]] [] [13,14,125,140])))))))
 (.seq (.region [Zf 141 1 12 [],
 Zl 142 141 [0],
 Zv 143 142 [1],
 Zz 144 (.bin .gtr (.t 143) (.c (.int .i64 0))) [2]] [] [11,106,107,141,142,143])
 (.cond (.t 144)
 (.region [Zf 145 3 3 [],
 Zl 146 145 [0],
 Zw 147 2 12 [],
 Zz 148 (.bslice false .dyn 2 1 [(.str []),.nilsl] [(0,2,(.t 147))]) [2],
 Zz 149 (.append .dyn 2 40 (.t 146) (.t 148)) [1,3],
 Zf 150 3 3 (Za [] 5),
 Zs 1 150 149 (Za [5,4,4] 5)] [] [12,144,145,146,147,148,149,150])
 .skip)))))))
 (.region [Zz 151 (.bin .add (.t 91) (.c (.int .i64 1))) [],
 Zm 91 151 [0]] [] [12,144,151])))))))
 (.seq (.region [Zf 152 151 1 [],
 Zl 153 152 [0],
 Zz 154 (.conv .i64 (.t 153)) [1],
 Zz 155 (.bin .rem (.t 154) (.c (.int .i64 8))) [2],
 Zz 156 (.build [(.str []),.nilsl,(.int .i64 0)] [(0,1,(.c (.str [107]))),(2,1,(.t 155))]) [3],
 Zz 15 (.alloc .dyn (.agg [(.str []),.nilsl,(.int .i64 0)])) [],
 Zs 3 15 156 (Za [5,4] 6)] [] [89,90,91,152,153,154,155,156])
 (.seq (.seq (.region [Zm 157 5 [],
 Zz 158 (.mov (.c (.int .i64 0))) []] [] [5])
 (.block 8 (.loop (.seq (.region [Zb 159 .lss 158 157 []] [] [])
 (.seq (.cond (.t 159)
 .skip
 (.exit 8))
 (.seq (.block 9 (.seq (.region [Zm 160 158 [],
 Zm 16 160 [0,0]] [] [159,160])
 (.seq (.region [Zm 161 16 [],
 Zf 162 148 1 [],
 Zz 163 (.iaddr (some 3) 1 (.t 162) (.t 161)) [1,0],
 Zl 164 163 [2],
 Zz 165 (.bin .neq (.t 164) (.c (.int .i8 0))) [3]] [] [161,162,163,164])
 (.cond (.t 165)
 (.region [Zf 166 1 15 [],
 Zl 167 166 [0],
 Zm 168 16 [],
 Zm 169 16 [],
 Zf 170 148 1 [],
 Zz 171 (.iaddr (some 3) 1 (.t 170) (.t 169)) [4,3],
 Zl 172 171 [5],
 Zz 173 (.conv .i64 (.t 172)) [6],
 Zz 174 (.bin .rem (.t 173) (.c (.int .i64 4))) [7],
 Zz 175 (.build [(.int .i64 0),(.int .i64 0)] [(0,1,(.t 168)),(1,1,(.t 174))]) [2,8],
 Zz 176 (.bslice false .dyn 2 1 [(.int .i64 0),(.int .i64 0)] [(0,2,(.t 175))]) [9],
 Zz 177 (.append .dyn 2 16 (.t 167) (.t 176)) [1,10],
 Zf 178 1 15 (Za [] 12),
 Zs 1 178 177 (Za [12,11,11] 12)] [] [16,165,166,167,168,169,170,171,172,173,174,175,176,177,178])
 .skip))))
 (.region [Zz 179 (.bin .add (.t 158) (.c (.int .i64 1))) [],
 Zm 158 179 [0]] [] [16,165,179])))))))
 (.seq (.region [Zf 180 1 15 [],
 Zl 181 180 [0],
 Zz 182 (.call .heap (.f 96) [(.t 181),(.f 97)]) [1],
 Zf 183 1 15 [0,1,2],
 Zs 1 183 182 [3,2,2,0,1,2]] [] [1,157,158,180,181,182,183])
 (.seq (.seq (.region [Zf 184 1 15 [],
 Zl 185 184 [0],
 Zv 186 185 [1],
 Zz 187 (.bin .gtr (.t 186) (.c (.int .i64 0))) [2]] [] [184,185,186])
 (.cond (.t 187)
 (.region [Zw 188 3 15 [],
 Zz 189 (.bslice false .dyn 3 1 [(.str []),.nilsl,(.int .i64 0)] [(0,3,(.t 188))]) [0],
 Zf 190 4 3 [0,1],
 Zs 1 190 189 [2,1,0,1]] [] [15,187,188,189,190])
 .skip))
 (.seq (.region [Zw 191 5 3 [],
 Zs 5 2 191 [0,0]] [] [3,15,187,191])
 .ret))))))))))))⟩
def s93:SFn:=by
 refine(?f:YA.Yt Tryz.prog cf 93 [[4],[8,9,10],[11],[0,1,5,12,13],[4,12,14,15],[16,17,18],[19,22,23,24,25],[26,27,28],[7,29,30,31,32,33],[34,35],[7,29,20,21],[1,6,36,37,38],[0,5,39,40,41]]) ?s ?h
 case h=>exact YA.rr
 exact fun s _=>s
def s92:SFn:=by
 refine(?f:YA.Yt Tryz.prog cf 92 [[1],[2,7,8,9,10,11,12],[0,4,13,14,15]]) ?s ?h
 case h=>exact YA.rr
 exact fun s _=>s
def s94:SFn:=by
 refine(?f:YA.Yt Tryz.prog cf 94 [[3],[0,1,4,5,6,7]]) ?s ?h
 case h=>exact YA.rr
 exact fun s _=>s
def s96:SFn:=by
 refine(?f:YA.Yt Tryz.prog cf 96 [[4],[8,9,10],[11],[0,1,5,12,13],[4,12,14,15],[16,17,18],[19,22,23,24,25],[26,27,28],[7,29,30,31,32,33],[34,35],[7,29,20,21],[1,6,36,37,38],[0,5,39,40,41]]) ?s ?h
 case h=>exact YA.rr
 exact fun s _=>s
def s97:SFn:=by
 refine(?f:YA.Yt Tryz.prog cf 97 [[0,2],[1,3,4,5]]) ?s ?h
 case h=>exact YA.rr
 exact fun s _=>s
def s151:SFn:=by
 refine(?f:YA.Yt Tryz.prog cf 151 [[4],[6],[],[9,10],[11,12,13,14,15],[0,1,7,8,5,16,17],[4,5,16,18],[0,1,7,8]]) ?s ?h
 case h=>exact YA.rr
 exact fun s _=>s
def s153:SFn:=by
 refine(?f:YA.Yt Tryz.prog cf 153 [[4],[6],[],[9,10],[11,12,13,14,15],[0,1,7,8,5,16,17],[4,5,16,18],[0,1,7,8]]) ?s ?h
 case h=>exact YA.rr
 exact fun s _=>s
theorem ok42:okFn Tryz.prog 42 s42=true:=by kernel_rfl
theorem ok93:okFn Tryz.prog 93 s93=true:=by kernel_rfl
theorem ok92:okFn Tryz.prog 92 s92=true:=by kernel_rfl
theorem ok94:okFn Tryz.prog 94 s94=true:=by kernel_rfl
theorem ok96:okFn Tryz.prog 96 s96=true:=by kernel_rfl
theorem ok97:okFn Tryz.prog 97 s97=true:=by kernel_rfl
theorem ok151:okFn Tryz.prog 151 s151=true:=by kernel_rfl
theorem ok153:okFn Tryz.prog 153 s153=true:=by kernel_rfl
end
end Go.AM.SU
namespace Go.AM.SE
open Go.Proofs Go.AM.SD
abbrev backF (es:List Ed):Nat->AV:=fun k=>sliN (preds es k)
end Go.AM.SE
