/- A part of the proof of GuardsChecksCardSaid: lemmas on the way (AnBx, AnBa, AnBb, AnBc, AnRa, AnUx, AnUa, AnCza, AnCs, AmTg, AnBd, AnBe, AnBf, AnBg, AmTh, AmTj, AmTk, AnCt, AnCx, AnBi, AnBj, AnBl, AnBm, AnBn, AnBo, AnCa, AnCb, AnFa, AnBFb, AnBw, AnBFd, AnBy, AnBFe, AnCc, AnCe, AnCf, AmTi, AnCg, AnCh, AnCm, AnCu, AnCi, AnCk, AnCl, AnCn, AnCv). Conditions: none of ours. -/
import Derived.Test.YtikknocmfjfohaaGreatDoorProg
import Derived.KernelRfl
import Derived.Test.YtikknocmfjfohaaGreatDoorAmG9
set_option linter.unusedSectionVars false
set_option maxHeartbeats 32000000
set_option maxRecDepth 100000
set_option linter.unusedVariables false
set_option linter.unusedSimpArgs false
namespace Go.AM.SE
open Go.Proofs
set_option maxHeartbeats 4000000
noncomputable section
def cf:YA.Cf:={most:= .pure,always:=[86,118,119,120,122,123,233,176,177,178,225,226,227,228,229,230,231,232,249].map fun k=>(k,.heap),value:= .pure,eqn:=false}
def s83:SFn:=by
 refine(?f:YA.Yt Tryz.prog cf 83 [[4],[6,7,8,9],[0,1,10],[4,10,11],[],[14,15],[5,16,17,18,19,20,21,22,23],[0,1,12,13,24],[4,24,25],[0,1,12,13]]) ?s ?h
 case h=>exact YA.rr
 exact fun s _=>s
def s64:SFn:=by
 refine(?f:YA.Yt Tryz.prog cf 64 [[0,1,4],[2,3,5,6,7,8,9,10,11,12,13,14,15,16,17,18,19,20,21,22,23,24,25,26,27,28,29,30]]) ?s ?h
 case h=>exact YA.rr
 exact fun s _=>s
def s95:SFn:=by
 refine(?f:YA.Yt Tryz.prog cf 95 [[4],[0,1,5,6,7,8]]) ?s ?h
 case h=>exact YA.rr
 exact fun s _=>s
def s86:SFn:=by
 refine(?f:YA.Yt Tryz.prog cf 86 [[2],[3],[0,4],[0,4,5,6,7]]) ?s ?h
 case h=>exact YA.rr
 exact fun s _=>s
def s59:SFn:=by
 refine(?f:YA.Yt Tryz.prog cf 59 [[0,6],[],[8,9,10,11],[12,15,16,17,18,19,20,21,22,23],[1,2,3,7,31,29,30,28,27,25,26,24,32,33,34,35,36,37,38],[6,32,13,14],[1,2,3,7,31,29,30,28,27,25,26,24]]) ?s ?h
 case h=>exact YA.rr
 exact fun s _=>s
def s22:SFn:=by
 refine(?f:YA.Yt Tryz.prog cf 22 [[4],[6,7,8,9],[0,1,10],[4,10],[11,12,13],[14,17,18,19,20,21,22,23,24],[0,1,5,25],[4,25,15,16],[0,1,5]]) ?s ?h
 case h=>exact YA.rr
 exact fun s _=>s
def s90:SFn:=by
 refine(?f:YA.Yt Tryz.prog cf 90 [[2],[],[],[5],[6,9,10,11,12],[13,14,15,16,17],[13,7,8],[0,3,4,18]]) ?s ?h
 case h=>exact YA.rr
 exact fun s _=>s
def s129:SFn:=by
 refine(?f:YA.Yt Tryz.prog cf 129 [[4],[6,7,8,9],[0,1,10],[4,10,11],[],[14,15],[5,16,17,18,19,20,21,22,23],[0,1,12,13,24],[4,24,25],[0,1,12,13]]) ?s ?h
 case h=>exact YA.rr
 exact fun s _=>s
def s152:SFn:=by
 refine(?f:YA.Yt Tryz.prog cf 152 [[4],[6],[],[9,10],[11,12,13,14,15],[0,1,7,8,5,16,17],[4,5,16,18],[0,1,7,8]]) ?s ?h
 case h=>exact YA.rr
 exact fun s _=>s
def s66:SFn:=by
 refine(?f:YA.Yt Tryz.prog cf 66 [[0,2],[5,6,7],[8],[1,3,9,10],[2,3,9,12,13,14],[1,11],[11,16,17,18],[1,15],[2,15,19,20,21,22,23],[24],[1,4,25,26],[1,4,25,27,28]]) ?s ?h
 case h=>exact YA.rr
 exact fun s _=>s
def s254:SFn:=by
 refine(?f:YA.Yt Tryz.prog cf 254 [[4,5],[10,11],[12],[13,14],[15,16,17,18,19,20,21],[22,23,24,25,26],[9,27,28,29],[9,27,30],[0,1,6,7,8,52,42,51,48,50,49,47,46,45,43,44,41,39,40,38,36,37,31,32,33,34,35,53]]) ?s ?h
 case h=>exact YA.rr
 exact fun s _=>s
def s251:SFn:=by
 refine(?f:YA.Yt Tryz.prog cf 251 [[0],[12,13,14,15],[16,17],[1,3,18,19],[18,20,21,22],[23],[],[26,27],[5,28,29,30],[31],[24,25,32,33],[34],[],[35,36,37],[38,42,43,44,45,46,47,48,41,49,50,8],[9],[51,52,53,54,55,56,57],[51,58,59,60,61,62],[],[66,67,68],[69,70,71,72,73],[74,75,76,77,78,79,80],[81,82,83,84,85],[11,74,86,87,88,89,90,91,92,93,94,95,96,97,98,99],[100],[63,64,65,39,40],[1,4,6,7,101,102,103],[3,104]]) ?s ?h
 case h=>exact YA.rr
 exact fun s _=>s
def s150:SFn:=by
 refine(?f:YA.Yt Tryz.prog cf 150 [[1],[9,10],[0,3,11,12,13],[11,14,15],[16,17,18,19,20,21],[],[22,23,24],[25,28,29,30,31,32],[33,34,35,36,37,38,39],[33],[40,41,42,43,44],[47,50,51,52,53,54,55,56,57,58,59,60],[61,62,63],[8,64,65,66,67,68,69,70,71,72,73,74,75,76],[8,64,48,49],[7,26,27],[0,3,5,6,46,45,77,78]]) ?s ?h
 case h=>exact YA.rr
 exact fun s _=>s
def s132:SFn:=by
 refine(?f:YA.Yt Tryz.prog cf 132 [[4],[],[],[10,11,12,13],[15,16,17,21],[0,1,7,8,9,32,26,31,30,27,29,28,20,18,19,5,6,14],[5,6,14,23,24,25,33],[0,1,7,8,9,32,26,31,30,27,29,28,20,18,19,22],[4,22,34],[0,1,7,8,9,32,26,31,30,27,29,28,20,18,19]]) ?s ?h
 case h=>exact YA.rr
 exact fun s _=>s
def s133:SFn:=by
 refine(?f:YA.Yt Tryz.prog cf 133 [[0,2],[6],[],[10,11,12,13],[15,16,17,18,24,25,29,30,36],[1,7,8,9,69,63,68,65,67,66,64,62,59,61,60,58,35,32,34,33,31,28,27,26,23,20,22,21,19,4,3,14],[14,38,39,40,41,42,43],[1,7,8,9,69,63,68,65,67,66,64,62,59,61,60,58,35,32,34,33,31,28,27,26,23,20,22,21,19,4,3,37],[2,37,44],[3,45,46,47,48,49,50,51],[4,5,52,53,54,55,56,57],[1,7,8,9,69,63,68,65,67,66,64,62,59,61,60,58,35,32,34,33,31,28,27,26,23,20,22,21,19,70],[2,70,71],[1,7,8,9,69,63,68,65,67,66,64,62,59,61,60,58,35,32,34,33,31,28,27,26,23,20,22,21,19]]) ?s ?h
 case h=>exact YA.rr
 exact fun s _=>s
def s245:SFn:=by
 refine(?f:YA.Yt Tryz.prog cf 245 [[4],[0,1,5,6,7,8,9,10,11,12,13,14,15,16]]) ?s ?h
 case h=>exact YA.rr
 exact fun s _=>s
def s278:SFn:=by
 refine(?f:YA.Yt Tryz.prog cf 278 [[2],[0,3,4,5]]) ?s ?h
 case h=>exact YA.rr
 exact fun s _=>s
def s223:SFn:=by
 refine(?f:YA.Yt Tryz.prog cf 223 [[0,4],[10,11,12,13,9,14,15,6],[1,17,18,19,20,21,16,22,23,8],[2,5,7,24,25,26,27,28]]) ?s ?h
 case h=>exact YA.rr
 exact fun s _=>s
def s189:SFn:=by
 refine(?f:YA.Yt Tryz.prog cf 189 [[],[0,3,4,5,6]]) ?s ?h
 case h=>exact YA.rr
 exact fun s _=>s
def s190:SFn:=by
 refine(?f:YA.Yt Tryz.prog cf 190 [[0],[8,9],[10,11,12],[13,14,15],[],[16,17,18],[19,22,23,24,25,26,27],[28,29,30,31,32,33,34],[28],[35,36,37,38],[39,42,43,44,45,46,47,48,49,50,51,52],[53],[7,54,55,56,57,58,59,60,61,62,63,64,65,66,67,68,69],[7,54,40,41],[6,20,21],[1,3,4,5,70]]) ?s ?h
 case h=>exact YA.rr
 exact fun s _=>s
def s276:SFn:=by
 refine(?f:YA.Yt Tryz.prog cf 276 [[2],[0,3,4,5]]) ?s ?h
 case h=>exact YA.rr
 exact fun s _=>s
def s265:SFn:=by
 refine(?f:YA.Yt Tryz.prog cf 265 [[6,7],[12,13],[14],[15,16],[17,18,19,20,21,22,23],[24,25,26,27,28,29,30],[11,31,32,33],[11,31,34],[0,1,2,8,9,10,47,46,40,44,45,43,41,42,35,36,37,38,39,48]]) ?s ?h
 case h=>exact YA.rr
 exact fun s _=>s
def s266:SFn:=by
 refine(?f:YA.Yt Tryz.prog cf 266 [[0,4],[1,2,5,6,7,8]]) ?s ?h
 case h=>exact YA.rr
 exact fun s _=>s
def s267:SFn:=by
 refine(?f:YA.Yt Tryz.prog cf 267 [[0,4],[1,2,5,6,7,8]]) ?s ?h
 case h=>exact YA.rr
 exact fun s _=>s
def s248:SFn:=by
 refine(?f:YA.Yt Tryz.prog cf 248 [[0,2],[],[7,8],[9,10,11,12],[9],[13,14,15],[16],[19,20,21,22],[23,26,27,28,29,30,31,32,33,34,35,36],[37,38,39],[6,44,45,46,47,48],[6,44,24,25],[5,17,18],[1,3,4,43,42,40,41,49]]) ?s ?h
 case h=>exact YA.rr
 exact fun s _=>s
def s249:SFn:=by
 refine(?f:YA.Yt Tryz.prog cf 249 [[4],[],[6,7,8],[9,12,13,14,15,16],[0,1,5,17],[4,17,10,11],[0,1,5]]) ?s ?h
 case h=>exact YA.rr
 exact fun s _=>s
def s250:SFn:=by
 refine(?f:YA.Yt Tryz.prog cf 250 [[4],[],[6,7,8],[9,12,13,14,15,16],[0,1,5,17,18],[4,17,10,11],[0,1,5]]) ?s ?h
 case h=>exact YA.rr
 exact fun s _=>s
theorem ok83:okFn Tryz.prog 83 s83=true:=by kernel_rfl
theorem ok64:okFn Tryz.prog 64 s64=true:=by kernel_rfl
theorem ok95:okFn Tryz.prog 95 s95=true:=by kernel_rfl
theorem ok86:okFn Tryz.prog 86 s86=true:=by kernel_rfl
theorem ok59:okFn Tryz.prog 59 s59=true:=by kernel_rfl
theorem ok22:okFn Tryz.prog 22 s22=true:=by kernel_rfl
theorem ok90:okFn Tryz.prog 90 s90=true:=by kernel_rfl
theorem ok129:okFn Tryz.prog 129 s129=true:=by kernel_rfl
theorem ok152:okFn Tryz.prog 152 s152=true:=by kernel_rfl
theorem ok66:okFn Tryz.prog 66 s66=true:=by kernel_rfl
theorem ok254:okFn Tryz.prog 254 s254=true:=by kernel_rfl
theorem ok251:okFn Tryz.prog 251 s251=true:=by kernel_rfl
theorem ok150:okFn Tryz.prog 150 s150=true:=by kernel_rfl
theorem ok132:okFn Tryz.prog 132 s132=true:=by kernel_rfl
theorem ok133:okFn Tryz.prog 133 s133=true:=by kernel_rfl
theorem ok245:okFn Tryz.prog 245 s245=true:=by kernel_rfl
theorem ok278:okFn Tryz.prog 278 s278=true:=by kernel_rfl
theorem ok223:okFn Tryz.prog 223 s223=true:=by kernel_rfl
theorem ok189:okFn Tryz.prog 189 s189=true:=by kernel_rfl
theorem ok190:okFn Tryz.prog 190 s190=true:=by kernel_rfl
theorem ok276:okFn Tryz.prog 276 s276=true:=by kernel_rfl
theorem ok265:okFn Tryz.prog 265 s265=true:=by kernel_rfl
theorem ok266:okFn Tryz.prog 266 s266=true:=by kernel_rfl
theorem ok267:okFn Tryz.prog 267 s267=true:=by kernel_rfl
theorem ok248:okFn Tryz.prog 248 s248=true:=by kernel_rfl
theorem ok249:okFn Tryz.prog 249 s249=true:=by kernel_rfl
theorem ok250:okFn Tryz.prog 250 s250=true:=by kernel_rfl
end
end Go.AM.SE
namespace Go.AM.SE
open Go.Proofs Go.AM.SD
theorem PSpec.weak {P:Program} {f:Nat} {args bs:List AV} {v:AV} (hL:∀(ok:Okc) (c:Ctx ok) (w:World) (vs:List Value),HRel c .e w->VRels c w args vs->VRels c w bs vs) (hn:noRefs args=true) (hp:PSpec P f bs v):PSpec P f args v:=by
 obtain⟨n1,n2,h',hc,hs⟩:=hp
 exact⟨hn,n2,h',hc,fun c w cargs H ha=>hs c w cargs H (hL _ c w _ H ha)⟩
theorem _root_.Go.AM.au0 {p:Prop} (h:p:=by repeat (first|exact RO.zero|exact RO.e|refine RO.set rfl ?_)):p:=h
theorem _root_.Go.AM.au1 {p:Prop} (h:p:=by repeat' (first|exact RB.nil|(refine RnL.same ?_;first|rfl|(simp only[noRef,noRefs,Qaf,Bool.and_self,Bool.and_true,Bool.true_and,Qaa,Qaj,Qah,Qak,Qai,Qan,Qab,Qa9,QaM];done))|exact RnM.keyM rfl|exact RnL.nil|exact(True.intro:RnM _ _ _ [] [])|refine RnL.cons ?_ ?_|(refine Rn.same ?_;first|rfl|(simp only[noRef,noRefs,Qaf,Bool.and_self,Bool.and_true,Bool.true_and,Qaa,Qaj,Qah,Qak,Qai,Qan,Qab,Qa9,QaM];done))|exact Rn.x1 rfl rfl|exact Rn.x2 rfl rfl|exact Rn.x3 rfl rfl|exact Rn.x4 rfl rfl|exact Rn.x5 rfl|exact Rn.x6 rfl|exact Rn.x7 rfl|refine RB.newnil rfl rfl ?_|refine RB.cells rfl rfl rfl ?_ ?_|refine RB.map rfl rfl rfl ?_ ?_|refine RB.cellsB rfl rfl ?_ ?_|refine RB.mapB rfl rfl ?_ ?_)):p:=h
theorem _root_.Go.AM.au2 {p:Prop} (h:p:=by repeat (first|exact RT.nil|(refine RT.cons ?_ ?_; · (first|exact Rn.any|exact Rn.x1 rfl rfl|exact Rn.x2 rfl rfl|exact Rn.x3 rfl rfl|exact Rn.x4 rfl rfl|exact Rn.x5 rfl|exact Rn.x6 rfl|exact Rn.x7 rfl|(refine Rn.slot ?_ ?_;(first|rfl|(rw[Int.natCast_add];rfl));(first|rfl|(simp only[noRef,noRefs,Qaf,Bool.and_self,Bool.and_true,Bool.true_and,Qaa,Qaj,Qah,Qak,Qai,Qan,Qab,Qa9,QaM];done)))|(refine Rn.fn ?_ ?_<;>(repeat' (first|exact RnL.nil|refine RnL.cons ?_ ?_|exact Rn.same rfl|exact Rn.x6 rfl|exact Rn.x2 rfl rfl|exact Rn.x5 rfl|exact Rn.x1 rfl rfl))))))):p:=h
theorem has36 (l:List Int) (n:Int) (hl:l.length<=140737488355328):PSpec Tryz.prog 249 [sli l,.int .i64 n] (.bool (decide (n∈l))):=by
  refine PSpec.Qag 64 ok249 rfl (by(try simp only[noRefs,Qaa,Qaj,Qah,Qak,Qai,noRef,Bool.and_self,Bool.and_true])<;>rfl) rfl ?_
  simp(disch:=first|omega|(simp only[lenW]<;>omega)) only[s249,wV,simprocAttr]
  refine Qal 100 (fun i:Nat=>[(0,sli l),(1,.int .i64 n),(5,.int .i64 i)]) (fun _=>[]) (fun i=>i<=l.length/\∀(j:Nat) y,j<i->l[j]?=some y->y≠n) (fun i=>l.length-i) 0 ⟨[],rfl,au0,au1,au2⟩ ⟨Nat.zero_le _,fun j y hj=>absurd hj (Nat.not_lt_zero _)⟩ ?_
  rintro i ⟨hi,hb⟩
  by_cases hlt:i<l.length
  · obtain ⟨x, hx⟩ := Qad hlt
    by_cases h0:x=n
    · simp (disch := first | omega | (simp only [lenW] <;> omega)) only [hlt, Qae hx, h0, wV, simprocAttr]
      refine⟨.inr trivial,_,rfl,?_⟩
      have:n∈l:=h0▸List.mem_of_getElem? hx
      simp[resOf,QaG,this]
    · simp (disch := first | omega | (simp only [lenW] <;> omega)) only [hlt, Qae hx, h0, wV, simprocAttr]
      refine⟨i+1,by omega,⟨by omega,fun j y hj hy=>?_⟩,⟨[],rfl,au0,au1,au2⟩⟩
      by_cases e:j=i
      · subst e;rw[hx]at hy;cases hy;exact h0
      · exact hb j y (by omega) hy
  · have : n ∉ l := fun h => by
      obtain⟨j,hj,hjl⟩:=QdU h
      exact hb j n (by omega) hj rfl
    simp(disch:=first|omega|(simp only[lenW]<;>omega)) only[hlt,wV,simprocAttr]
    exact⟨.inr trivial,_,rfl,by simp[resOf,QaG,this]⟩
theorem sameInts (a b : List Int) (hl : a.length <= 140737488355328) : PSpec Tryz.prog 22 [sli a, sli b] (.bool (decide (a = b))) := by
  refine PSpec.Qag 64 ok22 rfl (by(try simp only[noRefs,Qaa,Qaj,Qah,Qak,Qai,noRef,Bool.and_self,Bool.and_true])<;>rfl) rfl ?_
  by_cases hab:a.length=b.length
  · simp (disch := first | omega | (simp only [lenW] <;> omega)) only [s22, hab, wV, simprocAttr]
    refine Qal 100 (fun i:Nat=>[(0,sli a),(1,sli b),(5,.int .i64 i)]) (fun _=>[]) (fun i=>i<=a.length/\∀j,j<i->a[j]?=b[j]?) (fun i=>a.length-i) 0 ⟨[],rfl,au0,au1,au2⟩ ⟨Nat.zero_le _,fun j hj=>absurd hj (Nat.not_lt_zero _)⟩ ?_
    rintro i ⟨hi,hb⟩
    by_cases hlt:i<a.length
    · obtain ⟨x, hx⟩ := Qad hlt
      obtain⟨y,hy⟩:=Qad (l:=b) (i:=i) (by omega)
      have hlt2:i<b.length:=by omega
      by_cases h0:x=y
      · simp (disch := first | omega | (simp only [lenW] <;> omega)) only [hlt, hlt2, Qae hx, Qae hy, h0, wV, simprocAttr]
        refine⟨i+1,by omega,⟨by omega,fun j hj=>?_⟩,⟨[],rfl,au0,au1,au2⟩⟩
        by_cases e:j=i
        · subst e;rw[hx,hy,h0]
        · exact hb j (by omega)
      · simp (disch := first | omega | (simp only [lenW] <;> omega)) only [hlt, hlt2, Qae hx, Qae hy, h0, wV, simprocAttr]
        refine⟨.inr trivial,_,rfl,?_⟩
        have:a≠b:=fun e=>by subst e;rw[hx]at hy;cases hy;exact h0 rfl
        simp[resOf,QaG,this]
    · have : a = b := List.ext_getElem? fun j => by
        by_cases hj:j<i
        · exact hb j hj
        · rw[List.getElem?_eq_none (by omega),List.getElem?_eq_none (by omega)]
      simp(disch:=first|omega|(simp only[lenW]<;>omega)) only[hlt,wV,simprocAttr]
      exact⟨.inr trivial,_,rfl,by simp[resOf,QaG,this]⟩
  · simp (disch := first | omega | (simp only [lenW] <;> omega)) only [s22, hab, wV, simprocAttr]
    have:a≠b:=fun e=>hab (by rw[e])
    exact⟨.inr trivial,_,rfl,by simp[resOf,QaG,this]⟩
def indexR (l:List Int) (n:Int):Int:=if n∈l then(l.findIdx (· ==n):Int)else-1
theorem index70 (l : List Int) (n : Int) (hl : l.length <= 140737488355328) : PSpec Tryz.prog 152 [sli l, .int .i64 n] (.int .i64 (indexR l n)) := by
  refine PSpec.Qag 64 ok152 rfl (by(try simp only[noRefs,Qaa,Qaj,Qah,Qak,Qai,noRef,Bool.and_self,Bool.and_true])<;>rfl) rfl ?_
  simp(disch:=first|omega|(simp only[lenW]<;>omega)) only[s152,wV,simprocAttr]
  refine Qal 100 (fun i:Nat=>[(0,sli l),(1,.int .i64 n),(7,.int .i64 l.length),(8,.int .i64 i)]) (fun _=>[]) (fun i=>i<=l.length/\∀(j:Nat) y,j<i->l[j]?=some y->y≠n) (fun i=>l.length-i) 0 ⟨[],rfl,au0,au1,au2⟩ ⟨Nat.zero_le _,fun j y hj=>absurd hj (Nat.not_lt_zero _)⟩ ?_
  rintro i ⟨hi,hb⟩
  by_cases hlt:i<l.length
  · obtain ⟨x, hx⟩ := Qad hlt
    by_cases h0:n=x
    · simp (disch := first | omega | (simp only [lenW] <;> omega)) only [hlt, Qae hx, h0, wV, simprocAttr]
      refine⟨.inr trivial,_,rfl,?_⟩
      have h1:n∈l:=h0▸List.mem_of_getElem? hx
      have h2:l.findIdx (· ==n)=i:=by
        rw[List.findIdx_eq hlt]
        refine⟨by rw[List.getElem?_eq_getElem hlt]at hx;cases hx;simp[h0],fun j hj=>?_⟩
        have:=hb j l[j] hj (List.getElem?_eq_getElem (by omega))
        simpa using this
      subst h0
      simp only[indexR,if_pos h1,h2];rfl
    · simp (disch := first | omega | (simp only [lenW] <;> omega)) only [hlt, Qae hx, h0, wV, simprocAttr]
      refine⟨i+1,by omega,⟨by omega,fun j y hj hy=>?_⟩,⟨[],rfl,au0,au1,au2⟩⟩
      by_cases e:j=i
      · subst e;rw[hx]at hy;cases hy;exact fun e=>h0 e.symm
      · exact hb j y (by omega) hy
  · have : n ∉ l := fun h => by
      obtain⟨j,hj,hjl⟩:=QdU h
      exact hb j n (by omega) hj rfl
    simp(disch:=first|omega|(simp only[lenW]<;>omega)) only[hlt,wV,simprocAttr]
    exact⟨.inr trivial,_,rfl,by simp only[indexR,if_neg this];rfl⟩
theorem contains62 (l:List Int) (n:Int) (hl:l.length<=140737488355328):PSpec Tryz.prog 95 [sli l,.int .i64 n] (.bool (decide (n∈l))):=by
  refine PSpec.Qag 64 ok95 rfl (by(try simp only[noRefs,Qaa,Qaj,Qah,Qak,Qai,noRef,Bool.and_self,Bool.and_true])<;>rfl) rfl ?_
  simp(disch:=first|omega|(simp only[lenW]<;>omega)) only[s95,wV,simprocAttr]
  refine cp (index70 l n hl) ?_
  have e:decide (0<=indexR l n)=decide (n∈l):=by
    unfold indexR
    by_cases h:n∈l
    · rw[if_pos h];simp[h]
    · rw[if_neg h];simp[h]
  by_cases h:n∈l
  · have e2 : 0 <= indexR l n := by rw [decide_eq_decide] at e; exact e.2 h
    simp(disch:=first|omega|(simp only[lenW]<;>omega)) only[e2,wV,simprocAttr]
    exact⟨.inr trivial,_,rfl,by simp[resOf,QaG,h]⟩
  · have e2 : ¬ 0 <= indexR l n := by rw [decide_eq_decide] at e; exact fun h2 => h (e.1 h2)
    simp(disch:=first|omega|(simp only[lenW]<;>omega)) only[e2,wV,simprocAttr]
    exact⟨.inr trivial,_,rfl,by simp[resOf,QaG,h]⟩
end Go.AM.SE
namespace Go.AM.SE
open Go.Proofs Go.AM.SD
theorem Qcf {k:IntKind} {a i:Nat} (hi:i<=k.bits):aBin .shr (.int k (a:Int)) (.int .i64 (i:Int))=some (.int k ((a/2^i:Nat):Int)):=by
 have h1:¬(i:Int)<0:=by omega
 simp only[aBin,if_neg h1]
 have h2:min (i:Int).toNat k.bits=i:=by simp;omega
 rw[h2]
 have:(2:Int)^i=((2^i:Nat):Int):=by norm_cast
 rw[this,Int.fdiv_eq_ediv_of_nonneg _ (Int.natCast_nonneg _)]
 norm_cast
theorem and1 (n a:Nat) (hn:0<n):(BitVec.ofInt n (a:Int)&&&BitVec.ofInt n 1).toNat=a % 2:=by
 rw[BitVec.toNat_and,BitVec.toNat_ofInt,BitVec.toNat_ofInt]
 have h1:((a:Int) % ((2^n:Nat):Int)).toNat=a % 2^n:=by norm_cast
 have h2:((1:Int) % ((2^n:Nat):Int)).toNat=1:=by
  have:1 % 2^n=1:=Nat.mod_eq_of_lt (Nat.one_lt_two_pow (by omega))
  have h3:((1:Int) % ((2^n:Nat):Int))=((1 % 2^n:Nat):Int):=by norm_cast
  rw[h3,this];rfl
 rw[h1,h2,Nat.and_one_is_mod,Nat.mod_mod_of_dvd _ ⟨2^(n-1),by rw[<-Nat.pow_succ'];congr 1;omega⟩]
theorem Qcg {a:Nat}:aBin .and (.int .u8 (a:Int)) (.int .u8 1)=some (.int .u8 ((a % 2:Nat):Int)):=by
 simp only[aBin,if_true]
 rw[show IntKind.u8.bits=8 from rfl,and1 8 a (by omega),wr_u8 (by omega) (by omega)]
theorem Qc7 {s i:Nat}:(((s/2^i % 2:Nat):Int)=1)↔s.testBit i=true:=by
 rw[Nat.testBit_eq_decide_div_mod_eq,decide_eq_true_eq];omega
theorem QcT {n b i:Nat}:SD.part (i+1) b=SD.part i b++if b.testBit i=true then[i]else[]:=by
 unfold SD.part
 rw[List.range_succ,List.filter_append]
 congr 1
 by_cases h:b.testBit i=true<;>simp[h]
theorem QcE {i b:Nat}:(SD.part i b).length<=i:=by
 unfold SD.part
 exact Nat.le_trans (List.length_filter_le _ _) (by simp)
theorem events16 (s:Nat) (hs:s<256):PSpec Tryz.prog 90 [.int .u8 s] (sliN (SD.part 5 s)):=by
  refine PSpec.of_rn 64 ok90 rfl (by(try simp only[noRefs,Qaa,Qaj,Qah,Qak,Qai,noRef,Bool.and_self,Bool.and_true])<;>rfl) (Qab _) ?_
  simp(disch:=first|omega|(simp only[lenW]<;>omega)) only[s90,wV,simprocAttr]
  refine Qal 100 (fun i:Nat=>[(0,.int .u8 s),(3,.sl 50 0 0 (SD.part i s).length 1),(4,.int .i64 i)]) (fun i=>[(50,.cells 0 (ints (nz (SD.part i s))))]) (fun i=>i<=5) (fun i=>5-i) 0 ⟨[(50,.nil)],rfl,au0,au1,au2⟩ (Nat.zero_le _) ?_
  rintro i hi
  have hpl:=@QcE i s
  by_cases hlt:i<5
  · have hlt2 : (i : Int) < 5 := by omega
    by_cases h0:s.testBit i=true
    · have hb := Qc7.2 h0
      have hp:=QcT (n:=5) (b:=s) (i:=i)
      rw[if_pos h0]at hp
      simp(disch:=first|omega|(simp only[lenW]<;>omega)) only[hlt2,Qcf (k:= .u8) (show i<=8 by omega),Qcg,hb,wV,simprocAttr]
      refine⟨i+1,by omega,by omega,?_⟩
      rw[hp,QaK,QaD,List.length_append]
      exact⟨[(50,.blk 50 1)],rfl,au0,au1,au2⟩
    · have hb : ¬ ((s / 2 ^ i % 2 : Nat) : Int) = 1 := fun e => h0 (Qc7.1 e)
      have hp:=QcT (n:=5) (b:=s) (i:=i)
      rw[if_neg h0,List.append_nil]at hp
      simp(disch:=first|omega|(simp only[lenW]<;>omega)) only[hlt2,Qcf (k:= .u8) (show i<=8 by omega),Qcg,hb,wV,simprocAttr]
      refine⟨i+1,by omega,by omega,?_⟩
      rw[hp]
      exact⟨[(50,.blk 50 0)],rfl,au0,au1,au2⟩
  · have hlt2 : ¬ (i : Int) < 5 := by omega
    have e:i=5:=by omega
    subst e
    simp(disch:=first|omega|(simp only[lenW]<;>omega)) only[hlt2,wV,simprocAttr]
    refine⟨.inr trivial,_,rfl,?_⟩
    exact Rn.fz0 rfl (by simp[ints]) (RnL.same (Qaa _))
def SetOk (l:List Int) (n:Int):Prop:=(∀x∈l,0<=x/\x<n)/\l.Pairwise (· < ·)
theorem SetOk.up {l:List Int} {n:Int} (h:SetOk l n) {i:Nat} {x y:Int} (hx:l[i]?=some x) (hy:l[i+1]?=some y):x<y:=by
 obtain⟨h1,e1⟩:=List.getElem?_eq_some_iff.1 hx
 obtain⟨h2,e2⟩:=List.getElem?_eq_some_iff.1 hy
 have:=List.pairwise_iff_getElem.1 h.2 i (i+1) h1 h2 (by omega)
 rw[e1,e2]at this;exact this
theorem SetOk.nz {l:List Nat} {n:Nat} (h1:∀x∈l,x<n) (h2:l.Pairwise (· < ·)):SetOk (nz l) n:=by
 refine⟨fun x hx=>?_,?_⟩
 ·obtain ⟨a, ha, rfl⟩ := List.mem_map.1 hx
  have:=h1 a ha;omega
 ·rw[List.pairwise_map];exact h2.imp fun h=>by omega
theorem set49 (l:List Int) (n:Int) (hl:l.length<=140737488355328) (h:SetOk l n):PSpec Tryz.prog 132 [sli l,.int .i64 n] (.int .i64 0):=by
  refine PSpec.Qag 64 ok132 rfl (by(try simp only[noRefs,Qaa,Qaj,Qah,Qak,Qai,noRef,Bool.and_self,Bool.and_true])<;>rfl) rfl ?_
  simp(disch:=first|omega|(simp only[lenW]<;>omega)) only[s132,wV,simprocAttr]
  refine Qal 100 (fun i:Nat=>[(0,sli l),(1,.int .i64 n),(7,sli l),(8,.int .i64 l.length),(9,.int .i64 i)]) (fun _=>[]) (fun i=>i<=l.length) (fun i=>l.length-i) 0 ⟨[],rfl,au0,au1,au2⟩ (Nat.zero_le _) ?_
  rintro i hi
  by_cases hlt:i<l.length
  · obtain ⟨x, hx⟩ := Qad hlt
    obtain⟨h1,h2⟩:=h.1 x (List.mem_of_getElem? hx)
    have h1':¬x<0:=by omega
    have h2':¬n<=x:=by omega
    by_cases h0:i=0
    · have h4 : ¬ (0 : Int) < (i : Int) := by omega
      simp(disch:=first|omega|(simp only[lenW]<;>omega)) only[hlt,Qae hx,h1',h2',h4,wV,simprocAttr]
      exact⟨i+1,by omega,by omega,⟨[],rfl,au0,au1,au2⟩⟩
    · obtain ⟨y, hy⟩ := Qad (l := l) (i := i - 1) (by omega)
      have h3:=h.up hy (by rw[show i-1+1=i by omega];exact hx)
      have h3':¬x<=y:=by omega
      have h4:(0:Int)<(i:Int):=by omega
      have h5:(i:Int)-1=((i-1:Nat):Int):=by omega
      have h6:((i-1:Nat):Int)<l.length:=by omega
      simp(disch:=first|omega|(simp only[lenW]<;>omega)) only[hlt,Qae hx,h1',h2',h4,h5,h6,Qae hy,h3',wV,simprocAttr]
      exact⟨i+1,by omega,by omega,⟨[],rfl,au0,au1,au2⟩⟩
  · simp (disch := first | omega | (simp only [lenW] <;> omega)) only [hlt, wV, simprocAttr]
    exact⟨.inr trivial,_,rfl,rfl⟩
end Go.AM.SE
namespace Go.AM.SE
open Go.Proofs Go.AM.SD
structure EgsOk (a:Au):Prop where
 len:a.es.length<=140737488355328
 all:a.al.length<=140737488355328
 fr:∀e∈a.es,0<=e.fr/\e.fr<a.n
 to:∀e∈a.es,0<=e.to/\e.to<a.n
 ev:∀e∈a.es,e.ev∈a.al
 up:a.es.Pairwise fun x y=>x.fr<y.fr\/(x.fr=y.fr/\x.ev<y.ev)
theorem EgsOk.step {a:Au} (h:EgsOk a) {i:Nat} {x y:Eg} (hx:a.es[i]?=some x) (hy:a.es[i+1]?=some y):x.fr<y.fr\/(x.fr=y.fr/\x.ev<y.ev):=by
 obtain⟨h1,e1⟩:=List.getElem?_eq_some_iff.1 hx
 obtain⟨h2,e2⟩:=List.getElem?_eq_some_iff.1 hy
 have:=List.pairwise_iff_getElem.1 h.up i (i+1) h1 h2 (by omega)
 rw[e1,e2]at this;exact this
theorem edges50 (a : Au) (h : EgsOk a) : PSpec Tryz.prog 133 [auV a] (.int .i64 0) := by
  refine PSpec.Qag 64 ok133 rfl (by(try simp only[noRefs,Qaa,Qaj,Qah,Qak,Qai,noRef,Bool.and_self,Bool.and_true])<;>rfl) rfl ?_
  have hl:=h.len
  simp(disch:=first|omega|(simp only[lenW]<;>omega)) only[s133,wV,simprocAttr]
  refine Qal 100 (fun i:Nat=>[(1,.ptr 50 0 0),(7,egs a.es),(8,.int .i64 a.es.length),(9,.int .i64 i)]) (fun _=>[(50,.cells 0 [sli a.al,.int .i64 a.n,sli a.ms,egs a.es])]) (fun i=>i<=a.es.length) (fun i=>a.es.length-i) 0 ⟨[(50,.blk 64 0)],rfl,au0,au1,au2⟩ (Nat.zero_le _) ?_
  rintro i hi
  by_cases hlt:i<a.es.length
  · obtain ⟨x, hx⟩ := Qad hlt
    have hm:=List.mem_of_getElem? hx
    obtain⟨f1,f2⟩:=h.fr x hm
    obtain⟨t1,t2⟩:=h.to x hm
    have f1':¬x.fr<0:=by omega
    have f2':¬a.n<=x.fr:=by omega
    have t1':¬x.to<0:=by omega
    have t2':¬a.n<=x.to:=by omega
    have hev:decide (x.ev∈a.al)=true:=decide_eq_true (h.ev x hm)
    simp(disch:=first|omega|(simp only[lenW]<;>omega)) only[hlt,QcC hx,f1',f2',t1',t2',wV,simprocAttr]
    refine cp (contains62 a.al x.ev h.all) ?_
    rw[hev]
    by_cases h0:i=0
    · have h4 : (i : Int) = 0 := by omega
      simp(disch:=first|omega|(simp only[lenW]<;>omega)) only[hlt,QcC hx,h4,wV,simprocAttr]
      exact⟨1,by omega,by omega,⟨[(50,.blk 50 0)],rfl,au0,au1,au2⟩⟩
    · obtain ⟨y, hy⟩ := Qad (l := a.es) (i := i - 1) (by omega)
      have h4:¬(i:Int)=0:=by omega
      have h5:(i:Int)-1=((i-1:Nat):Int):=by omega
      have h6:((i-1:Nat):Int)<a.es.length:=by omega
      rcases h.step hy (by rw[show i-1+1=i by omega];exact hx)with h3|⟨h3,h3b⟩
      · have g1 : ¬ x.fr < y.fr := by omega
        have g2:¬x.fr=y.fr:=by omega
        simp(disch:=first|omega|(simp only[lenW]<;>omega)) only[hlt,QcC hx,h4,h5,h6,QcC hy,g1,g2,wV,simprocAttr]
        exact⟨i+1,by omega,by omega,⟨[(50,.blk 50 0)],rfl,au0,au1,au2⟩⟩
      · have g1 : ¬ x.fr < y.fr := by omega
        have g2:x.fr=y.fr:=by omega
        have g3:¬x.ev<=y.ev:=by omega
        simp(disch:=first|omega|(simp only[lenW]<;>omega)) only[hlt,QcC hx,h4,h5,h6,QcC hy,g1,g2,g3,wV,simprocAttr]
        exact⟨i+1,by omega,by omega,⟨[(50,.blk 50 0)],rfl,au0,au1,au2⟩⟩
  · simp (disch := first | omega | (simp only [lenW] <;> omega)) only [hlt, wV, simprocAttr]
    exact⟨.inr trivial,_,rfl,rfl⟩
structure AuOk (a:Au):Prop extends EgsOk a where
 alS:SetOk a.al 32
 msS:SetOk a.ms a.n
 mslen:a.ms.length<=140737488355328
 n0:0<=a.n
 nm:a.n<=4096
theorem check37 (a:Au) (h:AuOk a):PSpec Tryz.prog 66 [auV a] (.int .i64 0):=by
 refine PSpec.Qag 64 ok66 rfl (by(try simp only[noRefs,Qaa,Qaj,Qah,Qak,Qai,noRef,Bool.and_self,Bool.and_true])<;>rfl) rfl ?_
 have h1:¬a.n<0:=by have:=h.n0;omega
 have h2:¬4096<a.n:=by have:=h.nm;omega
 simp(disch:=first|omega|(simp only[lenW]<;>omega)) only[s66,wV,simprocAttr]
 refine cp (set49 a.al 32 h.all h.alS) ?_
 simp(disch:=first|omega|(simp only[lenW]<;>omega)) only[h1,h2,wV,simprocAttr]
 refine cp (set49 a.ms a.n h.mslen h.msS) ?_
 simp(disch:=first|omega|(simp only[lenW]<;>omega)) only[wV,simprocAttr]
 refine cp (edges50 a h.toEgsOk) ?_
 simp(disch:=first|omega|(simp only[lenW]<;>omega)) only[wV,simprocAttr]
 exact⟨.inr trivial,_,rfl,rfl⟩
end Go.AM.SE
namespace Go.AM.SE
open Go.Proofs Go.AM.SD
def fe (f:Nat->Int):Nat->Int
 |0=>0
 |n+1=>if fe f n=0 then f n else fe f n
theorem QbN {f:Nat->Int}:∀{n:Nat},(∀j,j<n->f j=0)->fe f n=0
 |0,_=>rfl
 |n+1,h=>by
  rw[fe,if_pos (QbN fun j hj=>h j (by omega))]
  exact h n (Nat.lt_succ_self n)
theorem fe_at {f:Nat->Int} {i:Nat} {e:Int} (hf:f i=e) (he:e≠0) (hb:∀j,j<i->f j=0):∀{n:Nat},i<n->fe f n=e
  |0,h=>absurd h (Nat.not_lt_zero _)
  | n + 1, h => by
    rw[fe]
    by_cases e1:i=n
    · subst e1;rw[if_pos (QbN hb)];exact hf
    · have := fe_at hf he hb (n := n) (by omega)
      rw[if_neg (by rw[this];exact he)];exact this
theorem QgV {f:Nat->Int}:∀{n:Nat},fe f n=0->∀j,j<n->f j=0
 |0,_,j,hj=>absurd hj (Nat.not_lt_zero _)
 | n + 1, h, j, hj => by
  rw[fe]at h
  split at h
  ·rename_i h0
   by_cases e:j=n
   ·subst e;exact h
   ·exact QgV h0 j (by omega)
  ·rename_i h0;exact absurd h h0
theorem fe_up {f:Nat->Int} {i:Nat} (hb:∀j,j<i->f j=0) (h:f i=0):∀j,j<i+1->f j=0:=fun j hj=>by
 by_cases e:j=i
 ·subst e;exact h
 ·exact hb j (by omega)
theorem QaA {α:Type} {l:List α} {i:Nat} {x d:α} (h:l[i]?=some x):l.getD i d=x:=by rw[List.getD_eq_getElem?_getD,h];rfl
end Go.AM.SE
namespace Go.AM.SO
open Go.Proofs Go.AM.SD Go.AM.SE
abbrev tyI:Ty:= .int .i64
theorem rowV {t:Ty} {α:Type} {f:t.D->α} {g:α->List AV} (h:∀x,t.cells x=g (f x)) (l:List t.D):l.flatMap t.cells=(l.map f).flatMap g:=by
 rw[List.flatMap_map]
 have:t.cells=fun x=>g (f x):=funext h
 rw[this]
theorem slV {t:Ty} {α:Type} {f:t.D->α} {g:α->List AV} (h:∀x,t.cells x=g (f x)) (l:List t.D):Ty.cells (.sl t) l=[.fsl ((l.map f).flatMap g) (l.map f).length t.sz]:=by
 show[AV.fsl (l.flatMap t.cells) l.length t.sz]=_
 rw[rowV h,List.length_map]
theorem slI (l:List Int):Ty.cells (.sl tyI) l=[sli l]:=by
 show[AV.fsl (l.flatMap fun n=>[.int .i64 n]) l.length 1]=_
 have:(l.flatMap fun n=>[AV.int .i64 n])=ints l:=by
  induction l with
  |nil=>rfl
  |cons x l ih=>rw[List.flatMap_cons,ih];rfl
 rw[this]
end Go.AM.SO
namespace Go.AM.SO
open Go.Proofs Go.AM.SD Go.AM.SE
structure Bxn where
 lo:List Int
 hi:List Int
structure Gdn where
 ev:Int
 bs:List Bxn
def bxC (b:Bxn):List AV:=[sli b.lo,sli b.hi]
abbrev bxV (b:Bxn):AV:= .agg [sli b.lo,sli b.hi]
abbrev bxsV (l:List Bxn):AV:= .fsl (l.flatMap bxC) l.length 2
def gdC (g:Gdn):List AV:=[.int .i64 g.ev,bxsV g.bs]
abbrev gdV (g:Gdn):AV:= .agg [.int .i64 g.ev,bxsV g.bs]
abbrev gdsV (l:List Gdn):AV:= .fsl (l.flatMap gdC) l.length 2
theorem Qax (l:List Bxn):noRefs (l.flatMap bxC)=true:=QaJ (fun x=>by simp only[bxC,noRefs,noRef,Qaa];rfl) l
theorem Qmt (l:List Bxn):noRef (bxsV l)=true:=by simp only[noRef];exact Qax l
theorem Qba (l:List Gdn):noRefs (l.flatMap gdC)=true:=QaJ (fun x=>by simp only[gdC,noRefs,noRef,Qax];rfl) l
theorem QbC (l:List Gdn):noRef (gdsV l)=true:=by simp only[noRef];exact Qba l
theorem QdW (l:List Bxn):(l.flatMap bxC).length=l.length*2:=Qbn (k:=2) (fun _=>rfl) l
theorem QeP (l:List Gdn):(l.flatMap gdC).length=l.length*2:=Qbn (k:=2) (fun _=>rfl) l
theorem Qbx {l:List Bxn} {i:Nat} {x:Bxn} (h:l[i]?=some x):(l.flatMap bxC).drop (i*2)=sli x.lo::sli x.hi::(l.drop (i+1)).flatMap bxC:=Qa3 (f:=bxC) (k:=2) (fun _=>rfl) h
theorem Qbc {l:List Gdn} {i:Nat} {x:Gdn} (h:l[i]?=some x):(l.flatMap gdC).drop (i*2)= .int .i64 x.ev::bxsV x.bs::(l.drop (i+1)).flatMap gdC:=Qa3 (f:=gdC) (k:=2) (fun _=>rfl) h
def vrC (x:List UInt8×Int):List AV:=[.str x.1,.int .i64 0,.int .i64 x.2,.int .i64 0]
abbrev vrsV (l:List (List UInt8×Int)):AV:= .fsl (l.flatMap vrC) l.length 4
theorem QaC (l:List (List UInt8×Int)):noRefs (l.flatMap vrC)=true:=QaJ (fun x=>rfl) l
theorem QbD (l:List (List UInt8×Int)):noRef (vrsV l)=true:=by simp only[noRef];exact QaC l
theorem Qgy (l:List (List UInt8×Int)):(l.flatMap vrC).length=l.length*4:=Qbn (k:=4) (fun _=>rfl) l
theorem Qc8 {l:List (List UInt8×Int)} {i:Nat} {x:List UInt8×Int} (h:l[i]?=some x):(l.flatMap vrC).drop (i*4)= .str x.1:: .int .i64 0:: .int .i64 x.2:: .int .i64 0::(l.drop (i+1)).flatMap vrC:=Qa3 (f:=vrC) (k:=4) (fun _=>rfl) h
abbrev vr0:List UInt8×Int:=([],0)
abbrev bx0:Bxn:=⟨[],[]⟩
abbrev gd0:Gdn:=⟨0,[]⟩
def vrE (v:List (List UInt8×Int)) (b:Bxn) (j:Nat):Int:=if b.lo.getD j 0<0\/(v.getD j vr0).2<b.hi.getD j 0\/b.hi.getD j 0<b.lo.getD j 0 then 2 else 0
def bxE (v:List (List UInt8×Int)) (b:Bxn):Int:=if b.lo.length=v.length/\b.hi.length=v.length then fe (vrE v b) v.length else 4
def bxsE (v:List (List UInt8×Int)) (l:List Bxn):Int:=fe (fun i=>bxE v (l.getD i bx0)) l.length
def gdE (ct:Nat->Bool) (v:List (List UInt8×Int)) (first:Bool) (y x:Gdn):Int:=
 if x.ev<0\/5<=x.ev then 2 else if ct x.ev.toNat=false then 11 else if first=false/\x.ev<=y.ev then 5 else bxsE v x.bs
def gdsE (ct:Nat->Bool) (v:List (List UInt8×Int)) (l:List Gdn):Int:=fe (fun i=>gdE ct v (decide (i=0)) (l.getD (i-1) gd0) (l.getD i gd0)) l.length
def BxOk (v:List (List UInt8×Int)) (b:Bxn):Prop:=b.lo.length=v.length/\b.hi.length=v.length/\∀(j:Nat) x,v[j]?=some x->0<=b.lo.getD j 0/\b.lo.getD j 0<=b.hi.getD j 0/\b.hi.getD j 0<=x.2
theorem QoW {v:List (List UInt8×Int)} {b:Bxn} (h:bxE v b=0):BxOk v b:=by
 unfold bxE at h
 split at h
 ·rename_i hl
  refine⟨hl.1,hl.2,fun j x hx=>?_⟩
  have hj:=(List.getElem?_eq_some_iff.1 hx).1
  have:=QgV h j hj
  unfold vrE at this
  rw[QaA hx]at this
  split at this
  ·cases this
  ·omega
 ·cases h
theorem Qof {v:List (List UInt8×Int)} {l:List Bxn} (h:bxsE v l=0):∀b∈l,BxOk v b:=by
 intro b hb
 obtain⟨i,hi,rfl⟩:=List.getElem_of_mem hb
 have:=QgV h i hi
 rw[QaA (List.getElem?_eq_getElem hi)]at this
 exact QoW this
theorem QoX {ct:Nat->Bool} {v:List (List UInt8×Int)} {f:Bool} {y x:Gdn} (h:gdE ct v f y x=0):(0<=x.ev/\x.ev<5)/\ct x.ev.toNat=true/\∀b∈x.bs,BxOk v b:=by
 unfold gdE at h
 split at h
 ·cases h
 ·split at h
  ·cases h
  ·split at h
   ·cases h
   ·rename_i h1 h2 h3
    refine⟨by omega,by simpa using h2,Qof h⟩
theorem Qnr (ct:Nat->Bool) (v:List (List UInt8×Int)) (g:Gdn):gdsE ct v [g]=gdE ct v true gd0 g:=by
 unfold gdsE
 show(if fe _ 0=0 then _ else _)=_
 rfl
def inB (b:Bxn) (t:List Int):Bool:=(List.range t.length).all fun j=>decide (b.lo.getD j 0<=t.getD j 0)&&decide (t.getD j 0<=b.hi.getD j 0)
def inBs (l:List Bxn) (t:List Int):Bool:=l.any fun b=>inB b t
theorem QdC {b:Bxn} {t:List Int} {j:Nat} {x:Int} (hx:t[j]?=some x) (h:x<b.lo.getD j 0\/b.hi.getD j 0<x):inB b t=false:=by
 unfold inB
 rw[List.all_eq_false]
 refine⟨j,List.mem_range.2 (List.getElem?_eq_some_iff.1 hx).1,?_⟩
 rw[QaA hx]
 simp only[Bool.and_eq_true,decide_eq_true_eq]
 omega
theorem Qji {b:Bxn} {t:List Int} (h:∀(j:Nat) x,t[j]?=some x->b.lo.getD j 0<=x/\x<=b.hi.getD j 0):inB b t=true:=by
 unfold inB
 rw[List.all_eq_true]
 intro j hj
 have:=h j _ (List.getElem?_eq_getElem (List.mem_range.1 hj))
 rw[QaA (List.getElem?_eq_getElem (List.mem_range.1 hj))]
 simp only[Bool.and_eq_true,decide_eq_true_eq]
 exact this
theorem Qgz {l:List Bxn} {t:List Int} (h:∀(j:Nat) x,l[j]?=some x->inB x t=false):inBs l t=false:=by
 unfold inBs
 rw[List.any_eq_false]
 intro b hb
 obtain⟨i,hi,rfl⟩:=List.getElem_of_mem hb
 rw[h i _ (List.getElem?_eq_getElem hi)]
 decide
theorem QhQ {l:List Bxn} {t:List Int} {j:Nat} {x:Bxn} (hx:l[j]?=some x) (h:inB x t=true):inBs l t=true:=by
 unfold inBs
 exact List.any_eq_true.2 ⟨x,List.mem_of_getElem? hx,h⟩
def wiV (v:List (List UInt8×Int)) (t:List Int):Bool:=decide (v.length=t.length)&&(List.range v.length).all fun j=>decide (0<=t.getD j 0)&&decide (t.getD j 0<=(v.getD j vr0).2)
theorem Qog {v:List (List UInt8×Int)} {t:List Int} (h:¬v.length=t.length):wiV v t=false:=by unfold wiV;simp[h]
theorem QhR {v:List (List UInt8×Int)} {t:List Int} {j:Nat} {x:List UInt8×Int} {y:Int} (hx:v[j]?=some x) (hy:t[j]?=some y) (h:y<0\/x.2<y):wiV v t=false:=by
 unfold wiV
 rw[Bool.and_eq_false_iff]
 right
 rw[List.all_eq_false]
 refine⟨j,List.mem_range.2 (List.getElem?_eq_some_iff.1 hx).1,?_⟩
 rw[QaA hx,QaA hy]
 simp only[Bool.and_eq_true,decide_eq_true_eq]
 omega
theorem Qns {v:List (List UInt8×Int)} {t:List Int} (hl:v.length=t.length) (h:∀(j:Nat) x y,v[j]?=some x->t[j]?=some y->0<=y/\y<=x.2):wiV v t=true:=by
 unfold wiV
 rw[Bool.and_eq_true,decide_eq_true_eq,List.all_eq_true]
 refine⟨hl,fun j hj=>?_⟩
 have hj:=List.mem_range.1 hj
 have:=h j _ _ (List.getElem?_eq_getElem hj) (List.getElem?_eq_getElem (by omega))
 rw[QaA (List.getElem?_eq_getElem hj),QaA (List.getElem?_eq_getElem (by omega))]
 simp only[Bool.and_eq_true,decide_eq_true_eq]
 exact this
end Go.AM.SO
namespace Go.AM.SK
open Go.Proofs
set_option maxHeartbeats 4000000
noncomputable section
def cf:YA.Cf:={}
noncomputable def ft:FT2:=YA.tre Tryz.prog cf 20 [45,52,64,66,77,78,83,86,91,95,98,100,101,102,113,114,115,116,117,129,132,133,144,147,148,149,151,152,154,155,156,157,159,160,161,162,163,164,165,169,170,171,172,173,174,175,179,183,188,191,192,193,194,195,196,197,198,199,200,201,202,204,205,206,216,217,218,219,220,221,222,223,224,234,236,239,245,251,252,253,254,259,260,261,262,263,264,265,266,267,276,277,278,279,283]
theorem ft_ok:ft.OK Tryz.prog:=YA.Qgx _ _ (YA.QfU (by kernel_rfl))
end
end Go.AM.SK
namespace Go.AM.SU
open Go.Proofs
set_option maxHeartbeats 4000000
noncomputable section
def cf:YA.Cf:={always:=[95,150].map fun k=>(k,.pure)}
def s42:SFn:=⟨192,[.cell 2 (some 5)],
 (.seq (.region [Zz 1 (.box .dyn (.t 0)) [],
 Zz 2 (.alloc .dyn (.agg [.nilsl,.nilsl,.nilsl,.nilsl,.nilsl])) []] [] [0])
 (.seq (.region [Zf 17 0 1 [],
 Zw 18 5 17 [0],
 Zz 19 (.call .pure (.f 89) [(.t 18)]) [1],
 Zz 20 (.build [.nilsl,.nilsl,.nilsl,.nilsl,.nilsl] [(0,1,(.t 19))]) [2],
 Zz 3 (.alloc .dyn (.agg [.nilsl,.nilsl,.nilsl,.nilsl,.nilsl])) [],
 Zs 5 3 20 (Za [4,3,2] 5)] [] [17,18,19,20])
 (.seq (.region [Zz 4 (.alloc .dyn .nilsl) []] [] [])
 (.seq (.region [Zf 21 5 1 [],
 Zl 22 21 [0],
 Zz 23 (.bin .rem (.t 22) (.c (.int .u8 3))) [1],
 Zz 24 (.conv .i64 (.t 23)) [2],
 Zz 25 (.bin .add (.c (.int .i64 1)) (.t 24)) [3],
 Zm 5 25 (Za [4] 5)] [] [21,22,23,24,25])
 (.seq (.seq (.region [Zm 26 5 [],
 Zz 27 (.mov (.c (.int .i64 0))) []] [] [])
 (.block 0 (.loop (.seq (.region [Zb 28 .lss 27 26 []] [] [])
 (.seq (.cond (.t 28)
 .skip
 (.exit 0))
 (.seq (.block 1 (.seq (.region [Zm 29 27 [],
 Zm 6 29 [0,0]] [] [28,29])
 (.seq (.region [Zm 30 6 [],
 Zf 31 6 1 [],
 Zz 32 (.iaddr (some 3) 1 (.t 31) (.t 30)) [1,0],
 Zl 33 32 [2],
 Zz 34 (.call .pure (.f 90) [(.t 33)]) [3],
 Zm 7 34 (Za [4,4] 5)] [] [30,31,32,33,34])
 (.seq (.region [Zl 35 4 [],
 Zm 36 7 [],
 Zz 37 (.call .pure (.f 91) [(.t 35),(.t 36)]) [0,1],
 Zs 1 4 37 [2,2,0,1,2]] [] [35,36,37])
 (.region [Zf 38 1 3 [],
 Zl 39 38 [0],
 Zm 40 6 [],
 Zz 41 (.bin .add (.c (.int .i64 48)) (.t 40)) [2],
 Zz 42 (.conv .i32 (.t 41)) [3],
 Zz 43 (.convS (.t 42)) [4],
 Zz 44 (.bin .add (.c (.str [99])) (.t 43)) [5],
 Zm 45 7 [],
 Zm 46 6 [],
 Zf 47 9 1 [],
 Zz 48 (.iaddr (some 3) 27 (.t 47) (.t 46)) [9,8],
 Zw 49 27 48 [10],
 Zz 50 (.call .pure (.f 92) [(.t 45),(.t 49),(.c (.int .i64 3))]) [7,11],
 Zz 51 (.build [(.str []),.nilsl,(.int .i64 0),.nilsl,.nilsl] [(0,1,(.t 44)),(1,4,(.t 50))]) [6,12],
 Zz 52 (.bslice false .dyn 5 1 [(.str []),.nilsl,(.int .i64 0),.nilsl,.nilsl] [(0,5,(.t 51))]) [13],
 Zz 53 (.append .dyn 5 96 (.t 39) (.t 52)) [1,14,12],
 Zf 54 1 3 (Za [] 16),
 Zs 1 54 53 (Za [16,15,15] 16)] [] [6,7,38,39,40,41,42,43,44,45,46,47,48,49,50,51,52,53,54])))))
 (.region [Zz 55 (.bin .add (.t 27) (.c (.int .i64 1))) [],
 Zm 27 55 [0]] [] [55])))))))
 (.seq (.seq (.region [Zf 56 90 1 [],
 Zl 57 56 [0],
 Zz 58 (.bin .rem (.t 57) (.c (.int .u8 3))) [1],
 Zz 59 (.conv .i64 (.t 58)) [2],
 Zz 60 (.mov (.c (.int .i64 0))) []] [] [26,27,56,57,58])
 (.block 2 (.loop (.seq (.region [Zb 61 .lss 60 59 []] [] [])
 (.seq (.cond (.t 61)
 .skip
 (.exit 2))
 (.seq (.block 3 (.seq (.region [Zm 62 60 [],
 Zm 8 62 [0,0]] [] [61,62])
 (.seq (.region [Zm 63 8 [],
 Zf 64 91 1 [],
 Zz 65 (.iaddr (some 2) 1 (.t 64) (.t 63)) [1,0],
 Zl 66 65 [2],
 Zz 67 (.call .heap (.f 90) [(.t 66)]) [3],
 Zz 68 (.mkfn 94 [] [(.t 4)]) [],
 Zz 69 (.call .heap (.f 93) [(.t 67),(.t 68)]) [4,5,4],
 Zm 9 69 (Za [6,6] 7)] [] [63,64,65,66,67,68,69])
 (.region [Zf 70 2 3 [],
 Zl 71 70 [0],
 Zm 72 8 [],
 Zz 73 (.bin .add (.c (.int .i64 48)) (.t 72)) [2],
 Zz 74 (.conv .i32 (.t 73)) [3],
 Zz 75 (.convS (.t 74)) [4],
 Zz 76 (.bin .add (.c (.str [114])) (.t 75)) [5],
 Zm 77 9 [],
 Zm 78 8 [],
 Zf 79 93 1 [],
 Zz 80 (.iaddr (some 2) 27 (.t 79) (.t 78)) [9,8],
 Zw 81 27 80 [10],
 Zz 82 (.call .pure (.f 92) [(.t 77),(.t 81),(.c (.int .i64 3))]) [7,11],
 Zz 83 (.build [(.str []),.nilsl,(.int .i64 0),.nilsl,.nilsl] [(0,1,(.t 76)),(1,4,(.t 82))]) [6,12],
 Zz 84 (.bslice false .dyn 5 1 [(.str []),.nilsl,(.int .i64 0),.nilsl,.nilsl] [(0,5,(.t 83))]) [13],
 Zz 85 (.append .dyn 5 96 (.t 71) (.t 84)) [1,14,12],
 Zf 86 2 3 (Za [] 16),
 Zs 1 86 85 (Za [16,15,15] 16)] [] [8,9,70,71,72,73,74,75,76,77,78,79,80,81,82,83,84,85,86]))))
 (.region [Zz 87 (.bin .add (.t 60) (.c (.int .i64 1))) [],
 Zm 60 87 [0]] [] [87])))))))
 (.seq (.seq (.region [Zf 88 147 1 [],
 Zl 89 88 [0],
 Zv 90 89 [1],
 Zz 91 (.mov (.c (.int .i64 0))) []] [] [4,59,60,88])
 (.block 4 (.loop (.seq (.region [Zb 92 .lss 91 90 []] [] [])
 (.seq (.cond (.t 92)
 .skip
 (.exit 4))
 (.seq (.block 5 (.seq (.region [Zm 93 91 [],
 Zi 94 4 89 91 [],
 Zw 95 4 94 [1],
 Zz 11 (.alloc .dyn (.agg [(.int .u8 0),(.int .u8 0),(.int .u8 0),(.int .u8 0)])) [],
 Zm 10 93 [0,0,1,2,3],
 Zs 4 11 95 (Za [3,2,4] 5)] [] [92,93,94,95])
 (.seq (.seq (.region [Zm 96 10 [],
 Zz 97 (.bin .eql (.t 96) (.c (.int .i64 2))) [0]] [] [96])
 (.cond (.t 97)
 (.exit 4)
 .skip))
 (.seq (.region [Zm 98 10 [],
 Zz 99 (.bin .add (.c (.int .i64 48)) (.t 98)) [0],
 Zz 100 (.conv .i32 (.t 99)) [1],
 Zz 101 (.convS (.t 100)) [2],
 Zz 102 (.bin .add (.c (.str [101])) (.t 101)) [3],
 Zz 103 (.build [(.str []),.nilsl] [(0,1,(.t 102))]) [4],
 Zz 12 (.alloc .dyn (.agg [(.str []),.nilsl])) [],
 Zs 2 12 103 (Za [6,5] 7)] [] [10,97,98,99,100,101,102,103])
 (.seq (.seq (.region [Zf 104 1 3 [],
 Zl 105 104 [0],
 Zv 106 105 [1],
 Zz 107 (.mov (.c (.int .i64 0))) []] [] [104,105])
 (.block 6 (.loop (.seq (.region [Zb 108 .lss 107 106 []] [] [])
 (.seq (.cond (.t 108)
 .skip
 (.exit 6))
 (.seq (.block 7 (.seq (.region [Zm 109 107 [],
 Zm 13 109 [0,0]] [] [108,109])
 (.seq (.region [Zf 110 1 3 [],
 Zl 111 110 [0],
 Zm 112 13 [],
 Zi 113 5 111 112 [1,2],
 Zf 114 1 113 [3],
 Zf 115 1 114 [4],
 Zl 116 115 [5],
 Zm 14 116 (Za [6] 7)] [] [110,111,112,113,114,115,116])
 (.seq (.region [Zm 117 13 [],
 Zz 118 (.iaddr (some 4) 1 (.t 11) (.t 117)) [0],
 Zl 119 118 [1],
 Zz 120 (.conv .i64 (.t 119)) [2],
 Zm 121 14 [],
 Zz 122 (.bin .add (.t 121) (.c (.int .i64 2))) [4],
 Zb 123 .rem 120 122 [3,5],
 Zm 124 14 [],
 Zb 125 .lss 123 124 [6,7]] [] [117,118,119,120,121,122,123,124])
 (.cond (.t 125)
 (.region [Zf 126 1 12 [],
 Zl 127 126 [0],
 Zm 128 13 [],
 Zm 129 13 [],
 Zz 130 (.iaddr (some 4) 1 (.t 11) (.t 129)) [3],
 Zl 131 130 [4],
 Zz 132 (.conv .i64 (.t 131)) [5],
 Zm 133 14 [],
 Zz 134 (.bin .add (.t 133) (.c (.int .i64 2))) [7],
 Zb 135 .rem 132 134 [6,8],
 Zz 136 (.build [(.int .i64 0),(.int .i64 0)] [(0,1,(.t 128)),(1,1,(.t 135))]) [2,9],
 Zz 137 (.bslice false .dyn 2 1 [(.int .i64 0),(.int .i64 0)] [(0,2,(.t 136))]) [10],
 Zz 138 (.append .dyn 2 16 (.t 127) (.t 137)) [1,11],
 Zf 139 1 12 (Za [] 13),
 Zs 1 139 138 (Za [13,12,12] 13)] [] [13,14,125,126,127,128,129,130,131,132,133,134,135,136,137,138,139])
 .skip)))))
 (.region [Zz 140 (.bin .add (.t 107) (.c (.int .i64 1))) [],
 Zm 107 140 [0]] [] [13,14,125,140])))))))
 (.seq (.region [Zf 141 1 12 [],
 Zl 142 141 [0],
 Zv 143 142 [1],
 Zz 144 (.bin .gtr (.t 143) (.c (.int .i64 0))) [2]] [] [11,106,107,141,142,143])
 (.cond (.t 144)
 (.region [Zf 145 3 3 [],
 Zl 146 145 [0],
 Zw 147 2 12 [],
 Zz 148 (.bslice false .dyn 2 1 [(.str []),.nilsl] [(0,2,(.t 147))]) [2],
 Zz 149 (.append .dyn 2 40 (.t 146) (.t 148)) [1,3],
 Zf 150 3 3 (Za [] 5),
 Zs 1 150 149 (Za [5,4,4] 5)] [] [12,144,145,146,147,148,149,150])
 .skip)))))))
 (.region [Zz 151 (.bin .add (.t 91) (.c (.int .i64 1))) [],
 Zm 91 151 [0]] [] [12,144,151])))))))
 (.seq (.region [Zf 152 151 1 [],
 Zl 153 152 [0],
 Zz 154 (.conv .i64 (.t 153)) [1],
 Zz 155 (.bin .rem (.t 154) (.c (.int .i64 8))) [2],
 Zz 156 (.build [(.str []),.nilsl,(.int .i64 0)] [(0,1,(.c (.str [107]))),(2,1,(.t 155))]) [3],
 Zz 15 (.alloc .dyn (.agg [(.str []),.nilsl,(.int .i64 0)])) [],
 Zs 3 15 156 (Za [5,4] 6)] [] [89,90,91,152,153,154,155,156])
 (.seq (.seq (.region [Zm 157 5 [],
 Zz 158 (.mov (.c (.int .i64 0))) []] [] [5])
 (.block 8 (.loop (.seq (.region [Zb 159 .lss 158 157 []] [] [])
 (.seq (.cond (.t 159)
 .skip
 (.exit 8))
 (.seq (.block 9 (.seq (.region [Zm 160 158 [],
 Zm 16 160 [0,0]] [] [159,160])
 (.seq (.region [Zm 161 16 [],
 Zf 162 148 1 [],
 Zz 163 (.iaddr (some 3) 1 (.t 162) (.t 161)) [1,0],
 Zl 164 163 [2],
 Zz 165 (.bin .neq (.t 164) (.c (.int .i8 0))) [3]] [] [161,162,163,164])
 (.cond (.t 165)
 (.region [Zf 166 1 15 [],
 Zl 167 166 [0],
 Zm 168 16 [],
 Zm 169 16 [],
 Zf 170 148 1 [],
 Zz 171 (.iaddr (some 3) 1 (.t 170) (.t 169)) [4,3],
 Zl 172 171 [5],
 Zz 173 (.conv .i64 (.t 172)) [6],
 Zz 174 (.bin .rem (.t 173) (.c (.int .i64 4))) [7],
 Zz 175 (.build [(.int .i64 0),(.int .i64 0)] [(0,1,(.t 168)),(1,1,(.t 174))]) [2,8],
 Zz 176 (.bslice false .dyn 2 1 [(.int .i64 0),(.int .i64 0)] [(0,2,(.t 175))]) [9],
 Zz 177 (.append .dyn 2 16 (.t 167) (.t 176)) [1,10],
 Zf 178 1 15 (Za [] 12),
 Zs 1 178 177 (Za [12,11,11] 12)] [] [16,165,166,167,168,169,170,171,172,173,174,175,176,177,178])
 .skip))))
 (.region [Zz 179 (.bin .add (.t 158) (.c (.int .i64 1))) [],
 Zm 158 179 [0]] [] [16,165,179])))))))
 (.seq (.region [Zf 180 1 15 [],
 Zl 181 180 [0],
 Zz 182 (.call .heap (.f 96) [(.t 181),(.f 97)]) [1],
 Zf 183 1 15 [0,1,2],
 Zs 1 183 182 [3,2,2,0,1,2]] [] [1,157,158,180,181,182,183])
 (.seq (.seq (.region [Zf 184 1 15 [],
 Zl 185 184 [0],
 Zv 186 185 [1],
 Zz 187 (.bin .gtr (.t 186) (.c (.int .i64 0))) [2]] [] [184,185,186])
 (.cond (.t 187)
 (.region [Zw 188 3 15 [],
 Zz 189 (.bslice false .dyn 3 1 [(.str []),.nilsl,(.int .i64 0)] [(0,3,(.t 188))]) [0],
 Zf 190 4 3 [0,1],
 Zs 1 190 189 [2,1,0,1]] [] [15,187,188,189,190])
 .skip))
 (.seq (.region [Zw 191 5 3 [],
 Zs 5 2 191 [0,0]] [] [3,15,187,191])
 .ret))))))))))))⟩
def s93:SFn:=by
 refine(?f:YA.Yt Tryz.prog cf 93 [[4],[8,9,10],[11],[0,1,5,12,13],[4,12,14,15],[16,17,18],[19,22,23,24,25],[26,27,28],[7,29,30,31,32,33],[34,35],[7,29,20,21],[1,6,36,37,38],[0,5,39,40,41]]) ?s ?h
 case h=>exact YA.rr
 exact fun s _=>s
def s92:SFn:=by
 refine(?f:YA.Yt Tryz.prog cf 92 [[1],[2,7,8,9,10,11,12],[0,4,13,14,15]]) ?s ?h
 case h=>exact YA.rr
 exact fun s _=>s
def s94:SFn:=by
 refine(?f:YA.Yt Tryz.prog cf 94 [[3],[0,1,4,5,6,7]]) ?s ?h
 case h=>exact YA.rr
 exact fun s _=>s
def s96:SFn:=by
 refine(?f:YA.Yt Tryz.prog cf 96 [[4],[8,9,10],[11],[0,1,5,12,13],[4,12,14,15],[16,17,18],[19,22,23,24,25],[26,27,28],[7,29,30,31,32,33],[34,35],[7,29,20,21],[1,6,36,37,38],[0,5,39,40,41]]) ?s ?h
 case h=>exact YA.rr
 exact fun s _=>s
def s97:SFn:=by
 refine(?f:YA.Yt Tryz.prog cf 97 [[0,2],[1,3,4,5]]) ?s ?h
 case h=>exact YA.rr
 exact fun s _=>s
def s151:SFn:=by
 refine(?f:YA.Yt Tryz.prog cf 151 [[4],[6],[],[9,10],[11,12,13,14,15],[0,1,7,8,5,16,17],[4,5,16,18],[0,1,7,8]]) ?s ?h
 case h=>exact YA.rr
 exact fun s _=>s
def s153:SFn:=by
 refine(?f:YA.Yt Tryz.prog cf 153 [[4],[6],[],[9,10],[11,12,13,14,15],[0,1,7,8,5,16,17],[4,5,16,18],[0,1,7,8]]) ?s ?h
 case h=>exact YA.rr
 exact fun s _=>s
theorem ok42:okFn Tryz.prog 42 s42=true:=by kernel_rfl
theorem ok93:okFn Tryz.prog 93 s93=true:=by kernel_rfl
theorem ok92:okFn Tryz.prog 92 s92=true:=by kernel_rfl
theorem ok94:okFn Tryz.prog 94 s94=true:=by kernel_rfl
theorem ok96:okFn Tryz.prog 96 s96=true:=by kernel_rfl
theorem ok97:okFn Tryz.prog 97 s97=true:=by kernel_rfl
theorem ok151:okFn Tryz.prog 151 s151=true:=by kernel_rfl
theorem ok153:okFn Tryz.prog 153 s153=true:=by kernel_rfl
end
end Go.AM.SU
namespace Go.AM
variable {P:Program}
end Go.AM
namespace Go.AM
end Go.AM
namespace Go.AM
variable {P:Program}
abbrev Claims:=List (Nat×List Nat)
def clm:Claims->Nat->Option (List Nat)
 |[],_=>none
 |(j,bs)::r,d=>bif Nat.beq j d then some bs else clm r d
def absH (C:Claims) (d:Nat) (a:Option (List Nat)):Option (List Nat):=match clm C d with|some bs=>some bs|none=>a
def touch2 (i:Nat) (ax:Opd->Option (List Nat)):SOp->Option (List Nat)
 | .call .pure _ _=>some []
 |s=>s.touch i ax
theorem Qjj {i:Nat} {T:Tmps} {ax:Opd->Option (List Nat)} {s:SOper} {h h1:Heap} {v:AV} {f:FP} {ts:List Nat} (hax:∀x bs,ax x=some bs->Pts (ev T x) bs) (ht:touch2 i ax s.op=some ts) (hs:StepV P i s T h v h1 f):
  f.all=false/\∀b,b∈f.R\/b∈f.W->b∈ts:=by
 by_cases hc:∃x asg,s.op= .call .pure x asg
 ·obtain ⟨x, asg, hop⟩ := hc
  have key:StepX P i s.op T h v h1 f->f.all=false/\∀b,b∈f.R\/b∈f.W->b∈ts:=by
   rintro⟨out,h2,hm,ho⟩
   rw[hop]at hm ho
   simp only[aop]at hm ho
   cases hx:ev T x with
   |fn f' first cap=>
    rw[hx]at hm ho
    simp only[aCall,HM.run,Option.some.injEq,Prod.mk.injEq]at hm
    obtain⟨rfl,rfl⟩:=hm
    simp only[aCall,HM.fp]at ho
    obtain⟨_,_,rfl⟩:=ho
    exact⟨rfl,fun b hb=>by simp[fpOf]at hb⟩
   |_=>rw[hx]at hm;simp[aCall,HM.run]at hm
  unfold StepV at hs
  grind
 ·refine Qft hax ?_ hs
  simp_all [touch2]
def touchesH (C:Claims) (n:Nat) (T:Tmps):List SOper->Abs->List (Option (List Nat))
 |[],_=>[]
 |s::r,A=>touch2 n (absO T A) s.op::touchesH C (n+1) T r (match s.dst with|some d=>(d,absH C d (s.op.absV n (absO T A)))::A|none=>A)
def ssa (C:Claims):List SOper->Bool
 |[]=>true
 |s::r=>(match s.dst with|some d=>(clm C d).isNone||r.all fun s'=>(match s'.dst with|some e=> !Nat.beq e d|none=>true)|none=>true)&&ssa C r
theorem QkK:∀{r:List SOper} {n:Nat} {T:Tmps} {h:Heap} {K:Tmps->Heap->Nat->Prop},wpR P n r T h K->∃T' h' n',K T' h' n'/\∀d,(∀s∈r,s.dst≠some d)->lk T' d=lk T d
 |[],n,T,h,K,hk=>⟨T,h,n,hk,fun _ _=>rfl⟩
 |s::r,n,T,h,K,⟨v,h1,f,hs,hr⟩=>by
  obtain⟨T',h',n',hk,he⟩:=QkK hr
  refine⟨T',h',n',hk,fun d hd=>?_⟩
  simp_all [Qbq]
theorem Qjk {T0:Tmps} {C:Claims}:∀{r:List SOper} {n:Nat} {A:Abs} {T:Tmps} {h:Heap} {K:Tmps->Heap->Nat->Prop} (hA:AbsOK T0 A T) (K':List FP->Tmps->Heap->Nat->Prop)
  (hC:∀T h n,K T h n->∀d bs,clm C d=some bs->Pts (lk T d) bs) (hssa:ssa C r=true),
  (∀fs T h n',fs.length=r.length->(∀(j:Nat) ts,(touchesH C n T0 r A).getD j none=some ts->(fs.getD j ⟨false,[],[]⟩).all=false/\∀b,b∈(fs.getD j ⟨false,[],[]⟩).R\/b∈(fs.getD j ⟨false,[],[]⟩).W->b∈ts)->K T h n'->K' fs T h n')->
  wpR P n r T h K->wpRF P n r T h K'
 |[],n,A,T,h,K,hA,K',hC,hssa,hK,hw=>hK [] T h n rfl (fun j ts hj=>by simp_all) hw
 | s :: r, n, A, T, h, K, hA, K', hC, hssa, hK, hw => by
  obtain⟨v,h1,f,hs,hr⟩:=hw
  simp only[ssa,Bool.and_eq_true]at hssa
  obtain⟨hs1,hs2⟩:=hssa
  refine⟨v,h1,f,hs,?_⟩
  have hA2:AbsOK T0 (match s.dst with|some d=>(d,absH C d (s.op.absV n (absO T0 A)))::A|none=>A) (putD T s.dst v):=by
   cases e:s.dst with
   |none=>exact hA
   | some d =>
    refine AbsOK.up hA fun bs hb=>?_
    unfold absH at hb
    split at hb
    ·rename_i bs' hc
     cases hb
     obtain⟨T',h',n',hk,he⟩:=QkK hr
     have h3:=hC T' h' n' hk d _ hc
     rw[he d ?_,Qbq,if_pos e]at h3
     ·exact h3
     ·intro s' hs'
      rw[e]at hs1
      simp only[hc,Option.isNone_some,Bool.false_or,List.all_eq_true]at hs1
      have:=hs1 s' hs'
      intro e2
      simp_all
    ·exact Qgt hA.opd hb hs
  refine Qjk hA2 (fun fs T h n=>K' (f::fs) T h n) hC hs2 (fun fs T h n' hl hf hk=>?_) hr
  refine hK (f::fs) T h n' (by simp[hl]) (fun j ts hj=>?_) hk
  cases j with
  |zero=>
   simp only[touchesH,List.getD_cons_zero]at hj⊢
   exact Qjj hA.opd hj hs
  |succ j=>
   simp only[touchesH,List.getD_cons_succ]at hj⊢
   exact hf j ts hj
def Clms (T:Tmps):Claims->Prop
 |[]=>True
 |(d,bs)::r=>Pts (lk T d) bs/\Clms T r
theorem Clms.get {T:Tmps}:∀{C:Claims},Clms T C->∀d bs,clm C d=some bs->Pts (lk T d) bs
 |[],_,d,bs,h=>by cases h
 | (j, cs) :: r, hh, d, bs, h => by
  simp only[clm]at h
  cases e:Nat.beq j d with
  |true=>
   rw[e]at h
   simp only[cond_true,Option.some.injEq]at h
   have:j=d:=by simpa using e
   subst this;subst h;exact hh.1
  |false=>rw[e]at h;exact Clms.get hh.2 d bs h
theorem QgA (C:Claims) {N:NM} {ops:List SOper} {p:Nat×Nat} {ps:List (Nat×Nat)} {dead:List Nat} {fs:List Fr} {n:Nat} {T:Tmps} {h:Heap} {Q:QC} (hssa:ssa C ops=true) (hp:pairsOK (touchesH C n T ops []) (p::ps)=true)
  (hw:wR P N ops [] [] n T h fun e T h n=>Clms T C/\wX P N .normal fs n (rm T dead) h Q):wS P N (.region ops (p::ps) dead) fs n T h Q:=by
 have rm0:∀T:Tmps,rm T []=T:=by
  intro T
  induction T with
  |nil=>rfl
  |cons p T ih=>obtain⟨j,v⟩:=p;simp[rm,ih]
 refine Qjk (C:=C) (K:=fun T h n=>Clms T C/\wX P N .normal fs n (rm T dead) h Q) AbsOK.nil _ (fun T h n hk d bs hc=>hk.1.get d bs hc) hssa (fun fs' T h n' hl hf hk=>⟨?_,hk.2⟩) ?_
 ·rw [List.all_eq_true]
  intro q hq
  have:=List.all_eq_true.1 hp q hq
  split at this
  ·rename_i a b ha hb
   obtain⟨f1,f2⟩:=hf _ _ ha
   obtain⟨g1,g2⟩:=hf _ _ hb
   have hd:∀x y,x∈a->y∈b->x≠y:=by
    grind
   have dj:∀xs ys:List Nat,(∀x∈xs,∀y∈ys,x≠y)->disj xs ys=true:=by
    intro xs ys hh
    unfold disj
    grind
   grind [FP.apart]
  ·cases this
 ·have hw' : wpR P n ops T h fun T h n => Clms (rm T []) C /\ wX P N .normal fs n (rm (rm T []) dead) h Q := hw
  simp_all
end Go.AM
namespace Go.AM
variable {P:Program} {N:NM} {n:Nat} {d:Option Nat} {af dead:List Nat} {r:List SOper} {T:Tmps} {h:Heap} {Q:QC} {fs:List Fr}
def wAn (P:Program) (N:NM) (ys:Option (List AV)) (len sz bytes:Nat) (d:Option Nat) (ops:List SOper) (dead:List Nat) (fs:List Fr) (n:Nat) (T:Tmps) (h:Heap) (Q:QC):Prop:=
 ∃y,ys=some y/\(len*bytes<=140737488355328/\len<=140737488355328)/\y.all AV.one=true/\wN P N y (.sl n 0 0 len sz) d ops dead fs n T h Q
theorem Qjl {sz bytes b g off len:Nat} (hl:0<len):wM P N (aAppend .dyn n sz bytes .nilsl (.sl b g off len sz)) d r dead fs n T h Q=wAn P N (srcB (h.get b) g off len sz) len sz bytes d r dead fs n T h Q:=by
 obtain⟨k,rfl⟩:∃k,len=k+1:=⟨len-1,by omega⟩
 rw[QjZ]
 rfl
theorem Qnt {ys:List AV} {len sz bytes:Nat} (h1:len*bytes<=140737488355328) (h2:len<=140737488355328):wAn P N (some ys) len sz bytes d r dead fs n T h Q=if ys.all AV.one=true then wN P N ys (.sl n 0 0 len sz) d r dead fs n T h Q else False:=by
 by_cases ho:ys.all AV.one=true
 ·rw [if_pos ho]; apply propext; constructor
  ·rintro⟨y,e1,_,_,h5⟩;simp_all
  ·intro h5;exact⟨ys,rfl,⟨h1,h2⟩,ho,h5⟩
 ·rw [if_neg ho]; apply propext; constructor
  ·rintro⟨y,e1,_,h4,h5⟩;grind
  simp_all
end Go.AM
namespace Go.AM
end Go.AM
namespace Go.AM
theorem Rn.nilK {m:Nat} {π:Nat->Option Src} {h:Heap} {sz:Nat}:Rn m π h (.fsl [] 0 sz) .nilsl:=fun _ c w v H M hv=>by
 simp_all [VRel]
end Go.AM
namespace Go.AM.SE
open Go.Proofs Go.AM.SD
abbrev backF (es:List Ed):Nat->AV:=fun k=>sliN (preds es k)
end Go.AM.SE
namespace Go.AM.SE
open Go.Proofs Go.AM.SD
theorem QcM {f:Nat->AV} (h:∀x,noRef (f x)=true) (l:List Nat):noRefs (l.map f)=true:=by
 induction l with
 |nil=>rfl
 |cons x l ih=>simp only[List.map_cons,noRefs,h,ih];rfl
theorem Qap (k:IntKind) (l:List Nat):noRefs (l.map fun x:Nat=>AV.int k (x:Int))=true:=QcM (fun _=>rfl) l
theorem Qas (es:List Ed) (l:List Nat):noRefs (l.map (backF es))=true:=QcM (fun x=>Qab _) l
theorem Qnu (n:Nat) (x:Int):(List.replicate n [AV.int .i64 x]).flatten=ints (List.replicate n x):=by
 induction n with
 |zero=>rfl
 |succ n ih=>rw[List.replicate_succ,List.flatten_cons,ih];rfl
theorem Qmu {n i:Nat} (h:i<n):(List.replicate i (-1:Int)++List.replicate (n-i) 0).set i (-1)=List.replicate (i+1) (-1)++List.replicate (n-(i+1)) 0:=by
 rw[List.set_append_right _ _ (by simp),List.length_replicate,Nat.sub_self,show n-i=(n-(i+1))+1 by omega,List.replicate_succ,List.set_cons_zero,List.replicate_succ',List.append_assoc];rfl
theorem Qef {l:List Int} {i:Nat} {x:Int}:(ints l).set i (.int .i64 x)=ints (l.set i x):=by simp[ints,List.map_set]
theorem Qdt {l:List Int} {i:Nat} {x:Int} (h:l[i]?=some x):(ints l)[i]?=some (.int .i64 x):=by simp[ints,h]
theorem Qch {l:List Int} {i:Nat} (h:i<l.length):(ints l)[i]?=some (.int .i64 (l.getD i 0)):=by simp[ints,h]
end Go.AM.SE
namespace Go.AM.SE
open Go.Proofs Go.AM.SD
def bkC (rank:Int) (x:Nat):List AV:=[.int .i64 (x:Int),.int .i64 rank,.int .i64 3,.int .i64 (-1)]
theorem Qbt (rank:Int) (l:List Nat):noRefs (l.flatMap (bkC rank))=true:=QaJ (fun x=>rfl) l
def lsC (rank:Int) (p:Nat×Nat):List AV:=[.int .i64 (p.1:Int),.int .i64 rank,.int .i64 2,.int .i64 (p.2:Int)]
theorem Qav (rank:Int) (l:List (Nat×Nat)):noRefs (l.flatMap (lsC rank))=true:=QaJ (fun x=>rfl) l
end Go.AM.SE
namespace Go.AM.SE
open Go.Proofs Go.AM.SD
theorem Qmv (l:List Int):flatVs (ints l)=true:=by
 induction l with
 |nil=>rfl
 |cons x l ih=>simp only[ints,List.map_cons,flatVs,flatV,Bool.true_and];exact ih
theorem FrzTo.all {h:Heap} {b g len sz:Nat} {cs:List AV} (hb:h.get b=some (.cells g cs)) (hl:cs.length=len*sz):FrzTo h (.sl b g 0 len sz) (.fsl cs len sz):=by
 refine FrzTo.sl hb (by omega) ?_
 rw[List.drop_zero,<-hl,List.take_length]
 exact FrzL.same _
theorem WfA.auOk {a:Aut} (h:WfA a) (hel:a.es.length<=1000000):AuOk (au a):=by
 have hal:a.al.length<=32:=QaQ 32 a.al (by rw[List.nodup_iff_pairwise_ne];exact h.al.imp fun h=>by omega) h.al5
 have hms:a.ms.length<=a.n:=QaQ a.n a.ms h.nd h.msn
 have hn5:=h.n5
 refine{len:=?_,all:=?_,fr:=?_,to:=?_,ev:=?_,up:=?_,alS:=SetOk.nz (n:=32) (fun x hx=>by have:=h.al5 x hx;omega) h.al,msS:=SetOk.nz h.msn h.ms,mslen:=?_,n0:=?_,nm:=?_}
 ·show(a.es.map eg).length<=_;simp;omega
 ·show(nz a.al).length<=_;simp;omega
 ·intro e he
  obtain⟨x,hx,rfl⟩:=List.mem_map.1 he
  have:=h.esn x hx
  show(0:Int)<=x.1/\(x.1:Int)<a.n
  omega
 ·intro e he
  obtain⟨x,hx,rfl⟩:=List.mem_map.1 he
  have:=h.esn x hx
  show(0:Int)<=x.2.2/\(x.2.2:Int)<a.n
  omega
 ·intro e he
  obtain⟨x,hx,rfl⟩:=List.mem_map.1 he
  exact List.mem_map.2 ⟨x.2.1,h.ev x hx,rfl⟩
 ·show (a.es.map eg).Pairwise _
  rw[List.pairwise_map]
  refine h.es.imp fun h=>?_
  show(_:Int)<_\/(_:Int)=_/\(_:Int)<_
  simp only[eg]
  omega
 ·show(nz a.ms).length<=_;simp;omega
 ·show(0:Int)<=(a.n:Int);omega
 ·show(a.n:Int)<=4096;omega
structure QOk (a:Aut) (f u:List Nat):Prop where
 fS:f.Pairwise (· < ·)
 fn:∀x∈f,x<a.n
 uS:u.Pairwise (· < ·)
 un:∀x∈u,x<32
theorem Qcp {l:List Nat} {n:Nat} (h:l.Pairwise (· < ·)) (hn:∀x∈l,x<n):l.length<=n:=QaQ n l (by rw[List.nodup_iff_pairwise_ne];exact h.imp fun h=>by omega) hn
end Go.AM.SE
namespace Go.AM
variable {P:Program}
end Go.AM
namespace Go.AM
variable {P:Program}
theorem HSpec.empty {f sz:Nat} {asg:List AV} {h h':Heap} {v:AV} (h1:HSpec P f (.nilsl::asg) h v h') (h2:HSpec P f (.nsl::asg) h v h'):HSpec P f (.fsl [] 0 sz::asg) h v h':=by
 obtain⟨hc,h1⟩:=h1
 obtain⟨_,h2⟩:=h2
 refine⟨hc,fun c w cargs H ha=>?_⟩
 simp only[VRels]at ha
 obtain⟨u,us,e,hv,hr⟩:=ha
 simp only[VRel]at hv
 rcases hv with⟨⟨a,rfl⟩,_⟩|⟨cb,off,cap,C,_,_,rfl,_⟩
 ·cases a with
  |none=>exact h1 c w cargs H (by rw[e];simp only[VRels];exact⟨_,_,rfl,by simp[VRel],hr⟩)
  |some a=>exact h2 c w cargs H (by rw[e];simp only[VRels];exact⟨_,_,rfl,by simp[VRel],hr⟩)
 ·exact h2 c w cargs H (by rw[e];simp only[VRels];exact⟨_,_,rfl,by simp[VRel],hr⟩)
end Go.AM
namespace Go.AM
end Go.AM
namespace Go.AM
variable {P:Program}
theorem HSpec.freeze {f b g len sz : Nat} {args ds : List AV} {h h1 : Heap} (S : HSpec P f args h (.sl b g 0 len sz) h1) (hb : h1.get b = some (.cells g ds)) (hf : flatVs ds = true) (hl : len * sz <= ds.length)
    (hlim:Nat.blt b 1099511627775=true):HSpec P f args h (.fsl (ds.take (len*sz)) len sz) (h1.set b (.dead g)):=by
  have hlim':b<1099511627775:=by simp_all
  obtain⟨hc,hs⟩:=S
  refine⟨hc,fun c w cargs H ha=>(hs c w cargs H ha).mono ?_⟩
  rintro e w' ⟨cv,c',rfl,E,H',V⟩
  have hlive:Live h1 b g:=⟨_,hb,rfl,fun _=>by simp⟩
  let c2:Ctx (okc P):={c' with F:=fun k=>c'.F k\/∃base,c'.ρ b g=some (.loc k base),O:=fun k=>c'.O k/\¬∃base,c'.ρ b g=some (.loc k base)}
  have hset:∀k,(h1.set b (.dead g)).get k=if k=b then some (.dead g)else h1.get k:=fun k=>by
    by_cases e:k=b
    · subst e;rw[QaR hlim',if_pos rfl]
    simp_all [Qa1]
  have hlv:∀k y,Live (h1.set b (.dead g)) k y->k≠b/\Live h1 k y:=by
    rintro k y ⟨x,hk,hg,hd⟩
    rw[hset]at hk
    split at hk
    · grind
    · rename_i e;exact⟨e,x,hk,hg,hd⟩
  have E2:Evo c w c2 w':=⟨E.os,E.tape,E.output,E.size,E.shape,E.keep,E.rho,fun k hk=> .inl (E.frz k hk),fun k hk=>by
    rcases hk with hk|⟨base,hk⟩
    · exact E.frzNew k hk
    · rcases E.own k (H'.owned hlive hk) with h | h
      · simp_all
      omega,fun k hk=>E.own k hk.1,E.base⟩
  refine⟨cv,c2,rfl,E2,⟨fun k hk y=>?_,fun k x hk y hlt=>?_,fun k x hk=>?_,fun k y k' y' cb base base' l1 l2 p1 p2=>H'.inj k y k' y' cb base base' (hlv _ _ l1).2 (hlv _ _ l2).2 p1 p2,fun k hF hO=>?_,fun k hF=>?_,fun k hO=>H'.inO k hO.1⟩,?_⟩
  · rw [hset] at hk
    split at hk
    · cases hk
    · exact H'.fresh k hk y
  · rw [hset] at hk
    split at hk
    · rename_i e; subst e; cases hk
      exact H'.later k _ hb y hlt
    · exact H'.later k x hk y hlt
  · rw [hset] at hk
    split at hk
    · cases hk;trivial
    · rename_i e
      refine BRel.mono (c:=c') (c':=c2) (w:=w') (w':=w') ⟨fun _ _ _ h=>h,fun _ h=> .inl h,fun _ _ _ h=>h,fun _ C _ fr h=>⟨C,fr,h,rfl⟩⟩ (fun cb base hd hp=>?_) (H'.blk k x hk)
      have hlk:Live h1 k x.gen:=⟨x,hk,rfl,hd⟩
      exact⟨⟨H'.owned hlk hp,fun⟨base',hp'⟩=>e (H'.inj _ _ _ _ _ _ _ hlk hlive hp hp')⟩,rfl⟩
  · rcases hF with hF | hF
    · exact H'.disj k hF hO.1
    grind
  · rcases hF with hF | ⟨base, hF⟩
    · exact H'.inF k hF
    · exact H'.inO k (H'.owned hlive hF)
  · simp only [VRel] at V
    rcases V with⟨hp,rfl,_,rfl⟩|⟨cb,base,o,cap,C,e,fr,hp,rfl,hlc,hC,hcap⟩
    · simp_all [VRel]
    · obtain ⟨C', e', fr', hO, hC', hfr, hbs, hpre⟩ := H'.here hb hp
      rw[hC]at hC';cases hC'
      have hF:c2.F cb:= .inr ⟨base,hp⟩
      by_cases h0:cap=0
      · have hl0 : len = 0 := by omega
        subst hl0
        simp only[VRel]
        simp_all
      · obtain ⟨rfl, hbd⟩ := hcap.resolve_left h0
        have hp2:=VPre.flat (c':=c2) (w':=w') hf hpre
        have hp3:=VPre_take2 (len*sz) hp2
        simp only[VRel]
        grind
where
  VPre_take2 {c:Ctx (okc P)} {w:World}:∀(n:Nat) {xs:List AV} {vs:List Value},VPre c w xs vs->VPre c w (xs.take n) vs
    |0,xs,vs,h=>by simp[VPre]
    |n+1,[],vs,h=>by simp[VPre]
    | n + 1, x :: xs, vs, h => by
      simp only[VPre]at h
      obtain⟨v,vs',rfl,h1,h2⟩:=h
      simp only[List.take_succ_cons,VPre]
      exact⟨v,vs',rfl,h1,VPre_take2 n h2⟩
end Go.AM
namespace Go.AM
variable {P:Program}
def OnlyD (D:Nat->Prop) (args:List AV):Prop:=∀(ok:Okc) (c c1:Ctx ok) (w:World) (vs:List Value),(∀b g,D b->c1.ρ b g=c.ρ b g)->(∀k,c.F k->c1.F k)->VRels c w args vs->VRels c1 w args vs
theorem OnlyD.nil {D:Nat->Prop}:OnlyD D []:=fun _ c c1 w vs _ _ h=>by grind [VRels]
theorem OnlyD.cons {D:Nat->Prop} {x:AV} {xs:List AV} (hx:OnlyD D [x]) (h:OnlyD D xs):OnlyD D (x::xs):=fun ok c c1 w vs h1 h2 hv=>by
 simp only[VRels]at hv⊢
 obtain⟨v,vs',rfl,h3,h4⟩:=hv
 have:=hx ok c c1 w [v] h1 h2 (by simp only[VRels];simp_all)
 simp only[VRels]at this
 obtain⟨v2,vs2,e,h5,_⟩:=this
 cases e
 exact⟨v,vs',rfl,h5,h _ c c1 w vs' h1 h2 h4⟩
theorem OnlyD.same {D:Nat->Prop} {x:AV} (hn:noRef x=true):OnlyD D [x]:=fun _ c c1 w vs h1 h2 hv=>by
 simp only[VRels]at hv⊢
 obtain⟨v,vs',rfl,h3,h4⟩:=hv
 exact⟨v,vs',rfl,VRel.noRef h2 _ _ hn h3,h4⟩
theorem OnlyD.sl {D:Nat->Prop} {b g off len sz:Nat} (hb:D b):OnlyD D [.sl b g off len sz]:=fun _ c c1 w vs h1 h2 hv=>by
 simp only[VRels]at hv⊢
 obtain⟨v,vs',rfl,h3,h4⟩:=hv
 refine⟨v,vs',rfl,?_,h4⟩
 simp_all [VRel]
theorem OnlyD.ptr {D:Nat->Prop} {b g off:Nat} (hb:D b):OnlyD D [.ptr b g off]:=fun _ c c1 w vs h1 h2 hv=>by
 simp only[VRels]at hv⊢
 obtain⟨v,vs',rfl,h3,h4⟩:=hv
 refine⟨v,vs',rfl,?_,h4⟩
 simp_all [VRel]
theorem OnlyD.fn {D:Nat->Prop} {f:Nat} {xs ys:List AV} (hx:OnlyD D xs) (hy:OnlyD D ys):OnlyD D [.fn f xs ys]:=fun ok c c1 w vs h1 h2 hv=>by
 simp only[VRels]at hv⊢
 obtain⟨v,vs',rfl,h3,h4⟩:=hv
 refine⟨v,vs',rfl,?_,h4⟩
 simp only[VRel]at h3⊢
 obtain⟨x',y',rfl,g1,g2⟩:=h3
 exact⟨x',y',rfl,hx ok c c1 w _ h1 h2 g1,hy ok c c1 w _ h1 h2 g2⟩
theorem OnlyD.map {D:Nat->Prop} {b g:Nat} (hb:D b):OnlyD D [.map b g]:=fun _ c c1 w vs h1 h2 hv=>by
 simp only[VRels]at hv⊢
 obtain⟨v,vs',rfl,h3,h4⟩:=hv
 refine⟨v,vs',rfl,?_,h4⟩
 simp_all [VRel]
def NoRefB:Blk->Prop
 | .cells _ cs=>noRefs cs=true
 | .map _ es=>∀e∈es,noRef e.1=true/\noRef e.2=true
 | .dead _=>True
 |_=>False
theorem VPre.noRef2 {ok:Okc} {c c':Ctx ok} {w:World} (hF:∀k,c.F k->c'.F k) {xs:List AV} {vs:List Value} (hn:noRefs xs=true) (h:VPre c w xs vs):VPre c' w xs vs:=VPre.noRef hF _ _ hn h
theorem MRel.noRef2 {ok:Okc} {c c':Ctx ok} {w:World} (hF:∀k,c.F k->c'.F k):∀{xs:List (AV×AV)} {es:List MapEntry} {clock:Nat},(∀e∈xs,noRef e.1=true/\noRef e.2=true)->MRel c w xs es clock->MRel c' w xs es clock
 |[],_,_,_,h=>h
 |(k,x)::r,es,clock,hn,h=>by
  obtain⟨e,es',h1,h2,h3,h4,h5,h6⟩:=h
  obtain⟨q1,q2⟩:=hn (k,x) (by simp)
  exact⟨e,es',h1,VRel.noRef hF _ _ q1 h2,VRel.noRef hF _ _ q2 h3,h4,h5,MRel.noRef2 hF (fun e he=>hn e (by simp[he])) h6⟩
theorem NoRefB.rel {ok:Okc} {c c':Ctx ok} {w:World} {b:Nat} {x:Blk} (hx:NoRefB x) (hF:∀k,c.F k->c'.F k) (hr:∀g,c'.ρ b g=c.ρ b g) (hO:∀k g base,c.ρ b g=some (.loc k base)->(∀j,x≠ .dead j)->x.gen=g->c.O k->c'.O k) (h:BRel c w b x):BRel c' w b x:=by
 cases x with
 |dead g=>trivial
 |map g es=>
  obtain⟨cb,es',clock,h1,h2,h3,h4⟩:=h
  exact⟨cb,es',clock,(hr _).trans h1,hO cb g 0 h1 (fun _=>by simp) rfl h2,h3,MRel.noRef2 hF hx h4.1,h4.2⟩
 |loop=>exact hx.elim
 |cells g cs=>
  rcases h with⟨h1,h2⟩|⟨cb,base,C,e,fr,h1,h2,h3,h4,h5,h6⟩
  ·exact .inl ⟨(hr _).trans h1,h2⟩
  ·exact .inr ⟨cb,base,C,e,fr,(hr _).trans h1,hO cb g base h1 (fun _=>by simp) rfl h2,h3,h4,h5,VPre.noRef2 hF hx h6⟩
theorem HSpec.frame {f : Nat} {args : List AV} {v : AV} {h h1 h1' h' : Heap} (D : Nat -> Prop) [DecidablePred D] (hs : HSpec P f args h1 v h1') (ha : OnlyD D args) (hv : OnlyD D [v])
    (e1:∀k,h1.get k=if D k then h.get k else none) (e2:∀k,¬D k->h1'.get k=none) (e3:∀k,h'.get k=if D k then h1'.get k else h.get k)
    (n1:∀k x,h1.get k=some x->NoRefB x) (n2:∀k x,h1'.get k=some x->NoRefB x):HSpec P f args h v h':=by
  obtain⟨hc,hs⟩:=hs
  refine⟨hc,fun c w cargs H hargs=>?_⟩
  let c1:Ctx (okc P):={ρ:=fun k y=>if D k then c.ρ k y else none,F:=c.F,O:=fun k=>∃b g base,D b/\Live h b g/\c.ρ b g=some (.loc k base),base:=c.base}
  have hr1:∀b y,D b->c1.ρ b y=c.ρ b y:=fun b y hb=>if_pos hb
  have hO1:∀k,c1.O k->c.O k:=fun k ⟨b,g,base,_,hl,hk⟩=>H.owned hl hk
  have hg1:∀{k x},h1.get k=some x->D k/\h.get k=some x:=fun{k x} hk=>by
    simp_all
  have hl1:∀{k y},Live h1 k y->D k/\Live h k y:=fun{k y} ⟨x,hk,hx,hd⟩=>⟨(hg1 hk).1,x,(hg1 hk).2,hx,hd⟩
  have H1:HRel c1 h1 w:=by
    refine⟨fun k hk y=>?_,fun k x hk y hlt=>?_,fun k x hk=>?_,fun k y k' y' cb base base' l1 l2 p1 p2=>?_,fun k hF hO=>H.disj k hF (hO1 k hO),H.inF,fun k hO=>H.inO k (hO1 k hO)⟩
    · rw [e1] at hk
      split at hk
      · rename_i hd;rw[hr1 _ _ hd];exact H.fresh k hk y
      grind
    · obtain ⟨hd, hk⟩ := hg1 hk
      rw[hr1 _ _ hd];exact H.later k _ hk y hlt
    · obtain ⟨hd, hk2⟩ := hg1 hk
      exact NoRefB.rel (c:=c) (c':=c1) (n1 k x hk) (fun _ h=>h) (fun g=>hr1 k g hd) (fun cb g base hp hne hgen _=>⟨k,g,base,hd,⟨x,hk2,hgen,hne⟩,hp⟩) (H.blk k x hk2)
    · obtain ⟨d1, l1⟩ := hl1 l1
      obtain⟨d2,l2⟩:=hl1 l2
      rw[hr1 _ _ d1]at p1
      rw[hr1 _ _ d2]at p2
      exact H.inj _ _ _ _ _ _ _ l1 l2 p1 p2
  refine(hs c1 w cargs H1 (ha _ c c1 w _ (fun b g hb=>hr1 b g hb) (fun _ h=>h) hargs)).mono ?_
  rintro e w' ⟨cv,c',rfl,E,H',V⟩
  let c2:Ctx (okc P):={ρ:=fun k y=>if D k then c'.ρ k y else c.ρ k y,F:=c'.F,O:=fun k=>c'.O k\/(c.O k/\¬c1.O k),base:=c.base}
  have hrD:∀b y,D b->c2.ρ b y=c'.ρ b y:=fun b y hb=>if_pos hb
  have hrN:∀b y,¬D b->c2.ρ b y=c.ρ b y:=fun b y hb=>if_neg hb
  have E2:Evo c w c2 w':=by
    refine⟨E.os,E.tape,E.output,E.size,E.shape,fun k hk hO=>E.keep k hk fun h=>hO (hO1 k h),fun b y p hp=>?_,fun k hk=>E.frz k hk,fun k hk=>?_,fun k hk=>?_,rfl⟩
    · by_cases hd : D b
      · rw[hrD _ _ hd];exact E.rho b y p ((hr1 _ _ hd).trans hp)
      simp_all
    · rcases E.frzNew k hk with h | h | h
      · exact .inl h
      · simp_all
      omega
    · rcases hk with hk | hk
      · rcases E.own k hk with h | h
        · simp_all
        · exact .inr h
      simp_all
  have hg3:∀{k x},h'.get k=some x->(D k/\h1'.get k=some x)\/(¬D k/\h.get k=some x):=fun{k x} hk=>by
    grind
  have hl3:∀{k y},Live h' k y->(D k/\Live h1' k y)\/(¬D k/\Live h k y):=fun{k y} ⟨x,hk,hx,hd⟩=>by
    rcases hg3 hk with⟨q1,q2⟩|⟨q1,q2⟩
    · exact .inl ⟨q1,x,q2,hx,hd⟩
    · exact .inr ⟨q1,x,q2,hx,hd⟩
  have hout:∀{k y cb base},¬D k->Live h k y->c.ρ k y=some (.loc cb base)->¬c1.O cb:=by
    rintro k y cb base hd hl hp ⟨b,g,base',hb,hlb,hpb⟩
    have:=H.inj _ _ _ _ _ _ _ hl hlb hp hpb
    simp_all
  have hcross:∀{k y k' y' cb base base'},D k->Live h1' k y->c'.ρ k y=some (.loc cb base)->¬D k'->Live h k' y'->c.ρ k' y'=some (.loc cb base')->False:=by
    intro k y k' y' cb base base' hd l1 p1 hd' l2 p2
    rcases E.own cb (H'.owned l1 p1)with h|h
    · grind
    · have:=H.inO cb (H.owned l2 p2);omega
  refine⟨cv,c2,rfl,E2,⟨fun k hk y=>?_,fun k x hk y hlt=>?_,fun k x hk=>?_,fun k y k' y' cb base base' l1 l2 p1 p2=>?_,fun k hF hO=>?_,H'.inF,fun k hO=>?_⟩,?_⟩
  · rw [e3] at hk
    split at hk
    · rename_i hd;rw[hrD _ _ hd];exact H'.fresh k hk y
    · rename_i hd;rw[hrN _ _ hd];exact H.fresh k hk y
  · rcases hg3 hk with ⟨hd, hk⟩ | ⟨hd, hk⟩
    · rw[hrD _ _ hd];exact H'.later k x hk y hlt
    · rw[hrN _ _ hd];exact H.later k x hk y hlt
  · rcases hg3 hk with ⟨hd, hk⟩ | ⟨hd, hk⟩
    · exact NoRefB.rel (c:=c') (c':=c2) (n2 k x hk) (fun _ h=>h) (fun g=>hrD k g hd) (fun cb g base hp hne hgen hO=> .inl hO) (H'.blk k x hk)
    · refine BRel.mono (E2.ext H.disj) (fun cb base hne hp => ?_) (H.blk k x hk)
      have hl:Live h k x.gen:=⟨x,hk,rfl,hne⟩
      have hO:=H.owned hl hp
      have hn:=hout hd hl hp
      exact⟨.inr ⟨hO,hn⟩,E.keep cb (H.inO cb hO) hn⟩
  · rcases hl3 l1 with ⟨d1, l1⟩ | ⟨d1, l1⟩
    · rw [hrD _ _ d1] at p1
      rcases hl3 l2 with⟨d2,l2⟩|⟨d2,l2⟩
      · rw [hrD _ _ d2] at p2
        exact H'.inj _ _ _ _ _ _ _ l1 l2 p1 p2
      grind
    · rw [hrN _ _ d1] at p1
      rcases hl3 l2 with⟨d2,l2⟩|⟨d2,l2⟩
      · grind
      · rw [hrN _ _ d2] at p2
        exact H.inj _ _ _ _ _ _ _ l1 l2 p1 p2
  · rcases hO with hO | ⟨hO, hn⟩
    · exact H'.disj k hF hO
    · rcases E.frzNew k hF with h | h | h
      · exact H.disj k h hO
      · exact hn h
      · have:=H.inO k hO;omega
  · rcases hO with hO | ⟨hO, _⟩
    · exact H'.inO k hO
    · exact Nat.lt_of_lt_of_le (H.inO k hO) E.size
  · have h5 : VRels c' w' [v] [cv] := by simp only [VRels]; simp_all
    have h6:=hv _ c' c2 w' [cv] (fun b g hb=>hrD b g hb) (fun _ h=>h) h5
    simp_all [VRels]
theorem Qby {b:Nat} {x:Blk} (hb:b<1099511627775) (k:Nat):(hp [(b,x)]).get k=if k=b then some x else none:=by
 simp only[hp]
 by_cases e:k=b
 ·subst e;rw[QaR hb,if_pos rfl]
 simp_all [Qa1,get_e]
theorem QdX {b c:Nat} {x y:Blk} (hb:b<1099511627775) (hc:c<1099511627775) (k:Nat):(hp [(b,x),(c,y)]).get k=if k=b then some x else if k=c then some y else none:=by
 rw[Qcd]
 by_cases e:k=b
 ·subst e;rw[QaR hb,if_pos rfl]
 simp_all [Qa1,Qby]
theorem HSpec.frameA {f b g g':Nat} {args xs ys:List AV} {v:AV} {h:Heap} (hs:HSpec P f args (hp [(b,.cells g xs)]) v (hp [(b,.cells g' ys)])) (ha:OnlyD (fun k=>k=b) args) (hv:OnlyD (fun k=>k=b) [v]) (hx:noRefs xs=true) (hy:noRefs ys=true)
  (hb:h.get b=some (.cells g xs)) (hlim:Nat.blt b 1099511627775=true):HSpec P f args h v (h.set b (.cells g' ys)):=by
 have hlim':b<1099511627775:=by simp_all
 refine HSpec.frame (fun k=>k=b) hs ha hv (fun k=>?_) (fun k hk=>?_) (fun k=>?_) (fun k x hk=>?_) (fun k x hk=>?_)
 ·rw [Qby hlim']
  simp_all
 ·simp_all [Qby]
 ·rw [Qby hlim']
  by_cases e:k=b
  ·subst e;rw[if_pos rfl,if_pos rfl,QaR hlim']
  simp_all [Qa1]
 ·rw [Qby hlim'] at hk
  split at hk
  ·cases hk;exact hx
  ·cases hk
 ·rw [Qby hlim'] at hk
  split at hk
  ·cases hk;exact hy
  ·cases hk
theorem HSpec.frameM {f b g g':Nat} {args:List AV} {xs ys:List (AV×AV)} {v:AV} {h:Heap} (hs:HSpec P f args (hp [(b,.map g xs)]) v (hp [(b,.map g' ys)])) (ha:OnlyD (fun k=>k=b) args) (hv:OnlyD (fun k=>k=b) [v]) (hx:∀e∈xs,noRef e.1=true/\noRef e.2=true) (hy:∀e∈ys,noRef e.1=true/\noRef e.2=true)
  (hb:h.get b=some (.map g xs)) (hlim:Nat.blt b 1099511627775=true):HSpec P f args h v (h.set b (.map g' ys)):=by
 have hlim':b<1099511627775:=by simp_all
 refine HSpec.frame (fun k=>k=b) hs ha hv (fun k=>?_) (fun k hk=>?_) (fun k=>?_) (fun k x hk=>?_) (fun k x hk=>?_)
 ·rw [Qby hlim']
  simp_all
 ·simp_all [Qby]
 ·rw [Qby hlim']
  by_cases e:k=b
  ·subst e;rw[if_pos rfl,if_pos rfl,QaR hlim']
  simp_all [Qa1]
 ·rw [Qby hlim'] at hk
  split at hk
  ·cases hk;exact hx
  ·cases hk
 ·rw [Qby hlim'] at hk
  split at hk
  ·cases hk;exact hy
  ·cases hk
theorem HSpec.frameB {f a ga b g g':Nat} {args us xs ys:List AV} {v:AV} {h:Heap} (hs:HSpec P f args (hp [(a,.cells ga us),(b,.cells g xs)]) v (hp [(a,.cells ga us),(b,.cells g' ys)])) (ha:OnlyD (fun k=>k=a\/k=b) args) (hv:OnlyD (fun k=>k=a\/k=b) [v])
  (hu:noRefs us=true) (hx:noRefs xs=true) (hy:noRefs ys=true) (ha2:h.get a=some (.cells ga us)) (hb:h.get b=some (.cells g xs)) (hab:a≠b) (hlima:Nat.blt a 1099511627775=true) (hlim:Nat.blt b 1099511627775=true):HSpec P f args h v (h.set b (.cells g' ys)):=by
 have hl1:a<1099511627775:=by simp_all
 have hl2:b<1099511627775:=by simp_all
 refine HSpec.frame (fun k=>k=a\/k=b) hs ha hv (fun k=>?_) (fun k hk=>?_) (fun k=>?_) (fun k x hk=>?_) (fun k x hk=>?_)
 ·rw [QdX hl1 hl2]
  grind
 ·simp_all [QdX]
 ·rw [QdX hl1 hl2]
  by_cases e:k=a
  ·subst e;rw[if_pos rfl,if_pos (.inl rfl),Qa1 hl2 hab,ha2]
  ·rw [if_neg e]
   by_cases e2:k=b
   ·subst e2;rw[if_pos rfl,if_pos (.inr rfl),QaR hl2]
   simp_all [Qa1]
 ·rw [QdX hl1 hl2] at hk
  split at hk
  ·cases hk;exact hu
  ·split at hk
   ·cases hk;exact hx
   ·cases hk
 ·rw [QdX hl1 hl2] at hk
  split at hk
  ·cases hk;exact hu
  ·split at hk
   ·cases hk;exact hy
   ·cases hk
theorem HSpec.QkL {f m:Nat} {sf:SFn} {args:List AV} {L0 L:HL} {v:AV} (n:Nat) (hok:okFn P f sf=true) (hl:Nat.ble args.length sf.n=true) (hm:(Nat.ble m 1099511627775&&L0.all fun p=>Nat.blt p.1 m)=true)
  (hw:wS P ⟨sf.n,m⟩ sf.body [] n (argT 0 args) (hp L0) fun e T k _=>(e= .normal\/e= .ret)/\∃vs,resV T k sf.res=some vs/\Rec m [(0,v)] L [(0,resOf vs)] k):HSpec P f args (hp L0) v (hp L):=by
 simp only[Bool.and_eq_true,Nat.ble_eq]at hm
 refine HSpec.of_W2 hok (Nat.le_of_ble_eq_true hl) (fun b hb=>?_) ((wpC.toW hw).mono ?_)
 ·have : ∀ M : HL, M.all (fun p => Nat.blt p.1 m) = true -> (hp M).get b = none := by
   intro M
   induction M with
   |nil=>intro _;exact get_e
   |cons q M ih=>
    obtain⟨j,x⟩:=q
    intro hM
    simp only[List.all_cons,Bool.and_eq_true,Nat.blt,Nat.ble_eq]at hM
    rw[Qcd,Qa1 (by omega) (by omega)];exact ih (by grind [Nat.blt])
  grind
 ·rintro e B ⟨n', h1, vs, h2, ps, ho, hro, hb, ht⟩
  exact⟨h1,vs,_,h2,Rec.maps ho hb,Rec.heap ho hb,Rec.dom ho hro,ht 0⟩
end Go.AM
namespace Go.AM.SU
open Go.Proofs Go.AM.SD Go.AM.SE
theorem not92 (A:List Nat) (x:Nat) (hA:A.length<=1000000):PSpec Tryz.prog 94 [.int .i64 (x:Int),.fptr [sliN A]] (.bool (!decide (x∈A))):=by
 refine PSpec.Qag 64 ok94 rfl (by simp only[noRefs,noRef,Qaa];rfl) rfl ?_
 have h:=contains62 (nz A) x (by simp;omega)
 have e:decide ((x:Int)∈nz A)=decide (x∈A):=by
  refine decide_eq_decide.2 ⟨fun h=>?_,fun h=>List.mem_map.2 ⟨x,h,rfl⟩⟩
  obtain⟨a,h1,h2⟩:=List.mem_map.1 h
  have:a=x:=by omega
  exact this▸h1
 rw[e,Qb3]at h
 simp(disch:=first|omega|(simp only[lenW]<;>omega)) only[s94,Bool.not_eq_true,wW,wV,simprocAttr]
 refine cp h ?_
 simp(disch:=first|omega|(simp only[lenW]<;>omega)) only[Bool.not_eq_true,wW,wV,simprocAttr]
 exact⟨.inr trivial,_,rfl,rfl⟩
def fstN (A l:List Nat):Int:=if l.all (fun x=>decide (x∈A))then-1 else(l.findIdx (fun x=> !decide (x∈A)):Int)
theorem cpc {P:Program} {N:NM} {r:List SOper} {dead:List Nat} {fs:List Fr} {n:Nat} {T:Tmps} {h:Heap} {Q:QC} {d:Option Nat} {f:Nat} {args a c:List AV} {v:AV} (hp:PSpec P f (a++args++c) v) (k:wR P N r dead fs (n+1) (putD T d v) h Q):wCall P N .heap (.fn f a c) args d r dead fs n T h Q:=⟨v,h,hp.toH h,k⟩
theorem chc {P:Program} {N:NM} {r:List SOper} {dead:List Nat} {fs:List Fr} {n:Nat} {T:Tmps} {h h1:Heap} {Q:QC} {d:Option Nat} {f:Nat} {args a c:List AV} {v:AV} (hp:HSpec P f (a++args++c) h v h1) (k:wR P N r dead fs (n+1) (putD T d v) h1 Q):wCall P N .heap (.fn f a c) args d r dead fs n T h Q:=⟨v,h1,hp,k⟩
theorem _root_.Go.AM.au3 {p:Prop} (h:p:=by repeat' (first|exact RB.nil|(refine RnL.same ?_;first|rfl|(simp only[noRef,noRefs,Qaf,Bool.and_self,Bool.and_true,Bool.true_and,Qaa,Qan,Qab];done))|exact RnM.keyM rfl|exact RnL.nil|exact(True.intro:RnM _ _ _ [] [])|refine RnL.cons ?_ ?_|(refine Rn.same ?_;first|rfl|(simp only[noRef,noRefs,Qaf,Bool.and_self,Bool.and_true,Bool.true_and,Qaa,Qan,Qab];done))|exact Rn.x1 rfl rfl|exact Rn.x2 rfl rfl|exact Rn.x3 rfl rfl|exact Rn.x4 rfl rfl|exact Rn.x5 rfl|exact Rn.x6 rfl|exact Rn.x7 rfl|refine RB.newnil rfl rfl ?_|refine RB.cells rfl rfl rfl ?_ ?_|refine RB.map rfl rfl rfl ?_ ?_|refine RB.cellsB rfl rfl ?_ ?_|refine RB.mapB rfl rfl ?_ ?_)):p:=h
theorem _root_.Go.AM.au4 {p:Prop} (h:p:=by repeat (first|exact RT.nil|(refine RT.cons ?_ ?_; · (first|exact Rn.any|exact Rn.x1 rfl rfl|exact Rn.x2 rfl rfl|exact Rn.x3 rfl rfl|exact Rn.x4 rfl rfl|exact Rn.x5 rfl|exact Rn.x6 rfl|exact Rn.x7 rfl|(refine Rn.slot ?_ ?_;(first|rfl|(rw[Int.natCast_add];rfl));(first|rfl|(simp only[noRef,noRefs,Qaf,Bool.and_self,Bool.and_true,Bool.true_and,Qaa,Qan,Qab];done)))|(refine Rn.fn ?_ ?_<;>(repeat' (first|exact RnL.nil|refine RnL.cons ?_ ?_|exact Rn.same rfl|exact Rn.x6 rfl|exact Rn.x2 rfl rfl|exact Rn.x5 rfl|exact Rn.x1 rfl rfl))))))):p:=h
theorem index110 (A l : List Nat) (hA : A.length <= 1000000) (hl : l.length <= 1000000) : PSpec Tryz.prog 151 [sliN l, .fn 94 [] [.fptr [sliN A]]] (.int .i64 (fstN A l)) := by
  refine PSpec.Qag 64 ok151 rfl (by simp only[noRefs,noRef,Qaa];rfl) rfl ?_
  simp(disch:=first|omega|(simp only[lenW]<;>omega)) only[s151,Bool.not_eq_true,wW,wV,simprocAttr]
  refine Qal 100 (fun i:Nat=>[(0,sliN l),(1,.fn 94 [] [.fptr [sliN A]]),(7,.int .i64 l.length),(8,.int .i64 i)]) (fun _=>[]) (fun i=>i<=l.length/\∀(j:Nat) y,j<i->l[j]?=some y->y∈A) (fun i=>l.length-i) 0 ⟨[],rfl,au0,au3,au4⟩ ⟨Nat.zero_le _,fun j y hj=>absurd hj (Nat.not_lt_zero _)⟩ ?_
  rintro i ⟨hi,hb⟩
  by_cases hlt:i<l.length
  · obtain ⟨x, hx⟩ := Qad hlt
    have hn:=not92 A x hA
    by_cases h0:x∈A
    · have e : (!decide (x ∈ A)) = false := by simp [h0]
      rw[e]at hn
      simp(disch:=first|omega|(simp only[lenW]<;>omega)) only[hlt,QaN hx,Bool.not_eq_true,wW,wV,simprocAttr]
      refine cpc hn ?_
      simp(disch:=first|omega|(simp only[lenW]<;>omega)) only[Bool.not_eq_true,wW,wV,simprocAttr]
      refine⟨i+1,by omega,⟨by omega,fun j y hj hy=>?_⟩,⟨[],rfl,au0,au3,au4⟩⟩
      by_cases e:j=i
      · subst e;rw[hx]at hy;cases hy;exact h0
      · exact hb j y (by omega) hy
    · have e : (!decide (x ∈ A)) = true := by simp [h0]
      rw[e]at hn
      simp(disch:=first|omega|(simp only[lenW]<;>omega)) only[hlt,QaN hx,Bool.not_eq_true,wW,wV,simprocAttr]
      refine cpc hn ?_
      simp(disch:=first|omega|(simp only[lenW]<;>omega)) only[Bool.not_eq_true,wW,wV,simprocAttr]
      refine⟨.inr trivial,_,rfl,?_⟩
      have h1:¬l.all (fun x=>decide (x∈A))=true:=by
        intro h;exact h0 (by simpa using List.all_eq_true.1 h x (List.mem_of_getElem? hx))
      have h2:l.findIdx (fun x=> !decide (x∈A))=i:=by
        rw[List.findIdx_eq hlt]
        refine⟨by rw[List.getElem?_eq_getElem hlt]at hx;cases hx;simp[h0],fun j hj=>?_⟩
        have:=hb j l[j] hj (List.getElem?_eq_getElem (by omega))
        simpa using this
      unfold fstN
      rw[if_neg h1,h2];rfl
  · have h1 : l.all (fun x => decide (x ∈ A)) = true := by
      rw[List.all_eq_true]
      intro x hx
      obtain⟨j,hj,hjl⟩:=List.getElem_of_mem hx
      simpa using hb j x (by omega) (by rw[List.getElem?_eq_getElem hj,hjl])
    simp(disch:=first|omega|(simp only[lenW]<;>omega)) only[hlt,Bool.not_eq_true,wW,wV,simprocAttr]
    refine⟨.inr trivial,_,rfl,?_⟩
    unfold fstN
    rw[if_pos h1];rfl
theorem QdL {cs vs:List AV} {off:Nat} (h:off<cs.length):putR cs off vs=cs.take off++vs++cs.drop (off+vs.length):=by
 unfold putR
 split
 ·rename_i v
  rw[List.set_eq_take_append_cons_drop,if_pos h];simp
 ·rfl
theorem Qjm {P:Program} {N:NM} {d:Option Nat} {r:List SOper} {dead:List Nat} {fs:List Fr} {n:Nat} {T:Tmps} {h:Heap} {Q:QC} {b g off len sz:Nat} {cs zero:List AV} (hb:h.get b=some (.cells g cs)) (h0:0<len) (hl:off+len*sz<=cs.length) (hz:zero.length=sz) (ho:zero.all AV.one=true) (hlim:b<lim)
  (hk:wR P N r dead fs (n+1) (putD T d .any) (h.set b (.cells g (putR cs off (List.replicate len zero).flatten))) Q):wM P N (aClear sz zero (.sl b g off len sz)) d r dead fs n T h Q:=by
 obtain⟨k,rfl⟩:∃k,len=k+1:=⟨len-1,by omega⟩
 refine⟨_,_,?_,hk⟩
 have hg:Nat.beq g g=true:=by simp
 have hlim2:Nat.blt b lim=true:=by simpa using hlim
 simp only[aClear,if_true,HM.cells,HM.run,hb,hg,cond_true]
 rw[if_pos ⟨hl,hz,ho⟩]
 simp only[HM.run,hlim2,cond_true]
def fltN (A l:List Nat):List Nat:=l.filter fun x=>decide (x∈A)
theorem Qjn {A l:List Nat} {j v:Nat} (h:l[j]?=some v):fltN A (l.take (j+1))=if v∈A then fltN A (l.take j)++[v]else fltN A (l.take j):=by
 unfold fltN
 rw[List.take_add_one,h,Option.toList,List.filter_append]
 by_cases hv:v∈A<;>simp[hv]
def delL (A l:List Nat):List Nat:=fltN A l++List.replicate (l.length-(fltN A l).length) 0
theorem Qoh {A l:List Nat} (h:l.all (fun x=>decide (x∈A))=true):fltN A l=l:=by
 unfold fltN
 exact List.filter_eq_self.2 fun x hx=>List.all_eq_true.1 h x hx
theorem Qnv {k:Nat}:(List.replicate k [AV.int .i64 0]).flatten=ints (nz (List.replicate k 0)):=by
 induction k with
 |zero=>rfl
 |succ k ih=>rw[List.replicate_succ,List.flatten_cons,ih];rfl
theorem Qmw {l:List Nat} {i:Nat}:(ints (nz l)).take i=ints (nz (l.take i)):=by simp[ints,nz,List.map_take]
theorem QkM {l:List Nat} {i x:Nat} (h:l[i]?=some x):(ints (nz l))[i]?=some (.int .i64 (x:Int)):=by simp[ints,h]
theorem del40 (A l : List Nat) (hA : A.length <= 1000000) (hl : l.length <= 1000000) :
    HSpec Tryz.prog 93 [.sl 98 0 0 l.length 1,.fn 94 [] [.ptr 75 0 0]] (hp [(75,.cells 0 [sliN A]),(98,.cells 0 (ints (nz l)))]) (.sl 98 0 0 (fltN A l).length 1) (hp [(75,.cells 0 [sliN A]),(98,.cells 0 (ints (nz (delL A l))))]):=by
  refine HSpec.QkL (m:=99) 100 ok93 rfl rfl ?_
  have hn:(ints (nz l)).length=l.length*1:=by simp[ints]
  simp(disch:=first|omega|(simp only[lenW]<;>omega)) only[s93,Bool.not_eq_true,wW,wV,simprocAttr]
  refine chc (HSpec.lend (FrzL.cons (FrzTo.all gg hn) (FrzL.cons (FrzTo.fn FrzL.nil (FrzL.cons (FrzTo.ptr (g:=0) (cs:=[sliN A]) gg (FrzL.cons (FrzTo.same _) FrzL.nil)) FrzL.nil)) FrzL.nil)) (index110 A l hA hl) rfl) ?_
  by_cases hall:l.all (fun x=>decide (x∈A))=true
  · have e1 : fstN A l = -1 := if_pos hall
    simp(disch:=first|omega|(simp only[lenW]<;>omega)) only[e1,Bool.not_eq_true,wW,wV,simprocAttr]
    refine⟨.inr trivial,_,rfl,?_⟩
    unfold delL;rw[Qoh hall,Nat.sub_self,List.replicate_zero,List.append_nil]
    exact⟨[(75,.nil),(98,.nil)],rfl,au0,au3,au4⟩
  have e1:fstN A l=(l.findIdx (fun x=> !decide (x∈A)):Int):=if_neg hall
  have hex:∃x∈l,(!decide (x∈A))=true:=by
    have:¬∀x∈l,decide (x∈A)=true:=fun h=>hall (List.all_eq_true.2 h)
    obtain⟨x,hx⟩:=Classical.not_forall.1 this
    obtain⟨hx,hy⟩:=Classical.not_imp.1 hx
    exact⟨x,hx,by simpa using hy⟩
  have hi0:l.findIdx (fun x=> !decide (x∈A))<l.length:=List.findIdx_lt_length_of_exists hex
  obtain⟨i0,hI⟩:∃i0,i0=l.findIdx (fun x=> !decide (x∈A)):=⟨_,rfl⟩
  rw[<-hI]at e1 hi0
  have hv0:l[i0]∉A:=by
    have:=List.findIdx_getElem (w:=by rw[<-hI];exact hi0) (xs:=l) (p:=fun x=> !decide (x∈A))
    simp only[<-hI]at this
    simpa using this
  have hlow:fltN A (l.take i0)=l.take i0:=by
    unfold fltN
    refine List.filter_eq_self.2 fun x hx=>?_
    obtain⟨j,hj,rfl⟩:=List.getElem_of_mem hx
    rw[List.length_take]at hj
    have:=List.not_of_lt_findIdx (xs:=l) (p:=fun x=> !decide (x∈A)) (i:=j) (by rw[<-hI];omega)
    rw[List.getElem_take]
    simpa using this
  have hst:fltN A (l.take (i0+1))=l.take i0:=by
    rw[Qjn (List.getElem?_eq_getElem hi0),if_neg hv0,hlow]
  have hne:¬(i0:Int)= -1:=by omega
  simp(disch:=first|omega|(simp only[lenW]<;>omega)) only[e1,hne,Bool.not_eq_true,wW,wV,simprocAttr]
  refine Qal 110 (fun t:Nat×Nat×List Nat=>[(0,.sl 98 0 0 l.length 1),(1,.fn 94 [] [.ptr 75 0 0]),(5,.int .i64 t.2.1),(6,.int .i64 t.1)])
    (fun t=>[(75,.cells 0 [sliN A]),(98,.cells 0 (ints (nz t.2.2)))]) (fun t=>t.1<=l.length/\t.2.1<t.1/\t.2.2.length=l.length/\t.2.2.take t.2.1=fltN A (l.take t.1)/\t.2.2.drop t.1=l.drop t.1) (fun t=>l.length-t.1)
    (i0+1,i0,l) ⟨[(75,.nil),(98,.nil)],rfl,au0,au3,au4⟩ ⟨by dsimp only;omega,by dsimp only;omega,rfl,hst.symm,rfl⟩ ?_
  rintro⟨j,i,C⟩ ⟨hj,hij,hC,hT,hD⟩
  dsimp only at hj hij hC hT hD⊢
  by_cases hlt:j<l.length
  · obtain ⟨v, hv⟩ := Qad hlt
    have hvC:C[j]?=some v:=by
      have:(C.drop j)[0]?=(l.drop j)[0]?:=by rw[hD]
      simpa[hv]using this
    have hs:=Qjn (A:=A) hv
    have hn2:=not92 A v hA
    by_cases hm:v∈A
    · have e2 : (!decide (v ∈ A)) = false := by simp [hm]
      rw[e2]at hn2
      rw[if_pos hm]at hs
      simp(disch:=first|omega|(simp only[lenW]<;>omega)) only[hlt,hC,QkM hvC,Bool.not_eq_true,wW,wV,simprocAttr]
      refine chc (HSpec.lend (FrzL.cons (FrzTo.same _) (FrzL.cons (FrzTo.ptr (g:=0) (cs:=[sliN A]) gg (FrzL.cons (FrzTo.same _) FrzL.nil)) FrzL.nil)) hn2 rfl) ?_
      have hil:i<l.length:=by omega
      have hset:(ints (nz C)).set i (.int .i64 (v:Int))=ints (nz (C.set i v)):=by simp[ints,nz,List.map_set]
      have hil1:i+1<=(ints (nz C)).length:=by simp[ints,hC];omega
      have hil2:i+1<=l.length:=by omega
      simp(disch:=first|omega|(simp only[lenW]<;>omega)) only[hil,hC,hset,hil1,hil2,Bool.not_eq_true,wW,wV,simprocAttr]
      refine⟨(j+1,i+1,C.set i v),by dsimp only;omega,⟨by dsimp only;omega,by dsimp only;omega,by simp[hC],?_,?_⟩,?_⟩
      · dsimp only
        rw[hs,<-hT,List.take_add_one,List.getElem?_set_self (by omega),List.take_set,List.set_eq_of_length_le (by rw[List.length_take];omega)];rfl
      · dsimp only
        rw[List.drop_set_of_lt (by omega)]
        have:=congrArg (List.drop 1) hD
        simpa[List.drop_drop]using this
      · exact⟨[(75,.nil),(98,.nil)],rfl,au0,au3,au4⟩
    · have e2 : (!decide (v ∈ A)) = true := by simp [hm]
      rw[e2]at hn2
      rw[if_neg hm]at hs
      simp(disch:=first|omega|(simp only[lenW]<;>omega)) only[hlt,hC,QkM hvC,Bool.not_eq_true,wW,wV,simprocAttr]
      refine chc (HSpec.lend (FrzL.cons (FrzTo.same _) (FrzL.cons (FrzTo.ptr (g:=0) (cs:=[sliN A]) gg (FrzL.cons (FrzTo.same _) FrzL.nil)) FrzL.nil)) hn2 rfl) ?_
      simp(disch:=first|omega|(simp only[lenW]<;>omega)) only[Bool.not_eq_true,wW,wV,simprocAttr]
      refine⟨(j+1,i,C),by dsimp only;omega,⟨by dsimp only;omega,by dsimp only;omega,hC,by rw[hs];exact hT,?_⟩,?_⟩
      · dsimp only
        have:=congrArg (List.drop 1) hD
        simpa[List.drop_drop]using this
      · exact⟨[(75,.nil),(98,.nil)],rfl,au0,au3,au4⟩
  · have ej : j = l.length := by omega
    subst ej
    rw[List.take_length]at hT
    have hil:(i:Int)<=(l.length:Int):=by omega
    simp(disch:=first|omega|(simp only[lenW]<;>omega)) only[hlt,hil,Bool.not_eq_true,wW,wV,simprocAttr]
    refine Qjm gg (by omega) (by simp[ints,hC];omega) rfl rfl (by decide) ?_
    simp(disch:=first|omega|(simp only[lenW]<;>omega)) only[hil,Bool.not_eq_true,wW,wV,simprocAttr]
    refine⟨.inr trivial,_,rfl,?_⟩
    have hfl:(fltN A l).length=i:=by rw[<-hT,List.length_take];omega
    have hput:putR (ints (nz C)) i (List.replicate (l.length-i) [AV.int .i64 0]).flatten=ints (nz (delL A l)):=by
      rw[QdL (by simp[ints,hC];omega),Qnv,Qmw,hT]
      unfold delL
      rw[hfl,QaK,QaD,List.drop_of_length_le (by simp[ints,hC];omega),List.append_nil]
    rw[hfl,hput]
    exact⟨[(75,.nil),(98,.nil)],rfl,au0,au3,au4⟩
end Go.AM.SU
namespace Go.AM.SO
open Go.Proofs
set_option maxHeartbeats 4000000
noncomputable section
def cf:YA.Cf:={most:= .pure,always:=[154].map fun k=>(k,.heap),value:= .pure}
def s98:SFn:=by
 refine(?f:YA.Yt Tryz.prog cf 98 [[0,2],[15,16,17],[18],[1,3,19,20],[2,3,19,21,22,23],[25,26],[1,4,24],[4,24,28,29,30,31,32,33,34,35,36,37],[1,27],[2,27,38],[],[39,40],[],[43,44],[8,45,46,47,48],[49],[41,42,50],[],[54,55,56],[57,58,59,60,61,62,63],[64],[1,5,6,7,51,52,53,10,11,65,66],[2,10,11,65,67,68,69,70,71],[72],[6,51,52,53,73],[],[77,78,79],[13,80,81,82,83,84,85,86],[87],[1,5,7,74,75,76,14,88,89],[2,14,88,90],[1,5,7,74,75,76,91,92,93]]) ?s ?h
 case h=>exact YA.rr
 exact fun s _=>s
def s9:SFn:=by
 refine(?f:YA.Yt Tryz.prog cf 9 [[0,2],[1,3,4,5,6]]) ?s ?h
 case h=>exact YA.rr
 exact fun s _=>s
def s144:SFn:=by
 refine(?f:YA.Yt Tryz.prog cf 144 [[4],[0,1,5,6,7,8]]) ?s ?h
 case h=>exact YA.rr
 exact fun s _=>s
def s191:SFn:=by
 refine(?f:YA.Yt Tryz.prog cf 191 [[0,2],[1,3,4,5,6,7,8,9,10,11]]) ?s ?h
 case h=>exact YA.rr
 exact fun s _=>s
def s102:SFn:=by
 refine(?f:YA.Yt Tryz.prog cf 102 [[2],[6,7],[0,8],[2,8,9],[0],[],[13,14,15],[17,18,19,20],[3,10,11,12,45,42,44,43,41,40,33,32,31,5,16],[16,22,23,24,25],[3,10,11,12,45,42,44,43,41,40,33,32,31,5,21],[21,27,28,29,30,34],[3,10,11,12,45,42,44,43,41,40,33,32,31,5,26],[26,36,37,38,39,46],[3,10,11,12,45,42,44,43,41,40,33,32,31,5,35],[2,5,35,47,48,49],[50],[3,10,11,12,45,42,44,43,41,40,33,32,31]]) ?s ?h
 case h=>exact YA.rr
 exact fun s _=>s
def s155:SFn:=by
 refine(?f:YA.Yt Tryz.prog cf 155 [[4],[0,1,5,6,7]]) ?s ?h
 case h=>exact YA.rr
 exact fun s _=>s
def s157:SFn:=by
 refine(?f:YA.Yt Tryz.prog cf 157 [[0],[10],[11],[],[15,16,17],[5,18,19,20,21,22,23,24,25],[26],[12,13,14,27],[],[31,32,33],[7,34,35,36,37,38,39,40,41,42,43,44],[45],[1,28,29,30,46],[],[50,51,52],[9,53,54,55,56,57,58,59,60,61,62,63,64,65],[66],[3,47,48,49,67]]) ?s ?h
 case h=>exact YA.rr
 exact fun s _=>s
def s89:SFn:=by
 refine(?f:YA.Yt Tryz.prog cf 89 [[0,2],[],[],[6],[7,10,11,12,13,14,15],[16,17,18,19,20],[25,26,27,28,29,30,31],[25,32,33,34,35,36,37,38,39,40,41,42,43,44,45,46,47,48,49],[5,50,51,52,53],[8,9],[1,3,4,24,23,22,21,54]] [(3,[(7,16),(12,16),(12,18)])]) ?s ?h
 case h=>exact YA.rr
 exact fun s _=>s
def s198:SFn:=by
 refine(?f:YA.Yt Tryz.prog cf 198 [[0,1,4],[7,8,9],[2,3,10],[4,10,11],[],[15,16,17,18],[20,21,22,23,30],[2,3,12,13,14,59,52,58,57,54,56,55,53,51,44,36,43,42,41,38,40,39,37,35,29,25,28,27,26,24,6,5,19],[5,19,32,33,34,45],[2,3,12,13,14,59,52,58,57,54,56,55,53,51,44,36,43,42,41,38,40,39,37,35,29,25,28,27,26,24,6,31],[6,31,47,48,49,50,60],[2,3,12,13,14,59,52,58,57,54,56,55,53,51,44,36,43,42,41,38,40,39,37,35,29,25,28,27,26,24,46],[4,46,61],[2,3,12,13,14,59,52,58,57,54,56,55,53,51,44,36,43,42,41,38,40,39,37,35,29,25,28,27,26,24]]) ?s ?h
 case h=>exact YA.rr
 exact fun s _=>s
def s200:SFn:=by
 refine(?f:YA.Yt Tryz.prog cf 200 [[0,1,4],[7,8,9],[2,3,10],[4,10,11],[],[15,16,17,18],[20,21,22,23,30],[2,3,12,13,14,53,52,51,44,36,43,42,41,38,40,39,37,35,29,25,28,27,26,24,6,5,19],[5,19,32,33,34,45],[2,3,12,13,14,53,52,51,44,36,43,42,41,38,40,39,37,35,29,25,28,27,26,24,6,31],[6,31,47,48,49,50,54],[2,3,12,13,14,53,52,51,44,36,43,42,41,38,40,39,37,35,29,25,28,27,26,24,46],[4,46,55],[2,3,12,13,14,53,52,51,44,36,43,42,41,38,40,39,37,35,29,25,28,27,26,24,56,57],[58],[58]]) ?s ?h
 case h=>exact YA.rr
 exact fun s _=>s
def s151:SFn:=by
 refine(?f:YA.Yt Tryz.prog cf 151 [[4],[6],[],[9,10],[11,12,13,14,15],[0,1,7,8,5,16,17],[4,5,16,18],[0,1,7,8]]) ?s ?h
 case h=>exact YA.rr
 exact fun s _=>s
def s201:SFn:=by
 refine(?f:YA.Yt Tryz.prog cf 201 [[2],[3],[0,4],[0,4,5,6,7]]) ?s ?h
 case h=>exact YA.rr
 exact fun s _=>s
def s202:SFn:=by
 refine(?f:YA.Yt Tryz.prog cf 202 [[2],[3],[0,4],[0,4,5,6,7]]) ?s ?h
 case h=>exact YA.rr
 exact fun s _=>s
def s192:SFn:=by
 refine(?f:YA.Yt Tryz.prog cf 192 [[3],[0,1,4,5,6]]) ?s ?h
 case h=>exact YA.rr
 exact fun s _=>s
def s193:SFn:=by
 refine(?f:YA.Yt Tryz.prog cf 193 [[4],[0,1,5,6,7,8,9]]) ?s ?h
 case h=>exact YA.rr
 exact fun s _=>s
def s194:SFn:=by
 refine(?f:YA.Yt Tryz.prog cf 194 [[6],[],[11,12,13,14],[18,19,20,21,22,35],[36,37,38,39,52],[],[],[53,54,55,56,57,58],[53],[59,60,61,62,63,64],[8,9,59,65,66,67],[10,68,69,70,71,72],[0,1,2,7,51,43,50,46,49,48,47,45,44,42,41,40,34,26,33,29,32,31,30,28,27,25,24,23,17,16,15,73]]) ?s ?h
 case h=>exact YA.rr
 exact fun s _=>s
def s195:SFn:=by
 refine(?f:YA.Yt Tryz.prog cf 195 [[4],[0,1,5,6,7,8]]) ?s ?h
 case h=>exact YA.rr
 exact fun s _=>s
def s253:SFn:=by
 refine(?f:YA.Yt Tryz.prog cf 253 [[2],[0,3,4,5,6,7,8]]) ?s ?h
 case h=>exact YA.rr
 exact fun s _=>s
def s252:SFn:=by
 refine(?f:YA.Yt Tryz.prog cf 252 [[4],[0,1,5,6,7]]) ?s ?h
 case h=>exact YA.rr
 exact fun s _=>s
def s277:SFn:=by
 refine(?f:YA.Yt Tryz.prog cf 277 [[4],[0,1,5,6,7,8,9]]) ?s ?h
 case h=>exact YA.rr
 exact fun s _=>s
theorem ok98:okFn Tryz.prog 98 s98=true:=by kernel_rfl
theorem ok9:okFn Tryz.prog 9 s9=true:=by kernel_rfl
theorem ok144:okFn Tryz.prog 144 s144=true:=by kernel_rfl
theorem ok191:okFn Tryz.prog 191 s191=true:=by kernel_rfl
theorem ok102:okFn Tryz.prog 102 s102=true:=by kernel_rfl
theorem ok155:okFn Tryz.prog 155 s155=true:=by kernel_rfl
theorem ok157:okFn Tryz.prog 157 s157=true:=by kernel_rfl
theorem ok89:okFn Tryz.prog 89 s89=true:=by kernel_rfl
theorem ok198:okFn Tryz.prog 198 s198=true:=by kernel_rfl
theorem ok200:okFn Tryz.prog 200 s200=true:=by kernel_rfl
theorem ok151:okFn Tryz.prog 151 s151=true:=by kernel_rfl
theorem ok201:okFn Tryz.prog 201 s201=true:=by kernel_rfl
theorem ok202:okFn Tryz.prog 202 s202=true:=by kernel_rfl
theorem ok192:okFn Tryz.prog 192 s192=true:=by kernel_rfl
theorem ok193:okFn Tryz.prog 193 s193=true:=by kernel_rfl
theorem ok194:okFn Tryz.prog 194 s194=true:=by kernel_rfl
theorem ok195:okFn Tryz.prog 195 s195=true:=by kernel_rfl
theorem ok253:okFn Tryz.prog 253 s253=true:=by kernel_rfl
theorem ok252:okFn Tryz.prog 252 s252=true:=by kernel_rfl
theorem ok277:okFn Tryz.prog 277 s277=true:=by kernel_rfl
end
end Go.AM.SO
namespace Go.AM.SE
open Go.Proofs Go.AM.SD
theorem Qlu:aEq (.nil 2) false .nilsl .nilsl=some (.bool true):=rfl
theorem Qlv:aEq (.nil 2) false .nsl .nilsl=some (.bool false):=rfl
theorem Qj2 {P:Program} {N:NM} {n:Nat} {d:Option Nat} {dead:List Nat} {r:List SOper} {T:Tmps} {h:Heap} {Q:QC} {fs:List Fr} {sz bytes b2 g2 off2 len2:Nat}:wM P N (aAppend .dyn n sz bytes (.sl b2 g2 off2 len2 sz) .nsl) d r dead fs n T h Q=
  wA P N (srcB (h.get b2) g2 off2 len2 sz) (some []) g2 len2 0 sz bytes b2 d r dead fs n T h Q:=QdJ
theorem _root_.Go.AM.au5 {p:Prop} (h:p:=by repeat' (first|exact RB.nil|(refine RnL.same ?_;first|rfl|(simp only[noRef,noRefs,Qaf,Bool.and_self,Bool.and_true,Bool.true_and,Qaa,Qaj,Qah,Qak,Qav,Qbt,Qai,Qan,Qab,Qa9,QaM,Qap,Qas];done))|exact RnM.keyM rfl|exact RnL.nil|exact(True.intro:RnM _ _ _ [] [])|refine RnL.cons ?_ ?_|(refine Rn.same ?_;first|rfl|(simp only[noRef,noRefs,Qaf,Bool.and_self,Bool.and_true,Bool.true_and,Qaa,Qaj,Qah,Qak,Qav,Qbt,Qai,Qan,Qab,Qa9,QaM,Qap,Qas];done))|exact Rn.x1 rfl rfl|exact Rn.x2 rfl rfl|exact Rn.x3 rfl rfl|exact Rn.x4 rfl rfl|exact Rn.x5 rfl|exact Rn.x6 rfl|exact Rn.x7 rfl|refine RB.newnil rfl rfl ?_|refine RB.cells rfl rfl rfl ?_ ?_|refine RB.map rfl rfl rfl ?_ ?_|refine RB.cellsB rfl rfl ?_ ?_|refine RB.mapB rfl rfl ?_ ?_)):p:=h
theorem _root_.Go.AM.au6 {p:Prop} (h:p:=by repeat (first|exact RT.nil|(refine RT.cons ?_ ?_; · (first|exact Rn.any|exact Rn.x1 rfl rfl|exact Rn.x2 rfl rfl|exact Rn.x3 rfl rfl|exact Rn.x4 rfl rfl|exact Rn.x5 rfl|exact Rn.x6 rfl|exact Rn.x7 rfl|(refine Rn.slot ?_ ?_;(first|rfl|(rw[Int.natCast_add];rfl));(first|rfl|(simp only[noRef,noRefs,Qaf,Bool.and_self,Bool.and_true,Bool.true_and,Qaa,Qaj,Qah,Qak,Qav,Qbt,Qai,Qan,Qab,Qa9,QaM,Qap,Qas];done)))|(refine Rn.fn ?_ ?_<;>(repeat' (first|exact RnL.nil|refine RnL.cons ?_ ?_|exact Rn.same rfl|exact Rn.x6 rfl|exact Rn.x2 rfl rfl|exact Rn.x5 rfl|exact Rn.x1 rfl rfl))))))):p:=h
theorem QhS:HSpec Tryz.prog 86 [.nilsl] .e (.sl 83 0 0 0 1) (hp [(83,.cells 0 [])]):=by
 refine HSpec.QdT 100 ok86 rfl ?_
 simp(disch:=first|omega|(simp only[lenW]<;>omega)) only[s86,Qlu,wW,wV,simprocAttr]
 exact⟨.inr trivial,_,rfl,⟨[(83,.nil)],rfl,au0,au5,au6⟩⟩
theorem QhT:HSpec Tryz.prog 86 [.nsl] .e (.sl 83 0 0 0 1) (hp [(83,.cells 0 [])]):=by
 refine HSpec.QdT 100 ok86 rfl ?_
 simp(disch:=first|omega|(simp only[lenW]<;>omega)) only[s86,Qlv,Qj2,wW,wV,simprocAttr]
 exact⟨.inr trivial,_,rfl,⟨[(83,.blk 103 1)],rfl,au0,au5,au6⟩⟩
theorem clone56 (l:List Nat) (hl:l.length<=1000000):HSpec Tryz.prog 86 [sliN l] .e (.sl 83 0 0 l.length 1) (hp [(83,.cells 0 (ints (nz l)))]):=by
 cases l with
 |nil=>exact HSpec.empty QhS QhT
 |cons x l=>
  refine HSpec.QdT 100 ok86 rfl ?_
  have hq:aEq (.nil 2) false (sliN (x::l)) .nilsl=some (.bool false):=rfl
  have hone:(ints (nz (x::l))).all AV.one=true:=by simp[ints,AV.one]
  generalize x::l=q at*
  simp(disch:=first|omega|(simp only[lenW]<;>omega)) only[s86,hq,hone,wW,wV,simprocAttr]
  exact⟨.inr trivial,_,rfl,⟨[(83,.blk 103 1)],rfl,au0,au5,au6⟩⟩
end Go.AM.SE
namespace Go.AM.SE
open Go.Proofs Go.AM.SD
abbrev frzE (es:List Ed) (left:Nat->Bool):Nat->AV:=fun k=>egsN (sOut es left k)
theorem QbO (es:List Ed) (left:Nat->Bool) (l:List Nat):noRefs (l.map (frzE es left))=true:=QcM (fun x=>QaM _) l
theorem QbV (l:List Ed):(l.flatMap edC).length=l.length*3:=Qbn (f:=edC) (k:=3) (fun _=>rfl) l
theorem QfV (es:List Ed) (left:Nat->Bool) (v:Nat):(sOut es left v).length<=es.length:=by
 unfold sOut;exact List.length_filter_le _ _
def mks (a:Aut) (i:Nat) (o:List Nat):List Nat:=(List.range i).filter fun j=>a.ms.contains (o.getD j 0)
theorem QkN {a:Aut} {i:Nat} {o:List Nat}:(mks a i o).length<=i:=by
 unfold mks;exact Nat.le_trans (List.length_filter_le _ _) (by simp)
theorem Qoi {a:Aut} {i:Nat} {o t:List Nat} (h:i<=o.length):mks a i (o++t)=mks a i o:=by
 unfold mks
 refine List.filter_congr fun j hj=>?_
 have:=List.mem_range.1 hj
 rw[List.getD_eq_getElem?_getD,List.getD_eq_getElem?_getD,List.getElem?_append_left (by omega)]
theorem Qjo {a:Aut} {i v:Nat} {o:List Nat} (h:o[i]?=some v):mks a (i+1) o=mks a i o++if a.ms.contains v then[i]else[]:=by
 unfold mks
 rw[List.range_succ,List.filter_append]
 congr 1
 have:o.getD i 0=v:=by rw[List.getD_eq_getElem?_getD,h];rfl
 rw[List.filter_cons,this];rfl
theorem QhU {i:Nat} {s:OE} {es:List Ed} {j:Nat} {e:Ed} (h:es[j]?=some e):(es.take (j+1)).foldl (sEd i) s=sEd i ((es.take j).foldl (sEd i) s) e:=by
 rw[List.take_add_one,h,Option.toList,List.foldl_append];rfl
theorem Qdu {i:Nat}:∀(es:List Ed) (s:OE),(es.foldl (sEd i) s).2.length=s.2.length+es.length
 |[],s=>by simp
 |e::es,s=>by
  rw[List.foldl_cons,Qdu es]
  unfold sEd;split<;>simp<;>omega
end Go.AM.SE
namespace Go.AM.SE
open Go.Proofs Go.AM.SD
def mach:Aut:=⟨[0,1,2,3],3,[0],[(0,0,1),(1,1,0),(1,2,2),(2,3,0)]⟩
def mach3:Aut:=⟨[0,1,2,3],3,[0],[(0,0,1),(1,1,0),(1,2,2)]⟩
theorem q1:QOk mach [2] [1,2]:=⟨by decide,by decide,by decide,by decide⟩
theorem q2:QOk mach3 [] [1,2]:=⟨by decide,by decide,by decide,by decide⟩
end Go.AM.SE
namespace Go.AM.SE
open Go.Proofs Go.AM.SD
theorem Qoj {α:Type} {p:α->Bool} {l:List α} {i:Nat} {x:α} (hx:l[i]?=some x) (hp:p x=true) (hb:∀j y,j<i->l[j]?=some y->p y=false):l.find? p=some x:=by
 obtain⟨hi,e⟩:=List.getElem?_eq_some_iff.1 hx
 rw[List.find?_eq_some_iff_getElem]
 refine⟨hp,i,hi,e,fun j hj=>?_⟩
 have:=hb j l[j] hj (List.getElem?_eq_getElem (by omega))
 simp[this]
def stepI (es:List Ed) (s ev:Nat):Int:=match stepA es s ev with|some to=>(to:Int)|none=> -1
theorem _root_.Go.AM.au7 {p:Prop} (h:p:=by repeat' (first|exact RB.nil|(refine RnL.same ?_;first|rfl|(simp only[noRef,noRefs,Qaf,Bool.and_self,Bool.and_true,Bool.true_and,Qaa,Qaj,Qah,Qak,Qav,Qbt,Qai,Qan,Qab,Qa9,QaM,Qap,Qas,QbO];done))|exact RnM.keyM rfl|exact RnL.nil|exact(True.intro:RnM _ _ _ [] [])|refine RnL.cons ?_ ?_|(refine Rn.same ?_;first|rfl|(simp only[noRef,noRefs,Qaf,Bool.and_self,Bool.and_true,Bool.true_and,Qaa,Qaj,Qah,Qak,Qav,Qbt,Qai,Qan,Qab,Qa9,QaM,Qap,Qas,QbO];done))|exact Rn.x1 rfl rfl|exact Rn.x2 rfl rfl|exact Rn.x3 rfl rfl|exact Rn.x4 rfl rfl|exact Rn.x5 rfl|exact Rn.x6 rfl|exact Rn.x7 rfl|refine RB.newnil rfl rfl ?_|refine RB.cells rfl rfl rfl ?_ ?_|refine RB.map rfl rfl rfl ?_ ?_|refine RB.cellsB rfl rfl ?_ ?_|refine RB.mapB rfl rfl ?_ ?_)):p:=h
theorem _root_.Go.AM.au8 {p:Prop} (h:p:=by repeat (first|exact RT.nil|(refine RT.cons ?_ ?_; · (first|exact Rn.any|exact Rn.x1 rfl rfl|exact Rn.x2 rfl rfl|exact Rn.x3 rfl rfl|exact Rn.x4 rfl rfl|exact Rn.x5 rfl|exact Rn.x6 rfl|exact Rn.x7 rfl|(refine Rn.slot ?_ ?_;(first|rfl|(rw[Int.natCast_add];rfl));(first|rfl|(simp only[noRef,noRefs,Qaf,Bool.and_self,Bool.and_true,Bool.true_and,Qaa,Qaj,Qah,Qak,Qav,Qbt,Qai,Qan,Qab,Qa9,QaM,Qap,Qas,QbO];done)))|(refine Rn.fn ?_ ?_<;>(repeat' (first|exact RnL.nil|refine RnL.cons ?_ ?_|exact Rn.same rfl|exact Rn.x6 rfl|exact Rn.x2 rfl rfl|exact Rn.x5 rfl|exact Rn.x1 rfl rfl))))))):p:=h
theorem step60 (a : Aut) (s ev : Nat) (hel : a.es.length <= 1000000) : PSpec Tryz.prog 59 [aV a, .int .i64 s, .int .i64 ev] (.int .i64 (stepI a.es s ev)) := by
  refine PSpec.Qag 64 ok59 rfl (by(try simp only[noRefs,Qap,Qas,Qaa,Qaj,Qah,Qak,Qav,Qai,noRef,Bool.and_self,Bool.and_true])<;>rfl) rfl ?_
  simp(disch:=first|omega|(simp only[lenW]<;>omega)) only[s59,wW,wV,simprocAttr]
  refine Qal 100 (fun i:Nat=>[(1,.int .i64 s),(2,.int .i64 ev),(3,.ptr 50 0 0),(7,.int .i64 i)]) (fun _=>[(50,.cells 0 [sliN a.al,.int .i64 (a.n:Int),sliN a.ms,egsN a.es])])
    (fun i=>i<=a.es.length/\∀(j:Nat) y,j<i->a.es[j]?=some y->(y.1==s&&y.2.1==ev)=false) (fun i=>a.es.length-i) 0 ⟨[(50,.blk 64 0)],rfl,au0,au7,au8⟩ ⟨Nat.zero_le _,fun j y hj=>absurd hj (Nat.not_lt_zero _)⟩ ?_
  rintro i ⟨hi,hb⟩
  by_cases hlt:i<a.es.length
  · obtain ⟨e, he⟩ := Qad hlt
    have hno:(e.1==s&&e.2.1==ev)=false->i+1<=a.es.length/\∀(j:Nat) y,j<i+1->a.es[j]?=some y->(y.1==s&&y.2.1==ev)=false:=fun h=>⟨by omega,fun j y hj hy=>by
      by_cases e2:j=i
      · subst e2;rw[he]at hy;cases hy;exact h
      · exact hb j y (by omega) hy⟩
    by_cases h1:e.1=s
    · by_cases h2 : e.2.1 = ev
      · have hf := Qoj (p := fun e : Ed => e.1 == s && e.2.1 == ev) he (by simp [h1, h2]) hb
        have hs:stepI a.es s ev=e.2.2:=by unfold stepI stepA;rw[hf];rfl
        have h1':(e.1:Int)=(s:Int):=by omega
        have h2':(e.2.1:Int)=(ev:Int):=by omega
        simp(disch:=first|omega|(simp only[lenW]<;>omega)) only[hlt,QaS he,h1',h2',wW,wV,simprocAttr]
        exact⟨.inr trivial,_,rfl,by rw[hs];rfl⟩
      · have h1' : (e.1 : Int) = (s : Int) := by omega
        have h2':¬(e.2.1:Int)=(ev:Int):=by omega
        simp(disch:=first|omega|(simp only[lenW]<;>omega)) only[hlt,QaS he,h1',h2',wW,wV,simprocAttr]
        exact⟨i+1,by omega,hno (by simp[h2]),⟨[(50,.blk 50 0)],rfl,au0,au7,au8⟩⟩
    · have h1' : ¬ (e.1 : Int) = (s : Int) := by omega
      simp(disch:=first|omega|(simp only[lenW]<;>omega)) only[hlt,QaS he,h1',wW,wV,simprocAttr]
      exact⟨i+1,by omega,hno (by simp[h1]),⟨[(50,.blk 50 0)],rfl,au0,au7,au8⟩⟩
  · have hf : a.es.find? (fun e => e.1 == s && e.2.1 == ev) = none := by
      rw[List.find?_eq_none]
      intro y hy
      obtain⟨j,hj,hjl⟩:=QdU hy
      rw[hb j y (by omega) hj];decide
    have hs:stepI a.es s ev= -1:=by unfold stepI stepA;rw[hf];rfl
    simp(disch:=first|omega|(simp only[lenW]<;>omega)) only[hlt,wW,wV,simprocAttr]
    exact⟨.inr trivial,_,rfl,by rw[hs];rfl⟩
theorem index61 (l : List Int) (n : Int) (hl : l.length <= 140737488355328) : PSpec Tryz.prog 250 [sli l, .int .i64 n] (.int .i64 (indexR l n)) := by
  refine PSpec.Qag 64 ok250 rfl (by(try simp only[noRefs,Qap,Qas,Qaa,Qaj,Qah,Qak,Qav,Qai,noRef,Bool.and_self,Bool.and_true])<;>rfl) rfl ?_
  simp(disch:=first|omega|(simp only[lenW]<;>omega)) only[s250,wW,wV,simprocAttr]
  refine Qal 100 (fun i:Nat=>[(0,sli l),(1,.int .i64 n),(5,.int .i64 i)]) (fun _=>[]) (fun i=>i<=l.length/\∀(j:Nat) y,j<i->l[j]?=some y->y≠n) (fun i=>l.length-i) 0 ⟨[],rfl,au0,au7,au8⟩ ⟨Nat.zero_le _,fun j y hj=>absurd hj (Nat.not_lt_zero _)⟩ ?_
  rintro i ⟨hi,hb⟩
  by_cases hlt:i<l.length
  · obtain ⟨x, hx⟩ := Qad hlt
    by_cases h0:x=n
    · have h1 : n ∈ l := h0 ▸ List.mem_of_getElem? hx
      have h2:l.findIdx (· ==n)=i:=by
        rw[List.findIdx_eq hlt]
        refine⟨by rw[List.getElem?_eq_getElem hlt]at hx;cases hx;simp[h0],fun j hj=>?_⟩
        have:=hb j l[j] hj (List.getElem?_eq_getElem (by omega))
        simpa using this
      simp(disch:=first|omega|(simp only[lenW]<;>omega)) only[hlt,Qae hx,h0,wW,wV,simprocAttr]
      refine⟨.inr trivial,_,rfl,?_⟩
      simp only[indexR,if_pos h1,h2];rfl
    · simp (disch := first | omega | (simp only [lenW] <;> omega)) only [hlt, Qae hx, h0, wW, wV, simprocAttr]
      refine⟨i+1,by omega,⟨by omega,fun j y hj hy=>?_⟩,⟨[],rfl,au0,au7,au8⟩⟩
      by_cases e:j=i
      · subst e;rw[hx]at hy;cases hy;exact h0
      · exact hb j y (by omega) hy
  · have : n ∉ l := fun h => by
      obtain⟨j,hj,hjl⟩:=QdU h
      exact hb j n (by omega) hj rfl
    simp(disch:=first|omega|(simp only[lenW]<;>omega)) only[hlt,wW,wV,simprocAttr]
    exact⟨.inr trivial,_,rfl,by simp only[indexR,if_neg this];rfl⟩
theorem Qjp {l:List Nat} {x:Nat} (h:x∈l):indexR (nz l) x=idx l x:=by
  have h1:(x:Int)∈nz l:=List.mem_map.2 ⟨x,h,rfl⟩
  unfold indexR
  rw[if_pos h1]
  unfold idx nz
  rw[List.findIdx_map]
  congr 2
  funext y
  show((y:Int)==(x:Int))=(y==x)
  by_cases e:y=x
  · subst e;simp
  · have : ¬ (y : Int) = (x : Int) := by omega
    rw[beq_eq_false_iff_ne.2 this,beq_eq_false_iff_ne.2 e]
theorem QhV {al:List Nat} {es:List Ed} {s:Nat} {out:List Nat} {k ev:Nat} (h:al[k]?=some ev):(al.take (k+1)).foldl (fEv es s) out=fEv es s ((al.take k).foldl (fEv es s) out) ev:=by
 rw[List.take_add_one,h,Option.toList,List.foldl_append];rfl
structure Raw (a:Aut):Prop where
 esn:∀e∈a.es,e.1<a.n/\e.2.2<a.n
 n5:a.n<=5
 el:a.es.length<=1000000
 al:a.al.length<=32
 ml:a.ms.length<=32
theorem found59 (a : Aut) (h : Raw a) : PSpec Tryz.prog 248 [aV a] (sliN (found a)) := by
  have hn5:=h.n5
  have hal:=h.al
  refine PSpec.of_rn 64 ok248 rfl (by(try simp only[noRefs,Qap,Qas,Qaa,Qaj,Qah,Qak,Qav,Qai,noRef,Bool.and_self,Bool.and_true])<;>rfl) (Qab _) ?_
  have hfin:fQ a.al a.es (a.n+1) 0 (if 0<a.n then[0]else[])=found a:=rfl
  by_cases h0:0<a.n
  · rw [if_pos h0] at hfin
    have h0':(0:Int)<(a.n:Int):=by omega
    simp(disch:=first|omega|(simp only[lenW]<;>omega)) only[s248,h0',Qjl,Qnt,wW,wV,simprocAttr]
    refine Qal 100 (fun t:Nat×List Nat=>[(1,.ptr 50 0 0),(3,.sl 75 0 0 t.2.length 1),(4,.int .i64 t.1)]) (fun t=>[(50,.cells 0 [sliN a.al,.int .i64 (a.n:Int),sliN a.ms,egsN a.es]),(75,.cells 0 (ints (nz t.2)))])
      (fun t=>t.1<=t.2.length/\FI a.n t.2/\fQ a.al a.es (a.n+1-t.1) t.1 t.2=found a) (fun t=>a.n+1-t.1) (0,[0]) ?_ ⟨Nat.zero_le _,⟨by simp,fun x hx=>by simp at hx;omega⟩,by dsimp only;exact hfin⟩ ?_
    · exact⟨[(50,.blk 64 0),(75,.blk 72 0)],rfl,au0,au7,au8⟩
    rintro⟨i,out⟩ ⟨hi,hfi,hq⟩
    dsimp only at hi hfi hq⊢
    have hfl:=hfi.len
    by_cases hlt:i<out.length
    · obtain ⟨s, hs⟩ := Qad hlt
      have hq':fQ a.al a.es (a.n+1-(i+1)) (i+1) (fRow a.al a.es s out)=found a:=by
        rw[<-hq,show a.n+1-i=(a.n+1-(i+1))+1 by omega]
        simp only[fQ,hs]
      have hrow:=fun k=>FI.row h.esn s (a.al.take k) out hfi
      simp(disch:=first|omega|(simp only[lenW]<;>omega)) only[hlt,wW,wV,simprocAttr]
      refine Qaw 200 (fun k:Nat=>[(1,.ptr 50 0 0),(3,.sl 75 0 0 ((a.al.take k).foldl (fEv a.es s) out).length 1),(4,.int .i64 i),(5,.int .i64 k)]) (fun k=>[(50,.cells 0 [sliN a.al,.int .i64 (a.n:Int),sliN a.ms,egsN a.es]),(75,.cells 0 (ints (nz ((a.al.take k).foldl (fEv a.es s) out))))])
        (fun k=>k<=a.al.length) (fun k=>a.al.length-k) 0 2 300
        (fun _:Unit=>[(1,.ptr 50 0 0),(3,.sl 75 0 0 (fRow a.al a.es s out).length 1),(4,.int .i64 i)]) (fun _=>[(50,.cells 0 [sliN a.al,.int .i64 (a.n:Int),sliN a.ms,egsN a.es]),(75,.cells 0 (ints (nz (fRow a.al a.es s out))))]) (fun _=>True) ?_ (Nat.zero_le _) ?_ ?_
      · exact⟨[(50,.blk 50 0),(75,.blk 75 0)],rfl,au0,au7,au8⟩
      · rintro k hk
        by_cases hkl:k<a.al.length
        · obtain ⟨ev, hev⟩ := Qad hkl
          have hstep:=QhV (es:=a.es) (s:=s) (out:=out) hev
          obtain⟨k1,⟨t,ht⟩,_⟩:=hrow k
          have hol:=k1.len
          have hs2:((a.al.take k).foldl (fEv a.es s) out)[i]?=some s:=by rw[ht,List.getElem?_append_left hlt];exact hs
          generalize (a.al.take k).foldl (fEv a.es s) out=o at*
          have hil:i<o.length:=(List.getElem?_eq_some_iff.1 hs2).1
          simp(disch:=first|omega|(simp only[lenW]<;>omega)) only[hkl,hil,Qdt (nz_at hs2),QaN hev,wW,wV,simprocAttr]
          refine cp (step60 a s ev h.el) ?_
          cases hst:stepA a.es s ev with
          | none =>
            have h1:stepI a.es s ev= -1:=by unfold stepI;rw[hst]
            have h2:fEv a.es s o ev=o:=by unfold fEv;rw[hst]
            rw[h2]at hstep
            rw[h1]
            simp(disch:=first|omega|(simp only[lenW]<;>omega)) only[wW,wV,simprocAttr]
            refine⟨k+1,by omega,by omega,?_⟩
            rw[hstep]
            exact⟨[(50,.blk 50 0),(75,.blk 75 0)],rfl,au0,au7,au8⟩
          | some to =>
            have h1:stepI a.es s ev=to:=by unfold stepI;rw[hst]
            have hto:=QfI h.esn hst
            rw[h1]
            simp(disch:=first|omega|(simp only[lenW]<;>omega)) only[wW,wV,simprocAttr]
            have hh:=has36 (nz o) to (by simp;omega)
            rw[Qjb,Qb3]at hh
            by_cases hc:o.contains to=true
            · have h2 : fEv a.es s o ev = o := by unfold fEv; rw [hst]; exact if_pos hc
              rw[h2]at hstep
              rw[hc]at hh
              refine ch (HSpec.lend (FrzL.cons (FrzTo.all gg (by simp[ints])) (FrzL.cons (FrzTo.same _) FrzL.nil)) hh rfl) ?_
              simp(disch:=first|omega|(simp only[lenW]<;>omega)) only[wW,wV,simprocAttr]
              refine⟨k+1,by omega,by omega,?_⟩
              rw[hstep]
              exact⟨[(50,.blk 50 0),(75,.blk 75 0)],rfl,au0,au7,au8⟩
            · have h2 : fEv a.es s o ev = o ++ [to] := by unfold fEv; rw [hst]; exact if_neg hc
              rw[h2]at hstep
              rw[Bool.not_eq_true]at hc
              rw[hc]at hh
              refine ch (HSpec.lend (FrzL.cons (FrzTo.all gg (by simp[ints])) (FrzL.cons (FrzTo.same _) FrzL.nil)) hh rfl) ?_
              simp(disch:=first|omega|(simp only[lenW]<;>omega)) only[wW,wV,simprocAttr]
              refine⟨k+1,by omega,by omega,?_⟩
              rw[hstep,List.length_append,QaK,QaD]
              exact⟨[(50,.blk 50 0),(75,.blk 75 1)],rfl,au0,au7,au8⟩
        · have e : k = a.al.length := by omega
          subst e
          simp(disch:=first|omega|(simp only[lenW]<;>omega)) only[hkl,wW,wV,simprocAttr]
          refine⟨(),?_⟩
          exact⟨[(50,.blk 50 0),(75,.blk 75 0)],rfl,au0,au7,au8⟩
      rintro _ _
      obtain⟨k1,⟨t,ht⟩,_⟩:=hrow a.al.length
      rw[List.take_length]at k1 ht
      have ht:fRow a.al a.es s out=out++t:=ht
      simp(disch:=first|omega|(simp only[lenW]<;>omega)) only[wW,wV,simprocAttr]
      refine⟨(i+1,fRow a.al a.es s out),by dsimp only;omega,⟨by dsimp only;rw[ht,List.length_append];omega,k1,hq'⟩,?_⟩
      exact⟨[(50,.blk 50 0),(75,.blk 75 0)],rfl,au0,au7,au8⟩
    · have hv : out[i]? = none := List.getElem?_eq_none (by omega)
      have hqf:out=found a:=by
        rw[<-hq,show a.n+1-i=(a.n-i)+1 by omega]
        simp only[fQ,hv]
      simp(disch:=first|omega|(simp only[lenW]<;>omega)) only[hlt,wW,wV,simprocAttr]
      refine⟨.inr trivial,_,rfl,?_⟩
      rw[hqf]
      exact Rn.fz0 (g:=0) rfl (by simp[ints]) (RnL.same (Qaa _))
  · rw [if_neg h0] at hfin
    have h0':¬(0:Int)<(a.n:Int):=by omega
    simp(disch:=first|omega|(simp only[lenW]<;>omega)) only[s248,h0',wW,wV,simprocAttr]
    refine Qal 100 (fun t:Nat×List Nat=>[(1,.ptr 50 0 0),(3,.sl 75 0 0 t.2.length 1),(4,.int .i64 t.1)]) (fun t=>[(50,.cells 0 [sliN a.al,.int .i64 (a.n:Int),sliN a.ms,egsN a.es]),(75,.cells 0 (ints (nz t.2)))])
      (fun t=>t.1<=t.2.length/\FI a.n t.2/\fQ a.al a.es (a.n+1-t.1) t.1 t.2=found a) (fun t=>a.n+1-t.1) (0,([]:List Nat)) ?_ ⟨Nat.zero_le _,⟨by simp,fun x hx=>by cases hx⟩,by dsimp only;exact hfin⟩ ?_
    · exact⟨[(50,.blk 64 0),(75,.nil)],rfl,au0,au7,au8⟩
    rintro⟨i,out⟩ ⟨hi,hfi,hq⟩
    dsimp only at hi hfi hq⊢
    have hfl:=hfi.len
    by_cases hlt:i<out.length
    · obtain ⟨s, hs⟩ := Qad hlt
      have hq':fQ a.al a.es (a.n+1-(i+1)) (i+1) (fRow a.al a.es s out)=found a:=by
        rw[<-hq,show a.n+1-i=(a.n+1-(i+1))+1 by omega]
        simp only[fQ,hs]
      have hrow:=fun k=>FI.row h.esn s (a.al.take k) out hfi
      simp(disch:=first|omega|(simp only[lenW]<;>omega)) only[hlt,wW,wV,simprocAttr]
      refine Qaw 200 (fun k:Nat=>[(1,.ptr 50 0 0),(3,.sl 75 0 0 ((a.al.take k).foldl (fEv a.es s) out).length 1),(4,.int .i64 i),(5,.int .i64 k)]) (fun k=>[(50,.cells 0 [sliN a.al,.int .i64 (a.n:Int),sliN a.ms,egsN a.es]),(75,.cells 0 (ints (nz ((a.al.take k).foldl (fEv a.es s) out))))])
        (fun k=>k<=a.al.length) (fun k=>a.al.length-k) 0 2 300
        (fun _:Unit=>[(1,.ptr 50 0 0),(3,.sl 75 0 0 (fRow a.al a.es s out).length 1),(4,.int .i64 i)]) (fun _=>[(50,.cells 0 [sliN a.al,.int .i64 (a.n:Int),sliN a.ms,egsN a.es]),(75,.cells 0 (ints (nz (fRow a.al a.es s out))))]) (fun _=>True) ?_ (Nat.zero_le _) ?_ ?_
      · exact⟨[(50,.blk 50 0),(75,.blk 75 0)],rfl,au0,au7,au8⟩
      · rintro k hk
        by_cases hkl:k<a.al.length
        · obtain ⟨ev, hev⟩ := Qad hkl
          have hstep:=QhV (es:=a.es) (s:=s) (out:=out) hev
          obtain⟨k1,⟨t,ht⟩,_⟩:=hrow k
          have hol:=k1.len
          have hs2:((a.al.take k).foldl (fEv a.es s) out)[i]?=some s:=by rw[ht,List.getElem?_append_left hlt];exact hs
          generalize (a.al.take k).foldl (fEv a.es s) out=o at*
          have hil:i<o.length:=(List.getElem?_eq_some_iff.1 hs2).1
          simp(disch:=first|omega|(simp only[lenW]<;>omega)) only[hkl,hil,Qdt (nz_at hs2),QaN hev,wW,wV,simprocAttr]
          refine cp (step60 a s ev h.el) ?_
          cases hst:stepA a.es s ev with
          | none =>
            have h1:stepI a.es s ev= -1:=by unfold stepI;rw[hst]
            have h2:fEv a.es s o ev=o:=by unfold fEv;rw[hst]
            rw[h2]at hstep
            rw[h1]
            simp(disch:=first|omega|(simp only[lenW]<;>omega)) only[wW,wV,simprocAttr]
            refine⟨k+1,by omega,by omega,?_⟩
            rw[hstep]
            exact⟨[(50,.blk 50 0),(75,.blk 75 0)],rfl,au0,au7,au8⟩
          | some to =>
            have h1:stepI a.es s ev=to:=by unfold stepI;rw[hst]
            have hto:=QfI h.esn hst
            rw[h1]
            simp(disch:=first|omega|(simp only[lenW]<;>omega)) only[wW,wV,simprocAttr]
            have hh:=has36 (nz o) to (by simp;omega)
            rw[Qjb,Qb3]at hh
            by_cases hc:o.contains to=true
            · have h2 : fEv a.es s o ev = o := by unfold fEv; rw [hst]; exact if_pos hc
              rw[h2]at hstep
              rw[hc]at hh
              refine ch (HSpec.lend (FrzL.cons (FrzTo.all gg (by simp[ints])) (FrzL.cons (FrzTo.same _) FrzL.nil)) hh rfl) ?_
              simp(disch:=first|omega|(simp only[lenW]<;>omega)) only[wW,wV,simprocAttr]
              refine⟨k+1,by omega,by omega,?_⟩
              rw[hstep]
              exact⟨[(50,.blk 50 0),(75,.blk 75 0)],rfl,au0,au7,au8⟩
            · have h2 : fEv a.es s o ev = o ++ [to] := by unfold fEv; rw [hst]; exact if_neg hc
              rw[h2]at hstep
              rw[Bool.not_eq_true]at hc
              rw[hc]at hh
              refine ch (HSpec.lend (FrzL.cons (FrzTo.all gg (by simp[ints])) (FrzL.cons (FrzTo.same _) FrzL.nil)) hh rfl) ?_
              simp(disch:=first|omega|(simp only[lenW]<;>omega)) only[wW,wV,simprocAttr]
              refine⟨k+1,by omega,by omega,?_⟩
              rw[hstep,List.length_append,QaK,QaD]
              exact⟨[(50,.blk 50 0),(75,.blk 75 1)],rfl,au0,au7,au8⟩
        · have e : k = a.al.length := by omega
          subst e
          simp(disch:=first|omega|(simp only[lenW]<;>omega)) only[hkl,wW,wV,simprocAttr]
          refine⟨(),?_⟩
          exact⟨[(50,.blk 50 0),(75,.blk 75 0)],rfl,au0,au7,au8⟩
      rintro _ _
      obtain⟨k1,⟨t,ht⟩,_⟩:=hrow a.al.length
      rw[List.take_length]at k1 ht
      have ht:fRow a.al a.es s out=out++t:=ht
      simp(disch:=first|omega|(simp only[lenW]<;>omega)) only[wW,wV,simprocAttr]
      refine⟨(i+1,fRow a.al a.es s out),by dsimp only;omega,⟨by dsimp only;rw[ht,List.length_append];omega,k1,hq'⟩,?_⟩
      exact⟨[(50,.blk 50 0),(75,.blk 75 0)],rfl,au0,au7,au8⟩
    · have hv : out[i]? = none := List.getElem?_eq_none (by omega)
      have hqf:out=found a:=by
        rw[<-hq,show a.n+1-i=(a.n-i)+1 by omega]
        simp only[fQ,hv]
      simp(disch:=first|omega|(simp only[lenW]<;>omega)) only[hlt,wW,wV,simprocAttr]
      refine⟨.inr trivial,_,rfl,?_⟩
      rw[hqf]
      exact Rn.fz0 (g:=0) rfl (by simp[ints]) (RnL.same (Qaa _))
end Go.AM.SE
namespace Go.AM.SE
open Go.Proofs Go.AM.SD
theorem Qnw (l:List Int):(ints l).all AV.one=true:=by
 induction l with
 |nil=>rfl
 |cons x l ih=>show(AV.one _&&(ints l).all AV.one)=true;rw[ih];rfl
theorem empty45 (l:List Nat) (hl:l.length<=1000000):PSpec Tryz.prog 189 [sliN l] (.agg [sliN l,.int .i64 0,.nilsl,.nilsl]):=by
 refine PSpec.of_rn 64 ok189 rfl (by(try simp only[noRefs,Qap,Qas,Qaa,Qaj,Qah,Qak,Qav,Qai,noRef,Bool.and_self,Bool.and_true])<;>rfl) (by simp only[noRef,noRefs,Qaa];rfl) ?_
 have hone:=Qnw (nz l)
 simp(disch:=first|omega|(simp only[lenW]<;>omega)) only[s189,hone,wW,wV,simprocAttr]
 refine⟨.inr trivial,_,rfl,?_⟩
 exact Rn.agg (RnL.cons (Rn.fz0 (g:=1) rfl (by simp[ints]) (RnL.same (Qaa _))) (RnL.same rfl))
theorem QhW {a:Aut} {f:List Nat} {i s k ev:Nat} (h:a.al[k]?=some ev):(a.al.take (k+1)).filterMap (fun ev=>(stepA a.es s ev).map fun to=>(i,ev,idx f to))=(a.al.take k).filterMap (fun ev=>(stepA a.es s ev).map fun to=>(i,ev,idx f to))++match stepA a.es s ev with|some to=>[(i,ev,idx f to)]|none=>[]:=by
 rw[List.take_add_one,h,Option.toList,List.filterMap_append]
 congr 1
 cases e:stepA a.es s ev with
 |none=>simp[e]
 |some to=>simp[e]
def cPre (a:Aut) (f:List Nat) (i:Nat):List Ed:=(List.range i).flatMap fun i=>cRow a f i (f.getD i 0)
def cPart (a:Aut) (f:List Nat) (i s k:Nat):List Ed:=cPre a f i++(a.al.take k).filterMap (fun ev=>(stepA a.es s ev).map fun to=>(i,ev,idx f to))
theorem Qmx {a:Aut} {f:List Nat} {i s:Nat} (h:f[i]?=some s):cPre a f (i+1)=cPre a f i++cRow a f i s:=by
 unfold cPre
 rw[List.range_succ,List.flatMap_append]
 have:f.getD i 0=s:=by rw[List.getD_eq_getElem?_getD,h];rfl
 rw[List.flatMap_cons,List.flatMap_nil,List.append_nil,this]
theorem Qnx (a:Aut) (f:List Nat) (i s:Nat):(cRow a f i s).length<=a.al.length:=by unfold cRow;exact List.length_filterMap_le _ _
theorem QfW (a:Aut) (f:List Nat):∀i,(cPre a f i).length<=i*a.al.length
 |0=>by simp[cPre]
 |i+1=>by
  have h1:=QfW a f i
  have h2:=Qnx a f i (f.getD i 0)
  unfold cPre at h1⊢
  rw[List.range_succ,List.flatMap_append,List.length_append,Nat.succ_mul]
  simp only[List.flatMap_cons,List.flatMap_nil,List.append_nil]
  omega
theorem canon46 (a : Aut) (h : Raw a) : PSpec Tryz.prog 190 [aV a] (aV (canon a)) := by
  have hn5:=h.n5
  have hal:=h.al
  have hml:=h.ml
  obtain⟨f1,_,f3⟩:=Qea h.esn
  have hfl:=f1.len
  refine PSpec.of_rn 64 ok190 rfl (by(try simp only[noRefs,Qap,Qas,Qaa,Qaj,Qah,Qak,Qav,Qai,noRef,Bool.and_self,Bool.and_true])<;>rfl) (QcD _) ?_
  have hF:=found59 a h
  have hcan:canon a=⟨a.al,(found a).length,mks a (found a).length (found a),cPre a (found a) (found a).length⟩:=rfl
  rw[hcan]
  generalize found a=f at*
  simp(disch:=first|omega|(simp only[lenW]<;>omega)) only[s190,wW,wV,simprocAttr]
  refine cp hF ?_
  simp(disch:=first|omega|(simp only[lenW]<;>omega)) only[wW,wV,simprocAttr]
  refine cp (empty45 a.al (by omega)) ?_
  simp(disch:=first|omega|(simp only[lenW]<;>omega)) only[wW,wV,simprocAttr]
  refine Qaw 100 (fun i:Nat=>[(1,.ptr 50 0 0),(2,.ptr 51 0 0),(3,sliN f),(4,.ptr 52 0 0),(5,.int .i64 i)])
    (fun i=>[(50,.cells 0 [sliN a.al,.int .i64 (a.n:Int),sliN a.ms,egsN a.es]),(51,.cells 0 [.nilsl,.int .i64 0,.nilsl,.nilsl]),(52,.cells 0 [sliN a.al,.int .i64 f.length,.sl 77 0 0 (mks a i f).length 1,.sl 76 0 0 (cPre a f i).length 3]),(76,.cells 0 ((cPre a f i).flatMap edC)),(77,.cells 0 (ints (nz (mks a i f))))])
    (fun i=>i<=f.length) (fun i=>f.length-i) 0 0 160
    (fun _:Unit=>[(2,.ptr 51 0 0),(4,.ptr 52 0 0)])
    (fun _=>[(51,.cells 0 [.nilsl,.int .i64 0,.nilsl,.nilsl]),(52,.cells 0 [sliN a.al,.int .i64 f.length,.sl 77 0 0 (mks a f.length f).length 1,.sl 76 0 0 (cPre a f f.length).length 3]),(76,.cells 0 ((cPre a f f.length).flatMap edC)),(77,.cells 0 (ints (nz (mks a f.length f))))]) (fun _=>True) ?_ (Nat.zero_le _) ?_ ?_
  · exact⟨[(50,.blk 64 0),(51,.blk 65 0),(52,.blk 72 0),(76,.nil),(77,.nil)],rfl,au0,au7,au8⟩
  · rintro i hi
    by_cases hlt:i<f.length
    · obtain ⟨s, hs⟩ := Qad hlt
      have hsf:=List.mem_of_getElem? hs
      have hmn:=Qjo (a:=a) hs
      have hmsl:=@QkN a i f
      have hcl:=QfW a f i
      have hcl2:(cPre a f i).length<=1000:=Nat.le_trans hcl (Nat.le_trans (Nat.mul_le_mul (show i<=5 by omega) hal) (by decide))
      have hcs:=Qmx (a:=a) hs
      have hed0:=QbV (cPre a f i)
      have hh:=has36 (nz a.ms) s (by simp;omega)
      rw[Qjb,Qb3]at hh
      have hpart0:cPart a f i s 0=cPre a f i:=by simp[cPart]
      have hpartn:cPart a f i s a.al.length=cPre a f (i+1):=by rw[hcs];unfold cPart cRow;rw[List.take_length]
      generalize hM1:mks a (i+1) f=M1 at*
      generalize hM:mks a i f=M at*
      by_cases hmv:a.ms.contains s=true
      · rw [if_pos hmv] at hmn
        rw[hmv]at hh
        simp(disch:=first|omega|(simp only[lenW]<;>omega)) only[hlt,QaN hs,wW,wV,simprocAttr]
        refine ch (HSpec.lend (FrzL.same _) hh rfl) ?_
        simp(disch:=first|omega|(simp only[lenW]<;>omega)) only[wW,wV,simprocAttr]
        refine Qaw 300 (fun k:Nat=>[(1,.ptr 50 0 0),(2,.ptr 51 0 0),(3,sliN f),(4,.ptr 52 0 0),(5,.int .i64 i),(6,.int .i64 k)])
          (fun k=>[(50,.cells 0 [sliN a.al,.int .i64 (a.n:Int),sliN a.ms,egsN a.es]),(51,.cells 0 [.nilsl,.int .i64 0,.nilsl,.nilsl]),(52,.cells 0 [sliN a.al,.int .i64 f.length,.sl 77 0 0 M1.length 1,.sl 76 0 0 (cPart a f i s k).length 3]),(76,.cells 0 ((cPart a f i s k).flatMap edC)),(77,.cells 0 (ints (nz M1)))])
          (fun k=>k<=a.al.length) (fun k=>a.al.length-k) 0 2 400
          (fun _:Unit=>[(1,.ptr 50 0 0),(2,.ptr 51 0 0),(3,sliN f),(4,.ptr 52 0 0),(5,.int .i64 i)])
          (fun _=>[(50,.cells 0 [sliN a.al,.int .i64 (a.n:Int),sliN a.ms,egsN a.es]),(51,.cells 0 [.nilsl,.int .i64 0,.nilsl,.nilsl]),(52,.cells 0 [sliN a.al,.int .i64 f.length,.sl 77 0 0 M1.length 1,.sl 76 0 0 (cPre a f (i+1)).length 3]),(76,.cells 0 ((cPre a f (i+1)).flatMap edC)),(77,.cells 0 (ints (nz M1)))]) (fun _=>True) ?_ (Nat.zero_le _) ?_ ?_
        · rw [hpart0, hmn, List.length_append, QaK, QaD]
          exact⟨[(50,.blk 50 0),(51,.blk 51 0),(52,.blk 52 0),(76,.blk 76 0),(77,.blk 77 1)],rfl,au0,au7,au8⟩
        · rintro k hk
          by_cases hkl:k<a.al.length
          · obtain ⟨ev, hev⟩ := Qad hkl
            have hevm:=List.mem_of_getElem? hev
            have hst:=QhW (a:=a) (f:=f) (i:=i) (s:=s) hev
            have hpl:(cPart a f i s k).length<=2000:=by
              unfold cPart
              rw[List.length_append]
              have h1:=List.length_filterMap_le (fun ev=>(stepA a.es s ev).map fun to=>(i,ev,idx f to)) (a.al.take k)
              rw[List.length_take]at h1
              omega
            have hpe:=QbV (cPart a f i s k)
            have hps:cPart a f i s (k+1)=cPart a f i s k++match stepA a.es s ev with|some to=>[(i,ev,idx f to)]|none=>[]:=by
              unfold cPart;rw[hst,List.append_assoc]
            generalize cPart a f i s k=R at*
            simp(disch:=first|omega|(simp only[lenW]<;>omega)) only[hkl,hlt,QaN hs,QaN hev,wW,wV,simprocAttr]
            refine cp (step60 a s ev h.el) ?_
            cases hsa:stepA a.es s ev with
            | none =>
              have h1:stepI a.es s ev= -1:=by unfold stepI;rw[hsa]
              rw[hsa,List.append_nil]at hps
              rw[h1]
              simp(disch:=first|omega|(simp only[lenW]<;>omega)) only[wW,wV,simprocAttr]
              refine⟨k+1,by omega,by omega,?_⟩
              rw[hps]
              exact⟨[(50,.blk 50 0),(51,.blk 51 0),(52,.blk 52 0),(76,.blk 76 0),(77,.blk 77 0)],rfl,au0,au7,au8⟩
            | some to =>
              have h1:stepI a.es s ev=to:=by unfold stepI;rw[hsa]
              rw[hsa]at hps
              have hidx:=index61 (nz f) to (by simp;omega)
              rw[Qb3,Qjp (f3 s hsf ev hevm to hsa)]at hidx
              rw[h1]
              simp(disch:=first|omega|(simp only[lenW]<;>omega)) only[hkl,QaN hev,wW,wV,simprocAttr]
              refine cp hidx ?_
              simp(disch:=first|omega|(simp only[lenW]<;>omega)) only[hpe,wW,wV,simprocAttr]
              refine⟨k+1,by omega,by omega,?_⟩
              rw[hps,List.flatMap_append,List.length_append]
              exact⟨[(50,.blk 50 0),(51,.blk 51 0),(52,.blk 52 0),(76,.blk 76 1),(77,.blk 77 0)],rfl,au0,au7,au8⟩
          · have e : k = a.al.length := by omega
            subst e
            simp(disch:=first|omega|(simp only[lenW]<;>omega)) only[hkl,wW,wV,simprocAttr]
            refine⟨(),?_⟩
            rw[hpartn]
            exact⟨[(50,.blk 50 0),(51,.blk 51 0),(52,.blk 52 0),(76,.blk 76 0),(77,.blk 77 0)],rfl,au0,au7,au8⟩
        rintro _ _
        simp(disch:=first|omega|(simp only[lenW]<;>omega)) only[wW,wV,simprocAttr]
        refine⟨i+1,by omega,by omega,?_⟩
        rw[hM1]
        exact⟨[(50,.blk 50 0),(51,.blk 51 0),(52,.blk 52 0),(76,.blk 76 0),(77,.blk 77 0)],rfl,au0,au7,au8⟩
      · rw [if_neg hmv, List.append_nil] at hmn
        rw[Bool.not_eq_true]at hmv
        rw[hmv]at hh
        simp(disch:=first|omega|(simp only[lenW]<;>omega)) only[hlt,QaN hs,wW,wV,simprocAttr]
        refine ch (HSpec.lend (FrzL.same _) hh rfl) ?_
        simp(disch:=first|omega|(simp only[lenW]<;>omega)) only[wW,wV,simprocAttr]
        refine Qaw 300 (fun k:Nat=>[(1,.ptr 50 0 0),(2,.ptr 51 0 0),(3,sliN f),(4,.ptr 52 0 0),(5,.int .i64 i),(6,.int .i64 k)])
          (fun k=>[(50,.cells 0 [sliN a.al,.int .i64 (a.n:Int),sliN a.ms,egsN a.es]),(51,.cells 0 [.nilsl,.int .i64 0,.nilsl,.nilsl]),(52,.cells 0 [sliN a.al,.int .i64 f.length,.sl 77 0 0 M1.length 1,.sl 76 0 0 (cPart a f i s k).length 3]),(76,.cells 0 ((cPart a f i s k).flatMap edC)),(77,.cells 0 (ints (nz M1)))])
          (fun k=>k<=a.al.length) (fun k=>a.al.length-k) 0 2 400
          (fun _:Unit=>[(1,.ptr 50 0 0),(2,.ptr 51 0 0),(3,sliN f),(4,.ptr 52 0 0),(5,.int .i64 i)])
          (fun _=>[(50,.cells 0 [sliN a.al,.int .i64 (a.n:Int),sliN a.ms,egsN a.es]),(51,.cells 0 [.nilsl,.int .i64 0,.nilsl,.nilsl]),(52,.cells 0 [sliN a.al,.int .i64 f.length,.sl 77 0 0 M1.length 1,.sl 76 0 0 (cPre a f (i+1)).length 3]),(76,.cells 0 ((cPre a f (i+1)).flatMap edC)),(77,.cells 0 (ints (nz M1)))]) (fun _=>True) ?_ (Nat.zero_le _) ?_ ?_
        · rw [hpart0, hmn]
          exact⟨[(50,.blk 50 0),(51,.blk 51 0),(52,.blk 52 0),(76,.blk 76 0),(77,.blk 77 0)],rfl,au0,au7,au8⟩
        · rintro k hk
          by_cases hkl:k<a.al.length
          · obtain ⟨ev, hev⟩ := Qad hkl
            have hevm:=List.mem_of_getElem? hev
            have hst:=QhW (a:=a) (f:=f) (i:=i) (s:=s) hev
            have hpl:(cPart a f i s k).length<=2000:=by
              unfold cPart
              rw[List.length_append]
              have h1:=List.length_filterMap_le (fun ev=>(stepA a.es s ev).map fun to=>(i,ev,idx f to)) (a.al.take k)
              rw[List.length_take]at h1
              omega
            have hpe:=QbV (cPart a f i s k)
            have hps:cPart a f i s (k+1)=cPart a f i s k++match stepA a.es s ev with|some to=>[(i,ev,idx f to)]|none=>[]:=by
              unfold cPart;rw[hst,List.append_assoc]
            generalize cPart a f i s k=R at*
            simp(disch:=first|omega|(simp only[lenW]<;>omega)) only[hkl,hlt,QaN hs,QaN hev,wW,wV,simprocAttr]
            refine cp (step60 a s ev h.el) ?_
            cases hsa:stepA a.es s ev with
            | none =>
              have h1:stepI a.es s ev= -1:=by unfold stepI;rw[hsa]
              rw[hsa,List.append_nil]at hps
              rw[h1]
              simp(disch:=first|omega|(simp only[lenW]<;>omega)) only[wW,wV,simprocAttr]
              refine⟨k+1,by omega,by omega,?_⟩
              rw[hps]
              exact⟨[(50,.blk 50 0),(51,.blk 51 0),(52,.blk 52 0),(76,.blk 76 0),(77,.blk 77 0)],rfl,au0,au7,au8⟩
            | some to =>
              have h1:stepI a.es s ev=to:=by unfold stepI;rw[hsa]
              rw[hsa]at hps
              have hidx:=index61 (nz f) to (by simp;omega)
              rw[Qb3,Qjp (f3 s hsf ev hevm to hsa)]at hidx
              rw[h1]
              simp(disch:=first|omega|(simp only[lenW]<;>omega)) only[hkl,QaN hev,wW,wV,simprocAttr]
              refine cp hidx ?_
              simp(disch:=first|omega|(simp only[lenW]<;>omega)) only[hpe,wW,wV,simprocAttr]
              refine⟨k+1,by omega,by omega,?_⟩
              rw[hps,List.flatMap_append,List.length_append]
              exact⟨[(50,.blk 50 0),(51,.blk 51 0),(52,.blk 52 0),(76,.blk 76 1),(77,.blk 77 0)],rfl,au0,au7,au8⟩
          · have e : k = a.al.length := by omega
            subst e
            simp(disch:=first|omega|(simp only[lenW]<;>omega)) only[hkl,wW,wV,simprocAttr]
            refine⟨(),?_⟩
            rw[hpartn]
            exact⟨[(50,.blk 50 0),(51,.blk 51 0),(52,.blk 52 0),(76,.blk 76 0),(77,.blk 77 0)],rfl,au0,au7,au8⟩
        rintro _ _
        simp(disch:=first|omega|(simp only[lenW]<;>omega)) only[wW,wV,simprocAttr]
        refine⟨i+1,by omega,by omega,?_⟩
        rw[hM1]
        exact⟨[(50,.blk 50 0),(51,.blk 51 0),(52,.blk 52 0),(76,.blk 76 0),(77,.blk 77 0)],rfl,au0,au7,au8⟩
    · have e : i = f.length := by omega
      subst e
      simp(disch:=first|omega|(simp only[lenW]<;>omega)) only[hlt,wW,wV,simprocAttr]
      refine⟨(),?_⟩
      exact⟨[(51,.blk 51 0),(52,.blk 52 0),(76,.blk 76 0),(77,.blk 77 0)],rfl,au0,au7,au8⟩
  rintro _ _
  simp(disch:=first|omega|(simp only[lenW]<;>omega)) only[wW,wV,simprocAttr]
  refine⟨.inr trivial,_,rfl,?_⟩
  exact Rn.agg (RnL.cons (Rn.same (Qab _)) (RnL.cons (Rn.same rfl) (RnL.cons (Rn.fz0 (g:=0) rfl (by simp[ints]) (RnL.same (Qaa _))) (RnL.cons (Rn.fz0 (g:=0) rfl (QbV _) (RnL.same (Qah _))) RnL.nil))))
end Go.AM.SE
namespace Go.AM.SE
open Go.Proofs Go.AM.SD
def u8s (l:List Nat):List AV:=l.map fun x:Nat=> .int .u8 (x:Int)
theorem Qau (l:List Nat):noRefs (u8s l)=true:=QcM (fun _=>rfl) l
theorem QgB {l:List Nat} {i x:Nat} (h:l[i]?=some x):(u8s l)[i]?=some (.int .u8 (x:Int)):=by simp[u8s,h]
def gEd (al:List Nat) (n:Nat) (T:List Nat) (i k:Nat):Option Ed:=if T.getD (i*5+k) 0 % (n+2)<n then some (i,al.getD k 0,T.getD (i*5+k) 0 % (n+2))else none
def gRow (al:List Nat) (n:Nat) (T:List Nat) (i k:Nat):List Ed:=(List.range k).filterMap (gEd al n T i)
def gPre (al:List Nat) (n:Nat) (T:List Nat) (i:Nat):List Ed:=(List.range i).flatMap fun i=>gRow al n T i al.length
def gPart (al:List Nat) (n:Nat) (T:List Nat) (i k:Nat):List Ed:=gPre al n T i++gRow al n T i k
def gRaw (al:List Nat) (st mk:Nat) (T:List Nat):Aut:=if 250<=st then⟨al,0,[],[]⟩else⟨al,1+st % 5,SD.part (1+st % 5) mk,gPre al (1+st % 5) T (1+st % 5)⟩
theorem Qny {al:List Nat} {n:Nat} {T:List Nat} {i k:Nat} {e:Ed} (h:e∈gRow al n T i k):e.1=i/\e.2.2<n:=by
 unfold gRow at h
 obtain⟨j,_,hj⟩:=List.mem_filterMap.1 h
 unfold gEd at hj
 split at hj
 ·rename_i h1;cases hj;exact⟨rfl,h1⟩
 ·cases hj
theorem QhX {al:List Nat} {n:Nat} {T:List Nat} {i k:Nat}:gRow al n T i (k+1)=gRow al n T i k++match gEd al n T i k with|some e=>[e]|none=>[]:=by
 unfold gRow
 rw[List.range_succ,List.filterMap_append]
 congr 1
 cases e:gEd al n T i k<;>simp[e]
theorem QfX {al:List Nat} {n:Nat} {T:List Nat} {i k:Nat}:(gRow al n T i k).length<=k:=by
 unfold gRow;exact Nat.le_trans (List.length_filterMap_le _ _) (by simp)
theorem QfY {al:List Nat} {n:Nat} {T:List Nat} (hal:al.length<=5):∀i,(gPre al n T i).length<=i*5
 |0=>by simp[gPre]
 |i+1=>by
  have h1:=QfY (n:=n) (T:=T) hal i
  have h2:=@QfX al n T i al.length
  unfold gPre at h1⊢
  rw[List.range_succ,List.flatMap_append,List.length_append,Nat.succ_mul,List.flatMap_cons,List.flatMap_nil,List.append_nil]
  omega
theorem Qmy {al:List Nat} {n:Nat} {T:List Nat} {i:Nat}:gPre al n T (i+1)=gPart al n T i al.length:=by
 unfold gPart gPre
 rw[List.range_succ,List.flatMap_append,List.flatMap_cons,List.flatMap_nil,List.append_nil]
theorem Qeg {al:List Nat} {st mk:Nat} {T:List Nat} (hal:al.length<=5):Raw (gRaw al st mk T):=by
  unfold gRaw
  split
  · exact⟨by simp,by simp,by simp,by dsimp only;omega,by simp⟩
  · have h5 : 1 + st % 5 <= 5 := by omega
    refine⟨fun e he=>?_,h5,?_,by dsimp only;omega,?_⟩
    · unfold gPre at he
      obtain⟨i,hi,he⟩:=List.mem_flatMap.1 he
      have:=List.mem_range.1 hi
      obtain⟨h1,h2⟩:=Qny he
      exact⟨by rw[h1];exact this,h2⟩
    · have := QfY (n := 1 + st % 5) (T := T) hal (1 + st % 5)
      dsimp only;omega
    · have := @QcE (1 + st % 5) mk
      dsimp only;omega
def mkA (al:List Nat) (st mk:Nat) (T:List Nat):Aut:=canon (gRaw al st mk T)
theorem QoY {al:List Nat} {st mk:Nat} {T:List Nat} (hs:al.Pairwise (· < ·)) (h5:∀x∈al,x<5):WfA (mkA al st mk T):=by
 have hal:al.length<=5:=Qcp hs h5
 have hr:=Qeg (st:=st) (mk:=mk) (T:=T) hal
 have ha:(gRaw al st mk T).al=al:=by unfold gRaw;split<;>rfl
 exact Qnh (by rw[ha];exact hs) (by rw[ha];exact fun x hx=>by have:=h5 x hx;omega) (by have:=hr.n5;omega) hr.esn
abbrev grV (st mk:Nat) (T:List Nat):AV:= .agg (.int .u8 (st:Int):: .int .u8 (mk:Int)::u8s T)
theorem _root_.Go.AM.au9 {p:Prop} (h:p:=by repeat' (first|exact RB.nil|(refine RnL.same ?_;first|rfl|(simp only[noRef,noRefs,Qaf,Bool.and_self,Bool.and_true,Bool.true_and,Qaa,Qau,Qaj,Qah,Qak,Qav,Qbt,Qai,Qan,Qab,Qa9,QaM,Qap,Qas,QbO];done))|exact RnM.keyM rfl|exact RnL.nil|exact(True.intro:RnM _ _ _ [] [])|refine RnL.cons ?_ ?_|(refine Rn.same ?_;first|rfl|(simp only[noRef,noRefs,Qaf,Bool.and_self,Bool.and_true,Bool.true_and,Qaa,Qau,Qaj,Qah,Qak,Qav,Qbt,Qai,Qan,Qab,Qa9,QaM,Qap,Qas,QbO];done))|exact Rn.x1 rfl rfl|exact Rn.x2 rfl rfl|exact Rn.x3 rfl rfl|exact Rn.x4 rfl rfl|exact Rn.x5 rfl|exact Rn.x6 rfl|exact Rn.x7 rfl|refine RB.newnil rfl rfl ?_|refine RB.cells rfl rfl rfl ?_ ?_|refine RB.map rfl rfl rfl ?_ ?_|refine RB.cellsB rfl rfl ?_ ?_|refine RB.mapB rfl rfl ?_ ?_)):p:=h
theorem _root_.Go.AM.au10 {p:Prop} (h:p:=by repeat (first|exact RT.nil|(refine RT.cons ?_ ?_; · (first|exact Rn.any|exact Rn.x1 rfl rfl|exact Rn.x2 rfl rfl|exact Rn.x3 rfl rfl|exact Rn.x4 rfl rfl|exact Rn.x5 rfl|exact Rn.x6 rfl|exact Rn.x7 rfl|(refine Rn.slot ?_ ?_;(first|rfl|(rw[Int.natCast_add];rfl));(first|rfl|(simp only[noRef,noRefs,Qaf,Bool.and_self,Bool.and_true,Bool.true_and,Qaa,Qau,Qaj,Qah,Qak,Qav,Qbt,Qai,Qan,Qab,Qa9,QaM,Qap,Qas,QbO];done)))|(refine Rn.fn ?_ ?_<;>(repeat' (first|exact RnL.nil|refine RnL.cons ?_ ?_|exact Rn.same rfl|exact Rn.x6 rfl|exact Rn.x2 rfl rfl|exact Rn.x5 rfl|exact Rn.x1 rfl rfl))))))):p:=h
theorem Make32 (al : List Nat) (st mk : Nat) (T : List Nat) (hs : al.Pairwise (· < ·)) (h5 : ∀ x ∈ al, x < 5) (hst : st < 256) (hmk : mk < 256) (hT : T.length = 25) (hT8 : ∀ x ∈ T, x < 256) :
    PSpec Tryz.prog 150 [sliN al,grV st mk T] (aV (mkA al st mk T)):=by
  have hal:al.length<=5:=Qcp hs h5
  have hlu:(u8s T).length=25:=by simp[u8s,hT]
  have hcan:=canon46 (gRaw al st mk T) (Qeg hal)
  refine PSpec.of_rn 40 ok150 rfl (by(try simp only[noRefs,Qau,Qap,Qas,Qaa,Qaj,Qah,Qak,Qav,Qai,noRef,Bool.and_self,Bool.and_true])<;>rfl) (QcD _) ?_
  unfold mkA
  by_cases h0:250<=st
  · have h0' : (250 : Int) <= (st : Int) := by omega
    have hr:gRaw al st mk T=⟨al,0,[],[]⟩:=if_pos h0
    have hc:canon (gRaw al st mk T)=⟨al,0,[],[]⟩:=by rw[hr];rfl
    rw[hc]
    simp(disch:=first|omega|(simp only[lenW]<;>omega)) only[s150,h0',wW,wV,simprocAttr]
    refine cp (empty45 al (by omega)) ?_
    simp(disch:=first|omega|(simp only[lenW]<;>omega)) only[wW,wV,simprocAttr]
    refine⟨.inr trivial,_,rfl,?_⟩
    exact Rn.agg (RnL.cons (Rn.same (Qab _)) (RnL.cons (Rn.same rfl) (RnL.cons Rn.nilK (RnL.cons Rn.nilK RnL.nil))))
  have h0':¬(250:Int)<=(st:Int):=by omega
  have hr:gRaw al st mk T=⟨al,1+st % 5,SD.part (1+st % 5) mk,gPre al (1+st % 5) T (1+st % 5)⟩:=if_neg h0
  rw[hr]at hcan⊢
  have hn5:1+st % 5<=5:=by omega
  obtain⟨n,hN⟩:∃n,n=1+st % 5:=⟨_,rfl⟩
  rw[<-hN]at hr hcan hn5⊢
  have hnn:(1:Int)+((st % 5:Nat):Int)=(n:Int):=by omega
  simp(disch:=first|omega|(simp only[lenW]<;>omega)) only[s150,h0',wW,wV,simprocAttr]
  refine cp (empty45 al (by omega)) ?_
  have htm:(st:Int).tmod 5=((st % 5:Nat):Int):=by
    rw[Int.tmod_eq_emod_of_nonneg (Int.natCast_nonneg _)];norm_cast
  simp(disch:=first|omega|(simp only[lenW]<;>omega)) only[htm,hnn,wW,wV,simprocAttr]
  refine Qaw 100 (fun i:Nat=>[(0,sliN al),(3,.ptr 50 0 0),(4,.ptr 51 0 0),(5,.ptr 52 0 0),(6,.int .i64 i)])
    (fun i=>[(50,.cells 0 (.int .u8 (st:Int):: .int .u8 (mk:Int)::u8s T)),(51,.cells 0 [.nilsl,.int .i64 0,.nilsl,.nilsl]),(52,.cells 0 [sliN al,.int .i64 (n:Int),.sl 77 0 0 (SD.part i mk).length 1,.sl 76 0 0 (gPre al n T i).length 3]),(76,.cells 0 ((gPre al n T i).flatMap edC)),(77,.cells 0 (ints (nz (SD.part i mk))))])
    (fun i=>i<=n) (fun i=>n-i) 0 0 160
    (fun _:Unit=>[(4,.ptr 51 0 0),(5,.ptr 52 0 0)])
    (fun _=>[(51,.cells 0 [.nilsl,.int .i64 0,.nilsl,.nilsl]),(52,.cells 0 [sliN al,.int .i64 (n:Int),sliN (SD.part n mk),egsN (gPre al n T n)])]) (fun _=>True) ?_ (Nat.zero_le _) ?_ ?_
  · exact⟨[(50,.blk 40 0),(51,.blk 41 0),(52,.blk 47 0),(76,.nil),(77,.nil)],rfl,au0,au9,au10⟩
  · rintro i hi
    by_cases hlt:i<n
    · have hpt := QcT (n := n) (b := mk) (i := i)
      have hpl:=@QcE i mk
      have hgl:=QfY (n:=n) (T:=T) hal i
      have hg0:gPart al n T i 0=gPre al n T i:=by simp[gPart,gRow]
      have hgs:=Qmy (al:=al) (n:=n) (T:=T) (i:=i)
      have hed0:=QbV (gPre al n T i)
      generalize hM1:SD.part (i+1) mk=M1 at*
      generalize hM:SD.part i mk=M at*
      by_cases hmv:mk.testBit i=true
      · rw [if_pos hmv] at hpt
        have hb:=Qc7.2 hmv
        simp(disch:=first|omega|(simp only[lenW]<;>omega)) only[hlt,Qcf (k:= .u8) (show i<=8 by omega),Qcg,hb,wW,wV,simprocAttr]
        refine Qaw 300 (fun k:Nat=>[(0,sliN al),(3,.ptr 50 0 0),(4,.ptr 51 0 0),(5,.ptr 52 0 0),(6,.int .i64 i),(7,.int .i64 k)])
          (fun k=>[(50,.cells 0 (.int .u8 (st:Int):: .int .u8 (mk:Int)::u8s T)),(51,.cells 0 [.nilsl,.int .i64 0,.nilsl,.nilsl]),(52,.cells 0 [sliN al,.int .i64 (n:Int),.sl 77 0 0 M1.length 1,.sl 76 0 0 (gPart al n T i k).length 3]),(76,.cells 0 ((gPart al n T i k).flatMap edC)),(77,.cells 0 (ints (nz M1)))])
          (fun k=>k<=al.length) (fun k=>al.length-k) 0 2 400
          (fun _:Unit=>[(0,sliN al),(3,.ptr 50 0 0),(4,.ptr 51 0 0),(5,.ptr 52 0 0),(6,.int .i64 i)])
          (fun _=>[(50,.cells 0 (.int .u8 (st:Int):: .int .u8 (mk:Int)::u8s T)),(51,.cells 0 [.nilsl,.int .i64 0,.nilsl,.nilsl]),(52,.cells 0 [sliN al,.int .i64 (n:Int),.sl 77 0 0 M1.length 1,.sl 76 0 0 (gPre al n T (i+1)).length 3]),(76,.cells 0 ((gPre al n T (i+1)).flatMap edC)),(77,.cells 0 (ints (nz M1)))]) (fun _=>True) ?_ (Nat.zero_le _) ?_ ?_
        · rw [hg0, hpt, List.length_append, QaK, QaD]
          exact⟨[(50,.blk 50 0),(51,.blk 51 0),(52,.blk 52 0),(76,.blk 76 0),(77,.blk 77 1)],rfl,au0,au9,au10⟩
        · rintro k hk
          by_cases hkl:k<al.length
          · obtain ⟨ev, hev⟩ := Qad hkl
            have hevD:al.getD k 0=ev:=by rw[List.getD_eq_getElem?_getD,hev];rfl
            obtain⟨x,hx⟩:=Qad (l:=T) (i:=i*5+k) (by omega)
            have hxD:T.getD (i*5+k) 0=x:=by rw[List.getD_eq_getElem?_getD,hx];rfl
            have hx8:=hT8 x (List.mem_of_getElem? hx)
            have hk5:(k:Int)<5:=by omega
            have hi5:(i:Int)<5:=by omega
            have hgx:(AV.int .u8 (st:Int)::AV.int .u8 (mk:Int)::u8s T)[2+i*5+k]?=some (.int .u8 (x:Int)):=by
              rw[show 2+i*5+k=(i*5+k)+2 by omega]
              simpa using QgB hx
            have hrm:(x:Int).tmod ((n:Int)+2)=((x % (n+2):Nat):Int):=by
              rw[Int.tmod_eq_emod_of_nonneg (Int.natCast_nonneg _)];norm_cast
            have hn0:¬(n:Int)+2=0:=by omega
            have hxm:x % (n+2)<=10:=by have:=Nat.mod_lt x (show 0<n+2 by omega);omega
            have hst:=QhX (al:=al) (n:=n) (T:=T) (i:=i) (k:=k)
            have hrl:=@QfX al n T i k
            have hps:gPart al n T i (k+1)=gPart al n T i k++match gEd al n T i k with|some e=>[e]|none=>[]:=by
              unfold gPart;rw[hst,List.append_assoc]
            have hpl2:(gPart al n T i k).length<=100:=by unfold gPart;rw[List.length_append];omega
            have hpe:=QbV (gPart al n T i k)
            unfold gEd at hps
            rw[hxD,hevD]at hps
            generalize gPart al n T i k=R at*
            by_cases ht:x % (n+2)<n
            · rw [if_pos ht] at hps
              simp(disch:=first|omega|(simp only[lenW]<;>omega)) only[hkl,hk5,hi5,hgx,hn0,hrm,ht,QaN hev,hpe,wW,wV,simprocAttr]
              refine⟨k+1,by omega,by omega,?_⟩
              rw[hps,List.flatMap_append,List.length_append]
              exact⟨[(50,.blk 50 0),(51,.blk 51 0),(52,.blk 52 0),(76,.blk 76 1),(77,.blk 77 0)],rfl,au0,au9,au10⟩
            · rw [if_neg ht, List.append_nil] at hps
              simp(disch:=first|omega|(simp only[lenW]<;>omega)) only[hkl,hk5,hi5,hgx,hn0,hrm,ht,wW,wV,simprocAttr]
              refine⟨k+1,by omega,by omega,?_⟩
              rw[hps]
              exact⟨[(50,.blk 50 0),(51,.blk 51 0),(52,.blk 52 0),(76,.blk 76 0),(77,.blk 77 0)],rfl,au0,au9,au10⟩
          · have e : k = al.length := by omega
            subst e
            simp(disch:=first|omega|(simp only[lenW]<;>omega)) only[hkl,wW,wV,simprocAttr]
            refine⟨(),?_⟩
            rw[hgs]
            exact⟨[(50,.blk 50 0),(51,.blk 51 0),(52,.blk 52 0),(76,.blk 76 0),(77,.blk 77 0)],rfl,au0,au9,au10⟩
        rintro _ _
        simp(disch:=first|omega|(simp only[lenW]<;>omega)) only[wW,wV,simprocAttr]
        refine⟨i+1,by omega,by omega,?_⟩
        rw[hM1]
        exact⟨[(50,.blk 50 0),(51,.blk 51 0),(52,.blk 52 0),(76,.blk 76 0),(77,.blk 77 0)],rfl,au0,au9,au10⟩
      · rw [if_neg hmv, List.append_nil] at hpt
        have hb:¬((mk/2^i % 2:Nat):Int)=1:=fun e=>hmv (Qc7.1 e)
        simp(disch:=first|omega|(simp only[lenW]<;>omega)) only[hlt,Qcf (k:= .u8) (show i<=8 by omega),Qcg,hb,wW,wV,simprocAttr]
        refine Qaw 300 (fun k:Nat=>[(0,sliN al),(3,.ptr 50 0 0),(4,.ptr 51 0 0),(5,.ptr 52 0 0),(6,.int .i64 i),(7,.int .i64 k)])
          (fun k=>[(50,.cells 0 (.int .u8 (st:Int):: .int .u8 (mk:Int)::u8s T)),(51,.cells 0 [.nilsl,.int .i64 0,.nilsl,.nilsl]),(52,.cells 0 [sliN al,.int .i64 (n:Int),.sl 77 0 0 M1.length 1,.sl 76 0 0 (gPart al n T i k).length 3]),(76,.cells 0 ((gPart al n T i k).flatMap edC)),(77,.cells 0 (ints (nz M1)))])
          (fun k=>k<=al.length) (fun k=>al.length-k) 0 2 400
          (fun _:Unit=>[(0,sliN al),(3,.ptr 50 0 0),(4,.ptr 51 0 0),(5,.ptr 52 0 0),(6,.int .i64 i)])
          (fun _=>[(50,.cells 0 (.int .u8 (st:Int):: .int .u8 (mk:Int)::u8s T)),(51,.cells 0 [.nilsl,.int .i64 0,.nilsl,.nilsl]),(52,.cells 0 [sliN al,.int .i64 (n:Int),.sl 77 0 0 M1.length 1,.sl 76 0 0 (gPre al n T (i+1)).length 3]),(76,.cells 0 ((gPre al n T (i+1)).flatMap edC)),(77,.cells 0 (ints (nz M1)))]) (fun _=>True) ?_ (Nat.zero_le _) ?_ ?_
        · rw [hg0, hpt]
          exact⟨[(50,.blk 50 0),(51,.blk 51 0),(52,.blk 52 0),(76,.blk 76 0),(77,.blk 77 0)],rfl,au0,au9,au10⟩
        · rintro k hk
          by_cases hkl:k<al.length
          · obtain ⟨ev, hev⟩ := Qad hkl
            have hevD:al.getD k 0=ev:=by rw[List.getD_eq_getElem?_getD,hev];rfl
            obtain⟨x,hx⟩:=Qad (l:=T) (i:=i*5+k) (by omega)
            have hxD:T.getD (i*5+k) 0=x:=by rw[List.getD_eq_getElem?_getD,hx];rfl
            have hx8:=hT8 x (List.mem_of_getElem? hx)
            have hk5:(k:Int)<5:=by omega
            have hi5:(i:Int)<5:=by omega
            have hgx:(AV.int .u8 (st:Int)::AV.int .u8 (mk:Int)::u8s T)[2+i*5+k]?=some (.int .u8 (x:Int)):=by
              rw[show 2+i*5+k=(i*5+k)+2 by omega]
              simpa using QgB hx
            have hrm:(x:Int).tmod ((n:Int)+2)=((x % (n+2):Nat):Int):=by
              rw[Int.tmod_eq_emod_of_nonneg (Int.natCast_nonneg _)];norm_cast
            have hn0:¬(n:Int)+2=0:=by omega
            have hxm:x % (n+2)<=10:=by have:=Nat.mod_lt x (show 0<n+2 by omega);omega
            have hst:=QhX (al:=al) (n:=n) (T:=T) (i:=i) (k:=k)
            have hrl:=@QfX al n T i k
            have hps:gPart al n T i (k+1)=gPart al n T i k++match gEd al n T i k with|some e=>[e]|none=>[]:=by
              unfold gPart;rw[hst,List.append_assoc]
            have hpl2:(gPart al n T i k).length<=100:=by unfold gPart;rw[List.length_append];omega
            have hpe:=QbV (gPart al n T i k)
            unfold gEd at hps
            rw[hxD,hevD]at hps
            generalize gPart al n T i k=R at*
            by_cases ht:x % (n+2)<n
            · rw [if_pos ht] at hps
              simp(disch:=first|omega|(simp only[lenW]<;>omega)) only[hkl,hk5,hi5,hgx,hn0,hrm,ht,QaN hev,hpe,wW,wV,simprocAttr]
              refine⟨k+1,by omega,by omega,?_⟩
              rw[hps,List.flatMap_append,List.length_append]
              exact⟨[(50,.blk 50 0),(51,.blk 51 0),(52,.blk 52 0),(76,.blk 76 1),(77,.blk 77 0)],rfl,au0,au9,au10⟩
            · rw [if_neg ht, List.append_nil] at hps
              simp(disch:=first|omega|(simp only[lenW]<;>omega)) only[hkl,hk5,hi5,hgx,hn0,hrm,ht,wW,wV,simprocAttr]
              refine⟨k+1,by omega,by omega,?_⟩
              rw[hps]
              exact⟨[(50,.blk 50 0),(51,.blk 51 0),(52,.blk 52 0),(76,.blk 76 0),(77,.blk 77 0)],rfl,au0,au9,au10⟩
          · have e : k = al.length := by omega
            subst e
            simp(disch:=first|omega|(simp only[lenW]<;>omega)) only[hkl,wW,wV,simprocAttr]
            refine⟨(),?_⟩
            rw[hgs]
            exact⟨[(50,.blk 50 0),(51,.blk 51 0),(52,.blk 52 0),(76,.blk 76 0),(77,.blk 77 0)],rfl,au0,au9,au10⟩
        rintro _ _
        simp(disch:=first|omega|(simp only[lenW]<;>omega)) only[wW,wV,simprocAttr]
        refine⟨i+1,by omega,by omega,?_⟩
        rw[hM1]
        exact⟨[(50,.blk 50 0),(51,.blk 51 0),(52,.blk 52 0),(76,.blk 76 0),(77,.blk 77 0)],rfl,au0,au9,au10⟩
    · have e : i = n := by omega
      subst e
      simp(disch:=first|omega|(simp only[lenW]<;>omega)) only[hlt,wW,wV,simprocAttr]
      refine⟨(),[(51,.blk 51 0),(52,.blk 52 0)],rfl,RO.zero,?_,au10⟩
      refine RB.cells rfl rfl rfl (RnL.same rfl) (RB.cells rfl rfl rfl (RnL.cons (Rn.same (Qab _)) (RnL.cons (Rn.same rfl) (RnL.cons (Rn.fzm rfl rfl rfl rfl (by simp[ints]) (RnL.same (Qaa _))) (RnL.cons (Rn.fzm rfl rfl rfl rfl (QbV _) (RnL.same (Qah _))) RnL.nil)))) RB.nil)
  rintro _ _
  simp(disch:=first|omega|(simp only[lenW]<;>omega)) only[wW,wV,simprocAttr]
  refine cp hcan ?_
  generalize canon ⟨al,n,SD.part n mk,gPre al n T n⟩=C at*
  simp(disch:=first|omega|(simp only[lenW]<;>omega)) only[wW,wV,simprocAttr]
  exact⟨.inr trivial,_,rfl,Rn.same (QcD _)⟩
end Go.AM.SE
namespace Go.AM.SO
open Go.Proofs Go.AM.SD Go.AM.SE
def mrg (k:Bool->Bool->Bool):List Nat->List Nat->List Nat
 |[],[]=>[]
 |a::A,[]=>(if k true false=true then[a]else[])++mrg k A []
 |[],b::B=>(if k false true=true then[b]else[])++mrg k [] B
 |a::A,b::B=>if a<b then(if k true false=true then[a]else[])++mrg k A (b::B)
  else if b<a then(if k false true=true then[b]else[])++mrg k (a::A) B
  else(if k true true=true then[a]else[])++mrg k A B
termination_by A B=>A.length+B.length
theorem Qbr {k : Bool -> Bool -> Bool} {x : Nat} : ∀ {A B : List Nat}, A.Pairwise (· < ·) -> B.Pairwise (· < ·) -> (x ∈ mrg k A B ↔ k (decide (x ∈ A)) (decide (x ∈ B)) = true /\ (x ∈ A \/ x ∈ B))
  |[],[],_,_=>by simp[mrg]
  | a :: A, [], hA, hB => by
    have ih:=Qbr (k:=k) (x:=x) (List.pairwise_cons.1 hA).2 hB
    grind [mrg]
  | [], b :: B, hA, hB => by
    have ih:=Qbr (k:=k) (x:=x) hA (List.pairwise_cons.1 hB).2
    grind [mrg]
  | a :: A, b :: B, hA, hB => by
    have hA1:=(List.pairwise_cons.1 hA).1
    have hB1:=(List.pairwise_cons.1 hB).1
    rw[mrg]
    by_cases h1:a<b
    · have ih := Qbr (k := k) (x := x) (List.pairwise_cons.1 hA).2 hB
      grind
    · rw [if_neg h1]
      by_cases h2:b<a
      · have ih := Qbr (k := k) (x := x) hA (List.pairwise_cons.1 hB).2
        grind
      · have e1 : a = b := by omega
        subst e1
        have ih:=Qbr (k:=k) (x:=x) (List.pairwise_cons.1 hA).2 (List.pairwise_cons.1 hB).2
        grind
termination_by A B=>A.length+B.length
theorem Qb0 {k:Bool->Bool->Bool}:∀{A B:List Nat},A.Pairwise (· < ·)->B.Pairwise (· < ·)->(mrg k A B).Pairwise (· < ·)
 |[],[],_,_=>by simp[mrg]
 |a::A,[],hA,hB=>by
  have ih:=Qb0 (k:=k) (List.pairwise_cons.1 hA).2 hB
  grind [List.pairwise_cons,mrg,Qbr]
 |[],b::B,hA,hB=>by
  have ih:=Qb0 (k:=k) hA (List.pairwise_cons.1 hB).2
  grind [List.pairwise_cons,mrg,Qbr]
 | a :: A, b :: B, hA, hB => by
  have hA1:=(List.pairwise_cons.1 hA).1
  have hB1:=(List.pairwise_cons.1 hB).1
  rw[mrg]
  split
  ·rename_i h1
   rw[List.pairwise_append]
   refine⟨by split<;>simp,Qb0 (List.pairwise_cons.1 hA).2 hB,fun x hx y hy=>?_⟩
   have hx:x=a:=by simp_all
   have:=(Qbr (List.pairwise_cons.1 hA).2 hB).1 hy
   grind
  ·rename_i h1
   split
   ·rename_i h2
    rw[List.pairwise_append]
    refine⟨by split<;>simp,Qb0 hA (List.pairwise_cons.1 hB).2,fun x hx y hy=>?_⟩
    have hx:x=b:=by simp_all
    have:=(Qbr hA (List.pairwise_cons.1 hB).2).1 hy
    grind
   ·rename_i h2
    have e1:a=b:=by omega
    subst e1
    rw[List.pairwise_append]
    refine⟨by split<;>simp,Qb0 (List.pairwise_cons.1 hA).2 (List.pairwise_cons.1 hB).2,fun x hx y hy=>?_⟩
    grind [Qbr]
termination_by A B=>A.length+B.length
end Go.AM.SO
namespace Go.AM.SO
open Go.Proofs Go.AM.SD Go.AM.SE
theorem iaddr0 {a:Nat} {A:List Nat}:aIAddr none 1 (sliN (a::A)) (.int .i64 0)=some (.fptr (ints (nz (a::A)))):=by
 simp[aIAddr]
theorem head0 {a:Nat} {A:List Nat}:(ints (nz (a::A))).head?=some (.int .i64 (a:Int)):=rfl
theorem tk1 {b:Nat} {B1:List Nat}:List.take (B1.length+1-1) (List.drop 1 (ints (nz (b::B1))))=ints (nz B1):=by
 simp only[ints,nz,List.map_cons,List.drop_succ_cons,List.drop_zero]
 exact List.take_of_length_le (by simp)
theorem tk2 {b:Nat} {B1:List Nat}:List.take B1.length (List.drop 1 (ints (nz (b::B1))))=ints (nz B1):=by
 simp only[ints,nz,List.map_cons,List.drop_succ_cons,List.drop_zero]
 exact List.take_of_length_le (by simp)
theorem union169 (a b:Bool):PSpec Tryz.prog 195 [.bool a,.bool b] (.bool (a||b)):=by
  refine PSpec.Qag 64 ok195 rfl rfl rfl ?_
  cases a
  · simp (disch := first | omega | (simp only [lenW] <;> omega)) only [s195, wV, simprocAttr]
    exact⟨.inr trivial,_,rfl,by simp[resOf,QaG]⟩
  · simp (disch := first | omega | (simp only [lenW] <;> omega)) only [s195, wV, simprocAttr]
    exact⟨.inr trivial,_,rfl,by simp[resOf,QaG]⟩
theorem minus242 (a b:Bool):PSpec Tryz.prog 277 [.bool a,.bool b] (.bool (a&& !b)):=by
  refine PSpec.Qag 64 ok277 rfl rfl rfl ?_
  cases a
  · simp (disch := first | omega | (simp only [lenW] <;> omega)) only [s277, wV, simprocAttr]
    exact⟨.inr trivial,_,rfl,by simp[resOf,QaG]⟩
  · simp (disch := first | omega | (simp only [lenW] <;> omega)) only [s277, wV, simprocAttr]
    exact⟨.inr trivial,_,rfl,by simp[resOf,QaG]⟩
theorem merge168 (K : Nat) (k : Bool -> Bool -> Bool) (hk : ∀ a b, PSpec Tryz.prog K [.bool a, .bool b] (.bool (k a b))) (A B : List Nat) (hA : A.length <= 1000000) (hB : B.length <= 1000000) :
    PSpec Tryz.prog 194 [sliN A,sliN B,.fn K [] []] (sliN (mrg k A B)):=by
  refine PSpec.of_rn 64 ok194 rfl (by(try simp only[noRefs,Qaa,Qaj,Qah,Qak,Qai,noRef,Bool.and_self,Bool.and_true])<;>rfl) (Qab _) ?_
  simp(disch:=first|omega|(simp only[lenW]<;>omega)) only[s194,wV,simprocAttr]
  refine Qal 120 (fun t:List Nat×List Nat×List Nat=>[(0,sliN t.1),(1,sliN t.2.1),(2,.fn K [] []),(7,.sl 50 0 0 t.2.2.length 1)]) (fun t=>[(50,.cells 0 (ints (nz t.2.2)))]) (fun t=>mrg k A B=t.2.2++mrg k t.1 t.2.1/\t.1.length+t.2.1.length+t.2.2.length<=2000000) (fun t=>t.1.length+t.2.1.length) (A,B,[]) ⟨[(50,.nil)],rfl,au0,au1,au2⟩ ⟨by simp,by simp;omega⟩ ?_
  rintro⟨A',B',out⟩ ⟨hm,hl⟩
  dsimp only at hm hl
  rcases A' with _|⟨a,A1⟩<;>rcases B' with _|⟨b,B1⟩
  · simp (disch := first | omega | (simp only [lenW] <;> omega)) only [List.length_nil, List.map_nil, wV, simprocAttr]
    refine⟨.inr trivial,_,rfl,?_⟩
    rw[hm,mrg,List.append_nil]
    exact Rn.fz0 rfl (by simp[ints]) (RnL.same (Qaa _))
  · have h1 : (0 : Int) < (B1.length : Int) + 1 := by omega
    have h2:¬(B1.length:Int)+1=0:=by omega
    simp only[List.length_nil,List.length_cons]at hl
    simp(disch:=first|omega|(simp only[lenW]<;>omega)) only[List.length_nil,List.length_cons,h1,h2,iaddr0,tk1,tk2,head0,Nat.add_sub_cancel,wV,simprocAttr]
    refine cp (hk false true) ?_
    rw[mrg]at hm
    cases hkb:k false true
    · simp (disch := first | omega | (simp only [lenW] <;> omega)) only [wV, simprocAttr]
      rw[if_neg (by simp[hkb]),List.nil_append]at hm
      exact⟨(([]:List Nat),(B1:List Nat),out),by simp<;>omega,⟨hm,by simp;omega⟩,⟨[(50,.blk 50 0)],rfl,au0,au1,au2⟩⟩
    · simp (disch := first | omega | (simp only [lenW] <;> omega)) only [wV, simprocAttr]
      rw[if_pos hkb,<-List.append_assoc]at hm
      refine⟨(([]:List Nat),(B1:List Nat),out++[b]),by simp<;>omega,⟨hm,by simp;omega⟩,?_⟩
      rw[QaK,QaD,List.length_append]
      exact⟨[(50,.blk 50 1)],rfl,au0,au1,au2⟩
  · have h1 : (0 : Int) < (A1.length : Int) + 1 := by omega
    have h2:¬(A1.length:Int)+1=0:=by omega
    simp only[List.length_nil,List.length_cons]at hl
    simp(disch:=first|omega|(simp only[lenW]<;>omega)) only[List.length_nil,List.length_cons,h1,h2,iaddr0,tk1,tk2,head0,Nat.add_sub_cancel,wV,simprocAttr]
    refine cp (hk true false) ?_
    rw[mrg]at hm
    cases hkb:k true false
    · simp (disch := first | omega | (simp only [lenW] <;> omega)) only [wV, simprocAttr]
      rw[if_neg (by simp[hkb]),List.nil_append]at hm
      exact⟨((A1:List Nat),([]:List Nat),out),by simp<;>omega,⟨hm,by simp;omega⟩,⟨[(50,.blk 50 0)],rfl,au0,au1,au2⟩⟩
    · simp (disch := first | omega | (simp only [lenW] <;> omega)) only [wV, simprocAttr]
      rw[if_pos hkb,<-List.append_assoc]at hm
      refine⟨((A1:List Nat),([]:List Nat),out++[a]),by simp<;>omega,⟨hm,by simp;omega⟩,?_⟩
      rw[QaK,QaD,List.length_append]
      exact⟨[(50,.blk 50 1)],rfl,au0,au1,au2⟩
  · have h1 : (0 : Int) < (A1.length : Int) + 1 := by omega
    have h2:¬(A1.length:Int)+1=0:=by omega
    have h3:(0:Int)<(B1.length:Int)+1:=by omega
    have h4:¬(B1.length:Int)+1=0:=by omega
    by_cases hab:a<b
    · have h5 : (a : Int) <= (b : Int) := by omega
      have h6:¬(b:Int)<=(a:Int):=by omega
      simp only[List.length_nil,List.length_cons]at hl
      simp(disch:=first|omega|(simp only[lenW]<;>omega)) only[List.length_nil,List.length_cons,h1,h2,h3,h4,h5,h6,iaddr0,tk1,tk2,head0,Nat.add_sub_cancel,wV,simprocAttr]
      refine cp (hk true false) ?_
      rw[mrg,if_pos hab]at hm
      cases hkb:k true false
      · simp (disch := first | omega | (simp only [lenW] <;> omega)) only [wV, simprocAttr]
        rw[if_neg (by simp[hkb]),List.nil_append]at hm
        exact⟨((A1:List Nat),(b::B1:List Nat),out),by simp<;>omega,⟨hm,by simp;omega⟩,⟨[(50,.blk 50 0)],rfl,au0,au1,au2⟩⟩
      · simp (disch := first | omega | (simp only [lenW] <;> omega)) only [wV, simprocAttr]
        rw[if_pos hkb,<-List.append_assoc]at hm
        refine⟨((A1:List Nat),(b::B1:List Nat),out++[a]),by simp<;>omega,⟨hm,by simp;omega⟩,?_⟩
        rw[QaK,QaD,List.length_append]
        exact⟨[(50,.blk 50 1)],rfl,au0,au1,au2⟩
    · by_cases hba : b < a
      · have h5 : ¬ (a : Int) <= (b : Int) := by omega
        have h6:(b:Int)<=(a:Int):=by omega
        simp only[List.length_nil,List.length_cons]at hl
        simp(disch:=first|omega|(simp only[lenW]<;>omega)) only[List.length_nil,List.length_cons,h1,h2,h3,h4,h5,h6,iaddr0,tk1,tk2,head0,Nat.add_sub_cancel,wV,simprocAttr]
        refine cp (hk false true) ?_
        rw[mrg,if_neg hab,if_pos hba]at hm
        cases hkb:k false true
        · simp (disch := first | omega | (simp only [lenW] <;> omega)) only [wV, simprocAttr]
          rw[if_neg (by simp[hkb]),List.nil_append]at hm
          exact⟨((a::A1:List Nat),(B1:List Nat),out),by simp<;>omega,⟨hm,by simp;omega⟩,⟨[(50,.blk 50 0)],rfl,au0,au1,au2⟩⟩
        · simp (disch := first | omega | (simp only [lenW] <;> omega)) only [wV, simprocAttr]
          rw[if_pos hkb,<-List.append_assoc]at hm
          refine⟨((a::A1:List Nat),(B1:List Nat),out++[b]),by simp<;>omega,⟨hm,by simp;omega⟩,?_⟩
          rw[QaK,QaD,List.length_append]
          exact⟨[(50,.blk 50 1)],rfl,au0,au1,au2⟩
      · have e1 : a = b := by omega
        subst e1
        have h5:(a:Int)<=(a:Int):=by omega
        simp only[List.length_nil,List.length_cons]at hl
        simp(disch:=first|omega|(simp only[lenW]<;>omega)) only[List.length_nil,List.length_cons,h1,h2,h3,h4,h5,iaddr0,tk1,tk2,head0,Nat.add_sub_cancel,wV,simprocAttr]
        refine cp (hk true true) ?_
        rw[mrg,if_neg hab,if_neg hba]at hm
        cases hkb:k true true
        · simp (disch := first | omega | (simp only [lenW] <;> omega)) only [wV, simprocAttr]
          rw[if_neg (by simp[hkb]),List.nil_append]at hm
          exact⟨((A1:List Nat),(B1:List Nat),out),by simp<;>omega,⟨hm,by simp;omega⟩,⟨[(50,.blk 50 0)],rfl,au0,au1,au2⟩⟩
        · simp (disch := first | omega | (simp only [lenW] <;> omega)) only [wV, simprocAttr]
          rw[if_pos hkb,<-List.append_assoc]at hm
          refine⟨((A1:List Nat),(B1:List Nat),out++[a]),by simp<;>omega,⟨hm,by simp;omega⟩,?_⟩
          rw[QaK,QaD,List.length_append]
          exact⟨[(50,.blk 50 1)],rfl,au0,au1,au2⟩
theorem union84 (A B:List Nat) (hA:A.length<=1000000) (hB:B.length<=1000000):PSpec Tryz.prog 155 [sliN A,sliN B] (sliN (mrg (fun a b=>a||b) A B)):=by
 refine PSpec.of_rn 64 ok155 rfl (by(try simp only[noRefs,Qaa,Qaj,Qah,Qak,Qai,noRef,Bool.and_self,Bool.and_true])<;>rfl) (Qab _) ?_
 simp(disch:=first|omega|(simp only[lenW]<;>omega)) only[s155,wV,simprocAttr]
 refine cp (merge168 195 _ union169 A B hA hB) ?_
 simp(disch:=first|omega|(simp only[lenW]<;>omega)) only[wV,simprocAttr]
 exact⟨.inr trivial,_,rfl,Rn.same (Qab _)⟩
theorem minus219 (A B:List Nat) (hA:A.length<=1000000) (hB:B.length<=1000000):PSpec Tryz.prog 252 [sliN A,sliN B] (sliN (mrg (fun a b=>a&& !b) A B)):=by
 refine PSpec.of_rn 64 ok252 rfl (by(try simp only[noRefs,Qaa,Qaj,Qah,Qak,Qai,noRef,Bool.and_self,Bool.and_true])<;>rfl) (Qab _) ?_
 simp(disch:=first|omega|(simp only[lenW]<;>omega)) only[s252,wV,simprocAttr]
 refine cp (merge168 277 _ minus242 A B hA hB) ?_
 simp(disch:=first|omega|(simp only[lenW]<;>omega)) only[wV,simprocAttr]
 exact⟨.inr trivial,_,rfl,Rn.same (Qab _)⟩
theorem subset167 (A B:List Nat) (hA:A.length<=1000000) (hB:B.length<=1000000):PSpec Tryz.prog 193 [sliN A,sliN B] (.bool (decide ((mrg (fun a b=>a&& !b) A B).length=0))):=by
  refine PSpec.Qag 64 ok193 rfl (by(try simp only[noRefs,Qaa,Qaj,Qah,Qak,Qai,noRef,Bool.and_self,Bool.and_true])<;>rfl) rfl ?_
  simp(disch:=first|omega|(simp only[lenW]<;>omega)) only[s193,wV,simprocAttr]
  refine cp (minus219 A B hA hB) ?_
  by_cases h:(mrg (fun a b=>a&& !b) A B).length=0
  · have h' : (((mrg (fun a b => a && !b) A B).length : Nat) : Int) = 0 := by omega
    simp(disch:=first|omega|(simp only[lenW]<;>omega)) only[h',wV,simprocAttr]
    exact⟨.inr trivial,_,rfl,by simp[resOf,QaG,h]⟩
  · have h' : ¬ (((mrg (fun a b => a && !b) A B).length : Nat) : Int) = 0 := by omega
    simp(disch:=first|omega|(simp only[lenW]<;>omega)) only[h',wV,simprocAttr]
    exact⟨.inr trivial,_,rfl,by simp[resOf,QaG,h]⟩
end Go.AM.SO
namespace Go.AM.SD
theorem QgC {α:Type} (f:α->Nat):∀{l l':List α},l.Pairwise (fun a b=>f a<f b)->l'.Pairwise (fun a b=>f a<f b)->(∀p,p∈l↔p∈l')->l=l'
 |[],[],_,_,_=>rfl
 |[],y::l',_,_,hm=>absurd ((hm y).2 (by simp)) (by simp)
 |x::l,[],_,_,hm=>absurd ((hm x).1 (by simp)) (by simp)
 | x :: l, y :: l', h, h', hm => by
  rw[List.pairwise_cons]at h h'
  have hxy:x=y:=by
   grind
  subst hxy
  have:l=l':=QgC f h.2 h'.2 fun p=>by
   grind
  rw[this]
theorem uniqE {es:List Ed} (h:es.Pairwise fun x y=>x.1<y.1\/(x.1=y.1/\x.2.1<y.2.1)) {e e':Ed} (he:e∈es) (he':e'∈es) (h1:e.1=e'.1) (h2:e.2.1=e'.2.1):e=e':=by
 induction h with
 |nil=>cases he
 |cons hx _ ih=>
  rcases List.mem_cons.1 he with rfl|m1<;>rcases List.mem_cons.1 he' with rfl|m2
  ·rfl
  ·grind
  ·grind
  ·exact ih m1 m2
theorem QhY {es:List Ed} (h:es.Pairwise fun x y=>x.1<y.1\/(x.1=y.1/\x.2.1<y.2.1)) {v ev to:Nat}:stepA es v ev=some to↔((v,ev,to):Ed)∈es:=by
 unfold stepA
 constructor
 ·intro hs
  cases hf:es.find? fun e=>e.1==v&&e.2.1==ev with
  |none=>rw[hf]at hs;cases hs
  |some e=>
   rw[hf]at hs;cases hs
   have h1:=List.find?_some hf
   simp only[Bool.and_eq_true,beq_iff_eq]at h1
   have h2:=List.mem_of_find?_eq_some hf
   obtain⟨a,b,c⟩:=e
   obtain⟨rfl,rfl⟩:=h1
   exact h2
 ·intro hm
  cases hf:es.find? fun e=>e.1==v&&e.2.1==ev with
  |none=>
   rw[List.find?_eq_none]at hf
   exact absurd (by simp) (hf _ hm)
  |some e=>
   have h1:=List.find?_some hf
   simp only[Bool.and_eq_true,beq_iff_eq]at h1
   rw[uniqE h (List.mem_of_find?_eq_some hf) hm h1.1 h1.2];rfl
theorem QkO {a:Aut} (h:WfA a) (v:Nat):sOut a.es (fun _=>true) v=a.al.filterMap fun ev=>(stepA a.es v ev).map fun to=>((v,ev,to):Ed):=by
 refine QgC (fun e:Ed=>e.2.1) ?_ ?_ fun e=>?_
 ·have h1 : (sOut a.es (fun _ => true) v).Pairwise fun x y => x.1 < y.1 \/ (x.1 = y.1 /\ x.2.1 < y.2.1) := h.es.filter _
  refine h1.imp_of_mem fun{x y} hx hy hr=>?_
  simp_all [QaX]
 ·refine List.Pairwise.filterMap _ (R := (· < ·)) ?_ h.al
  simp_all
 ·rw [QaX, List.mem_filterMap]
  constructor
  ·rintro ⟨he, rfl, _⟩
   obtain⟨x,y,z⟩:=e
   exact⟨y,h.ev _ he,by rw[(QhY h.es).2 he];rfl⟩
  ·rintro ⟨ev, hev, hm⟩
   cases hs:stepA a.es v ev with
   |none=>rw[hs]at hm;cases hm
   |some to=>rw[hs]at hm;cases hm;exact⟨(QhY h.es).1 hs,rfl,rfl⟩
theorem Qnz {a:Aut} (h:WfA a) (i v:Nat) (s:OE):(sRow a.es (fun _=>true) i v s).1=fRow a.al a.es v s.1:=by
 unfold sRow fRow
 rw[QkO h]
 have key:∀(al:List Nat) (s:OE),((al.filterMap fun ev=>(stepA a.es v ev).map fun to=>((v,ev,to):Ed)).foldl (sEd i) s).1=al.foldl (fEv a.es v) s.1:=by
  intro al
  induction al with
  |nil=>intro s;rfl
  | cons ev al ih =>
   intro s
   rw[List.filterMap_cons,List.foldl_cons]
   cases hs:stepA a.es v ev with
   |none=>
    have e:fEv a.es v s.1 ev=s.1:=by grind [fEv]
    rw[e];exact ih s
   |some to=>
    have e:fEv a.es v s.1 ev=if s.1.contains to then s.1 else s.1++[to]:=by grind [fEv]
    dsimp only[Option.map_some]
    rw[List.foldl_cons,ih,e]
    congr 1
    unfold sEd
    split<;>rfl
 simp_all
theorem Qmz {a:Aut} (h:WfA a):∀(k i:Nat) (s:OE),(sQ a.es (fun _=>true) k i s).1=fQ a.al a.es k i s.1
 |0,_,_=>rfl
 |k+1,i,s=>by
  unfold sQ fQ
  cases s.1[i]? with
  |none=>rfl
  |some v=>dsimp only;rw[Qmz h k,Qnz h]
theorem QnA {a:Aut} (h:WfA a):(sAll a fun _=>true).1=found a:=by
 simp_all [sAll,found,Qmz]
theorem Qj3 {a:Aut} (h:WfA a):canon a=restr a (fun _=>true):=by
 have hs:=(QeV (left:=fun _=>true) h).1
 have hf:=QnA h
 have he:(sAll a fun _=>true).2=cRows a (found a):=by
  rw[hs.ed,hf]
  unfold cRows
  rw[List.flatMap_def,List.flatMap_def]
  congr 1
  refine List.map_congr_left fun i _=>?_
  rw[QkO h]
  unfold cRow
  rw[List.map_filterMap]
  congr 1
  funext ev
  rw[Option.map_map];rfl
 simp_all [canon,restr]
end Go.AM.SD
namespace Go.AM.SE
open Go.Proofs Go.AM.SD
theorem shr1 {i j:Nat}:aBin .shr (.int .u64 ((i:Int)+(j:Int))) (.int .u64 1)=some (.int .u64 (((i+j)/2:Nat):Int)):=by
 have h:(((i:Int)+(j:Int)).fdiv (2^(min (1:Int).toNat 64)))=(((i+j)/2:Nat):Int):=by
  rw[show min (1:Int).toNat 64=1 from rfl,Int.fdiv_eq_ediv_of_nonneg _ (by decide)];omega
 show(if(1:Int)<0 then none else some (AV.int .u64 (((i:Int)+(j:Int)).fdiv (2^(min (1:Int).toNat 64)))))=_
 rw[if_neg (by decide),h]
def lbN (l:List Nat) (t:Nat):Nat:=l.countP fun x=>decide (x<t)
theorem lb_eq:∀{l:List Nat} {t i:Nat},i<=l.length->(∀j,j<i->l.getD j 0<t)->(∀j,i<=j->j<l.length->¬l.getD j 0<t)->lbN l t=i
 |[],t,i,hi,_,_=>by simp at hi;subst hi;rfl
 |x::l,t,0,_,_,h2=>by
  unfold lbN
  rw[List.countP_eq_zero]
  intro y hy
  obtain⟨q,hq,hql⟩:=QdU hy
  have:=h2 q (Nat.zero_le _) hql
  rw[List.getD_eq_getElem?_getD,hq]at this
  simpa using this
 |x::l,t,i+1,hi,h1,h2=>by
  have hx:x<t:=by have:=h1 0 (by omega);simpa using this
  have:=lb_eq (l:=l) (t:=t) (i:=i) (by simpa using hi) (fun j hj=>by have:=h1 (j+1) (by omega);simpa using this) (fun j hj hl=>by have:=h2 (j+1) (by omega) (by simpa using hl);simpa using this)
  unfold lbN at this⊢
  rw[List.countP_cons,this,if_pos (by simpa using hx)]
theorem lb_le {l:List Nat} {t:Nat}:lbN l t<=l.length:=List.countP_le_length
theorem QcF {l:List Nat} (h:l.Pairwise (· <= ·)) {p q:Nat} (hpq:p<=q) (hq:q<l.length):l.getD p 0<=l.getD q 0:=by
 rw[List.getD_eq_getElem?_getD,List.getD_eq_getElem?_getD,List.getElem?_eq_getElem (by omega),List.getElem?_eq_getElem hq]
 rcases Nat.lt_or_eq_of_le hpq with h1|h1
 ·exact List.pairwise_iff_getElem.1 h p q (by omega) hq h1
 ·subst h1;exact Nat.le_refl _
theorem Qjq {l:List Nat} (h:l.Pairwise (· <= ·)) {t i:Nat} (h1:∀j,j<i->l.getD j 0<t) (h2:∀j,i<=j->j<l.length->¬l.getD j 0<t):l.contains t=decide (i<l.length/\l.getD i 0=t):=by
 rw[Bool.eq_iff_iff,decide_eq_true_iff,List.contains_iff_mem]
 constructor
 ·intro hm
  obtain⟨q,hq,hql⟩:=QdU hm
  have hqd:l.getD q 0=t:=by rw[List.getD_eq_getElem?_getD,hq];rfl
  have hiq:i<=q:=by
   refine Nat.le_of_not_lt fun h3=>?_
   have:=h1 q h3;omega
  have h4:=QcF h hiq hql
  have h5:=h2 i (Nat.le_refl _) (by omega)
  exact⟨by omega,by omega⟩
 ·rintro ⟨hi, e⟩
  rw[<-e,List.getD_eq_getElem?_getD,List.getElem?_eq_getElem hi]
  exact List.getElem_mem hi
theorem nan81 (x:Int):PSpec Tryz.prog 276 [.int .i64 x] (.bool false):=by
 refine PSpec.Qag 64 ok276 rfl (by(try simp only[noRefs,Qau,Qap,Qas,Qaa,Qaj,Qah,Qak,Qav,Qai,noRef,Bool.and_self,Bool.and_true])<;>rfl) rfl ?_
 simp(disch:=first|omega|(simp only[lenW]<;>omega)) only[s276,wW,wV,simprocAttr]
 exact⟨.inr trivial,_,rfl,rfl⟩
theorem nan66 (x:Int):PSpec Tryz.prog 278 [.int .i64 x] (.bool false):=by
 refine PSpec.Qag 64 ok278 rfl (by(try simp only[noRefs,Qau,Qap,Qas,Qaa,Qaj,Qah,Qak,Qav,Qai,noRef,Bool.and_self,Bool.and_true])<;>rfl) rfl ?_
 simp(disch:=first|omega|(simp only[lenW]<;>omega)) only[s278,wW,wV,simprocAttr]
 exact⟨.inr trivial,_,rfl,rfl⟩
theorem less65 (x y:Int):PSpec Tryz.prog 245 [.int .i64 x,.int .i64 y] (.bool (decide (x<y))):=by
 refine PSpec.Qag 64 ok245 rfl (by(try simp only[noRefs,Qau,Qap,Qas,Qaa,Qaj,Qah,Qak,Qav,Qai,noRef,Bool.and_self,Bool.and_true])<;>rfl) rfl ?_
 simp(disch:=first|omega|(simp only[lenW]<;>omega)) only[s245,wW,wV,simprocAttr]
 refine cp (nan81 x) ?_
 simp(disch:=first|omega|(simp only[lenW]<;>omega)) only[wW,wV,simprocAttr]
 exact⟨.inr trivial,_,rfl,rfl⟩
theorem find57 (l : List Nat) (t : Nat) (hs : l.Pairwise (· <= ·)) (hl : l.length <= 1000000) : PSpec Tryz.prog 254 [sliN l, .int .i64 (t : Int)] (.tup [.int .i64 (lbN l t : Int), .bool (l.contains t)]) := by
  refine PSpec.Qag 64 ok254 rfl (by(try simp only[noRefs,Qau,Qap,Qas,Qaa,Qaj,Qah,Qak,Qav,Qai,noRef,Bool.and_self,Bool.and_true])<;>rfl) rfl ?_
  simp(disch:=first|omega|(simp only[lenW]<;>omega)) only[s254,wW,wV,simprocAttr]
  refine Qaw 100 (fun p:Nat×Nat=>[(0,sliN l),(1,.int .i64 (t:Int)),(6,.int .i64 l.length),(7,.int .i64 p.1),(8,.int .i64 p.2)]) (fun _=>[])
    (fun p=>p.1<=p.2/\p.2<=l.length/\(∀q,q<p.1->l.getD q 0<t)/\∀q,p.2<=q->q<l.length->¬l.getD q 0<t) (fun p=>p.2-p.1) (0,l.length) 0 140
    (fun i:Nat=>[(0,sliN l),(1,.int .i64 (t:Int)),(6,.int .i64 l.length),(7,.int .i64 i)]) (fun _=>[])
    (fun i=>i<=l.length/\(∀q,q<i->l.getD q 0<t)/\∀q,i<=q->q<l.length->¬l.getD q 0<t) ?_ ⟨Nat.zero_le _,Nat.le_refl _,fun q hq=>absurd hq (Nat.not_lt_zero _),fun q h1 h2=>by omega⟩ ?_ ?_
  · exact⟨[],rfl,au0,au9,au10⟩
  · rintro ⟨i, j⟩ ⟨hij, hj, h1, h2⟩
    dsimp only at hij hj h1 h2⊢
    by_cases hlt:i<j
    · obtain ⟨k, hk, hk1, hk2⟩ : ∃ k : Nat, aBin .shr (.int .u64 ((i : Int) + (j : Int))) (.int .u64 1) = some (.int .u64 (k : Int)) /\ i <= k /\ k < j := ⟨(i + j) / 2, shr1, by omega, by omega⟩
      have hkl:k<l.length:=by omega
      have hkx:l[k]?=some (l.getD k 0):=by rw[List.getElem?_eq_getElem hkl];simp[hkl]
      simp(disch:=first|omega|(simp only[lenW]<;>omega)) only[hlt,hk,hkl,QaN hkx,wW,wV,simprocAttr]
      refine cp (less65 _ _) ?_
      by_cases hc:l.getD k 0<t
      · rw [decide_eq_true (by omega)]
        simp(disch:=first|omega|(simp only[lenW]<;>omega)) only[wW,wV,simprocAttr]
        refine⟨(k+1,j),by dsimp only;omega,⟨by dsimp only;omega,hj,fun q hq=>?_,h2⟩,⟨[],rfl,au0,au9,au10⟩⟩
        have:=QcF hs (p:=q) (q:=k) (by dsimp only at hq;omega) hkl
        omega
      · rw [decide_eq_false (by omega)]
        simp(disch:=first|omega|(simp only[lenW]<;>omega)) only[wW,wV,simprocAttr]
        refine⟨(i,k),by dsimp only;omega,⟨hk1,by dsimp only;omega,h1,fun q hq hql=>?_⟩,⟨[],rfl,au0,au9,au10⟩⟩
        have:=QcF hs (p:=k) (q:=q) hq hql
        omega
    · have e : i = j := by omega
      subst e
      simp(disch:=first|omega|(simp only[lenW]<;>omega)) only[hlt,wW,wV,simprocAttr]
      exact⟨i,⟨hj,h1,h2⟩,⟨[],rfl,au0,au9,au10⟩⟩
  rintro i ⟨hi,h1,h2⟩
  rw[lb_eq hi h1 h2,Qjq hs h1 h2]
  by_cases hlt:i<l.length
  · have hx : l[i]? = some (l.getD i 0) := by rw [List.getElem?_eq_getElem hlt]; simp [hlt]
    by_cases he:l.getD i 0=t
    · rw [decide_eq_true ⟨hlt, he⟩]
      rw[he]at hx
      simp(disch:=first|omega|(simp only[lenW]<;>omega)) only[hlt,QaN hx,wW,wV,simprocAttr]
      exact⟨.inr trivial,_,rfl,rfl⟩
    · rw [decide_eq_false fun h => he h.2]
      generalize l.getD i 0=y at*
      have he':¬(y:Int)=(t:Int):=by omega
      simp(disch:=first|omega|(simp only[lenW]<;>omega)) only[hlt,QaN hx,he',wW,wV,simprocAttr]
      refine cp (nan66 _) ?_
      simp(disch:=first|omega|(simp only[lenW]<;>omega)) only[wW,wV,simprocAttr]
      exact⟨.inr trivial,_,rfl,rfl⟩
  · rw [decide_eq_false fun h => hlt h.1]
    simp(disch:=first|omega|(simp only[lenW]<;>omega)) only[hlt,wW,wV,simprocAttr]
    exact⟨.inr trivial,_,rfl,rfl⟩
end Go.AM.SE
namespace Go.AM.SE
open Go.Proofs Go.AM.SD
abbrev edV (e:Ed):AV:= .agg [.int .i64 (e.1:Int),.int .i64 (e.2.1:Int),.int .i64 (e.2.2:Int)]
theorem QmA (x y:Ed):aEq (.flat true [.i,.i,.i]) true (edV x) (edV y)=some (.bool (!decide (x=y))):=by
 have:∀n m:Nat,decide ((n:Int)=(m:Int))=decide (n=m):=fun n m=>decide_eq_decide.2 (by omega)
 obtain⟨a,b,c⟩:=x
 obtain⟨a',b',c'⟩:=y
 simp only[aEq,eqCells,eqCell,if_true]
 simp only[Prod.mk.injEq,Bool.decide_and,this]
 cases decide (a=a')<;>cases decide (b=b')<;>cases decide (c=c')<;>rfl
theorem eq41 (a b : List Int) (hl : b.length <= 1000000) : PSpec Tryz.prog 83 [sli a, sli b] (.bool (decide (a = b))) := by
  refine PSpec.Qag 64 ok83 rfl (by(try simp only[noRefs,Qau,Qap,Qas,Qaa,Qaj,Qah,Qak,Qav,Qai,noRef,Bool.and_self,Bool.and_true])<;>rfl) rfl ?_
  by_cases hab:a.length=b.length
  · simp (disch := first | omega | (simp only [lenW] <;> omega)) only [s83, hab, wW, wV, simprocAttr]
    refine Qal 100 (fun i:Nat=>[(0,sli a),(1,sli b),(12,.int .i64 b.length),(13,.int .i64 i)]) (fun _=>[]) (fun i=>i<=b.length/\∀j,j<i->a[j]?=b[j]?) (fun i=>b.length-i) 0 ⟨[],rfl,au0,au9,au10⟩ ⟨Nat.zero_le _,fun j hj=>absurd hj (Nat.not_lt_zero _)⟩ ?_
    rintro i ⟨hi,hb⟩
    by_cases hlt:i<b.length
    · obtain ⟨x, hx⟩ := Qad (l := a) (i := i) (by omega)
      obtain⟨y,hy⟩:=Qad (l:=b) (i:=i) (by omega)
      have hlt2:i<a.length:=by omega
      by_cases h0:x=y
      · have hq : True := by trivial
        simp(disch:=first|omega|(simp only[lenW]<;>omega)) only[hlt,hlt2,Qae hx,Qae hy,h0,hq,wW,wV,simprocAttr]
        refine⟨i+1,by omega,⟨by omega,fun j hj=>?_⟩,⟨[],rfl,au0,au9,au10⟩⟩
        by_cases e:j=i
        · subst e;rw[hx,hy,h0]
        · exact hb j (by omega)
      · have hq : True := by trivial
        simp(disch:=first|omega|(simp only[lenW]<;>omega)) only[hlt,hlt2,Qae hx,Qae hy,h0,hq,wW,wV,simprocAttr]
        refine⟨.inr trivial,_,rfl,?_⟩
        have:a≠b:=fun e=>by subst e;rw[hx]at hy;cases hy;exact h0 rfl
        simp[resOf,QaG,this]
    · have : a = b := List.ext_getElem? fun j => by
        by_cases hj:j<i
        · exact hb j hj
        · rw[List.getElem?_eq_none (by omega),List.getElem?_eq_none (by omega)]
      simp(disch:=first|omega|(simp only[lenW]<;>omega)) only[hlt,wW,wV,simprocAttr]
      exact⟨.inr trivial,_,rfl,by simp[resOf,QaG,this]⟩
  · simp (disch := first | omega | (simp only [lenW] <;> omega)) only [s83, hab, wW, wV, simprocAttr]
    have:a≠b:=fun e=>hab (by rw[e])
    exact⟨.inr trivial,_,rfl,by simp[resOf,QaG,this]⟩
theorem eq55 (a b : List Ed) (hl : b.length <= 10000000) : PSpec Tryz.prog 129 [egsN a, egsN b] (.bool (decide (a = b))) := by
  refine PSpec.Qag 64 ok129 rfl (by(try simp only[noRefs,Qau,Qap,Qas,Qaa,Qaj,Qah,Qak,Qav,Qai,noRef,Bool.and_self,Bool.and_true])<;>rfl) rfl ?_
  by_cases hab:a.length=b.length
  · simp (disch := first | omega | (simp only [lenW] <;> omega)) only [s129, hab, wW, wV, simprocAttr]
    refine Qal 100 (fun i:Nat=>[(0,egsN a),(1,egsN b),(12,.int .i64 b.length),(13,.int .i64 i)]) (fun _=>[]) (fun i=>i<=b.length/\∀j,j<i->a[j]?=b[j]?) (fun i=>b.length-i) 0 ⟨[],rfl,au0,au9,au10⟩ ⟨Nat.zero_le _,fun j hj=>absurd hj (Nat.not_lt_zero _)⟩ ?_
    rintro i ⟨hi,hb⟩
    by_cases hlt:i<b.length
    · obtain ⟨x, hx⟩ := Qad (l := a) (i := i) (by omega)
      obtain⟨y,hy⟩:=Qad (l:=b) (i:=i) (by omega)
      have hlt2:i<a.length:=by omega
      by_cases h0:x=y
      · have hq : aEq (.flat true [.i, .i, .i]) true (edV y) (edV y) = some (.bool false) := by rw [QmA]; simp
        simp(disch:=first|omega|(simp only[lenW]<;>omega)) only[hlt,hlt2,QaS hx,QaS hy,h0,hq,wW,wV,simprocAttr]
        refine⟨i+1,by omega,⟨by omega,fun j hj=>?_⟩,⟨[],rfl,au0,au9,au10⟩⟩
        by_cases e:j=i
        · subst e;rw[hx,hy,h0]
        · exact hb j (by omega)
      · have hq : aEq (.flat true [.i, .i, .i]) true (edV x) (edV y) = some (.bool true) := by rw [QmA]; simp [h0]
        simp(disch:=first|omega|(simp only[lenW]<;>omega)) only[hlt,hlt2,QaS hx,QaS hy,h0,hq,wW,wV,simprocAttr]
        refine⟨.inr trivial,_,rfl,?_⟩
        have:a≠b:=fun e=>by subst e;rw[hx]at hy;cases hy;exact h0 rfl
        simp[resOf,QaG,this]
    · have : a = b := List.ext_getElem? fun j => by
        by_cases hj:j<i
        · exact hb j hj
        · rw[List.getElem?_eq_none (by omega),List.getElem?_eq_none (by omega)]
      simp(disch:=first|omega|(simp only[lenW]<;>omega)) only[hlt,wW,wV,simprocAttr]
      exact⟨.inr trivial,_,rfl,by simp[resOf,QaG,this]⟩
  · simp (disch := first | omega | (simp only [lenW] <;> omega)) only [s129, hab, wW, wV, simprocAttr]
    have:a≠b:=fun e=>hab (by rw[e])
    exact⟨.inr trivial,_,rfl,by simp[resOf,QaG,this]⟩
theorem QoZ {a b : List Nat} : decide (nz a = nz b) = decide (a = b) := by
  refine decide_eq_decide.2 ⟨fun h=>?_,fun h=>by rw[h]⟩
  have:∀a b:List Nat,nz a=nz b->a=b:=by
    intro a
    induction a with
    | nil => intro b h; cases b with
      |nil=>rfl
      |cons=>simp at h
    | cons x a ih => intro b h; cases b with
      |nil=>simp at h
      | cons y b =>
        simp only[nz,List.map_cons,List.cons.injEq]at h
        rw[ih b h.2,show x=y by omega]
  exact this a b h
theorem eq41N (a b:List Nat) (hl:b.length<=1000000):PSpec Tryz.prog 83 [sliN a,sliN b] (.bool (decide (a=b))):=by
 have:=eq41 (nz a) (nz b) (by simpa using hl)
 rw[Qb3,Qb3,QoZ]at this;exact this
def autB (x y:Aut):Bool:=decide (x.n=y.n)&&(decide (x.al=y.al)&&(decide (x.ms=y.ms)&&decide (x.es=y.es)))
structure AOk (r:Aut):Prop where
 al:r.al.length<=1000000
 ms:r.ms.length<=1000000
 es:r.es.length<=10000000
theorem eq43 (x y:Aut) (hx:AOk x) (hy:AOk y):PSpec Tryz.prog 64 [aV x,aV y] (.bool (autB x y)):=by
 refine PSpec.Qag 64 ok64 rfl (by(try simp only[noRefs,Qau,Qap,Qas,Qaa,Qaj,Qah,Qak,Qav,Qai,noRef,Bool.and_self,Bool.and_true])<;>rfl) rfl ?_
 have c1:=eq41N x.al y.al hy.al
 have c2:=eq41N x.ms y.ms hy.ms
 have c3:=eq55 x.es y.es hy.es
 unfold autB
 by_cases h1:x.n=y.n
 ·rw [decide_eq_true h1, Bool.true_and]
  generalize decide (x.al=y.al)=b1 at*
  generalize decide (x.ms=y.ms)=b2 at*
  generalize decide (x.es=y.es)=b3 at*
  simp(disch:=first|omega|(simp only[lenW]<;>omega)) only[s64,h1,wW,wV,simprocAttr]
  refine cp c1 ?_
  cases b1 with
  |false=>
   simp(disch:=first|omega|(simp only[lenW]<;>omega)) only[wW,wV,simprocAttr]
   exact⟨.inr trivial,_,rfl,rfl⟩
  | true =>
   simp(disch:=first|omega|(simp only[lenW]<;>omega)) only[wW,wV,simprocAttr]
   refine cp c2 ?_
   cases b2 with
   |false=>
    simp(disch:=first|omega|(simp only[lenW]<;>omega)) only[wW,wV,simprocAttr]
    exact⟨.inr trivial,_,rfl,rfl⟩
   |true=>
    simp(disch:=first|omega|(simp only[lenW]<;>omega)) only[wW,wV,simprocAttr]
    refine cp c3 ?_
    simp(disch:=first|omega|(simp only[lenW]<;>omega)) only[wW,wV,simprocAttr]
    exact⟨.inr trivial,_,rfl,rfl⟩
 ·rw [decide_eq_false h1, Bool.false_and]
  simp(disch:=first|omega|(simp only[lenW]<;>omega)) only[s64,h1,wW,wV,simprocAttr]
  exact⟨.inr trivial,_,rfl,rfl⟩
theorem QmB (x:Aut):autB x x=true:=by simp[autB]
end Go.AM.SE
namespace Go.AM.SE
open Go.Proofs Go.AM.SD
abbrev froms (es:List Ed):List Nat:=es.map (·.1)
theorem QhZ:∀(l:List Ed) (i:Nat),(l.flatMap edC).drop (i*3)=(l.drop i).flatMap edC
 |l,0=>by simp
 |[],i+1=>by simp
 |e::l,i+1=>by
  rw[List.flatMap_cons,Nat.succ_mul,List.drop_succ_cons]
  show List.drop (i*3+3) (_::_::_::l.flatMap edC)=_
  rw[List.drop_succ_cons,List.drop_succ_cons,List.drop_succ_cons]
  exact QhZ l i
theorem Qh0:∀(l:List Ed) (i:Nat),(l.flatMap edC).take (i*3)=(l.take i).flatMap edC
 |l,0=>by simp
 |[],i+1=>by simp
 |e::l,i+1=>by
  rw[List.flatMap_cons,Nat.succ_mul,List.take_succ_cons,List.flatMap_cons]
  show List.take (i*3+3) (_::_::_::l.flatMap edC)=_
  rw[List.take_succ_cons,List.take_succ_cons,List.take_succ_cons,Qh0 l i];rfl
theorem QkP {x t:Nat} {l:List Nat}:lbN (x::l) t=lbN l t+if x<t then 1 else 0:=by
 unfold lbN;rw[List.countP_cons];simp
theorem QgW {l:List Nat} {t:Nat} (h:∀x∈l,t<=x):lbN l t=0:=by
 unfold lbN
 rw[List.countP_eq_zero]
 intro x hx;have:=h x hx;simp;omega
theorem QmC:∀{es:List Ed},es.Pairwise (fun a b=>a.1<=b.1)->∀v:Nat,(es.drop (lbN (froms es) v)).take (lbN (froms es) (v+1)-lbN (froms es) v)=sOut es (fun _=>true) v
 |[],_,_=>by simp[sOut]
 | e :: es, h, v => by
  rw[List.pairwise_cons]at h
  have ih:=QmC h.2 v
  have ef:froms (e::es)=e.1::froms es:=rfl
  have so:sOut (e::es) (fun _=>true) v=if e.1=v then e::sOut es (fun _=>true) v else sOut es (fun _=>true) v:=by
   unfold sOut;rw[List.filter_cons];simp
  rw[ef,QkP,QkP,so]
  rcases Nat.lt_trichotomy e.1 v with h1|h1|h1
  ·rw[if_pos h1,if_pos (by omega),if_neg (by omega),List.drop_succ_cons,Nat.add_sub_add_right,ih]
  ·have hz : lbN (froms es) v = 0 := QgW fun x hx => by
    obtain⟨y,hy,rfl⟩:=List.mem_map.1 hx
    have:=h.1 y hy;omega
   rw[hz]at ih⊢
   have i1:¬e.1<v:=by omega
   have i2:e.1<v+1:=by omega
   simp only[if_neg i1,if_pos i2,if_pos h1,Nat.add_zero,List.drop_zero,Nat.sub_zero,List.take_succ_cons]
   rw[List.drop_zero,Nat.sub_zero]at ih
   rw[ih]
  ·have hz : lbN (froms es) v = 0 := QgW fun x hx => by
    obtain⟨y,hy,rfl⟩:=List.mem_map.1 hx
    have:=h.1 y hy;omega
   have hz2:lbN (froms es) (v+1)=0:=QgW fun x hx=>by
    obtain⟨y,hy,rfl⟩:=List.mem_map.1 hx
    have:=h.1 y hy;omega
   rw[hz,hz2]at ih⊢
   rw[if_neg (by omega),if_neg (by omega),if_neg (by omega)]
   simpa using ih
theorem sub229 (e:Ed) (t:Nat) (he:e.1<=1000000) (ht:t<=1000000):PSpec Tryz.prog 266 [edV e,.int .i64 (t:Int)] (.int .i64 ((e.1:Int)-(t:Int))):=by
 refine PSpec.Qag 64 ok266 rfl (by(try simp only[noRefs,Qau,Qap,Qas,Qaa,Qaj,Qah,Qak,Qav,Qai,noRef,Bool.and_self,Bool.and_true])<;>rfl) rfl ?_
 simp(disch:=first|omega|(simp only[lenW]<;>omega)) only[s266,wW,wV,simprocAttr]
 exact⟨.inr trivial,_,rfl,rfl⟩
theorem sub230 (e:Ed) (t:Nat) (he:e.1<=1000000) (ht:t<=1000000):PSpec Tryz.prog 267 [edV e,.int .i64 (t:Int)] (.int .i64 ((e.1:Int)-(t:Int))):=by
 refine PSpec.Qag 64 ok267 rfl (by(try simp only[noRefs,Qau,Qap,Qas,Qaa,Qaj,Qah,Qak,Qav,Qai,noRef,Bool.and_self,Bool.and_true])<;>rfl) rfl ?_
 simp(disch:=first|omega|(simp only[lenW]<;>omega)) only[s267,wW,wV,simprocAttr]
 exact⟨.inr trivial,_,rfl,rfl⟩
theorem find67 (es : List Ed) (t : Nat) (hs : (froms es).Pairwise (· <= ·)) (hb : ∀ e ∈ es, e.1 <= 1000000) (ht : t <= 1000000) (hl : es.length <= 1000000) : PSpec Tryz.prog 265 [egsN es, .int .i64 (t : Int), .fn 266 [] []] (.tup [.int .i64 (lbN (froms es) t : Int), .bool ((froms es).contains t)]) := by
  refine PSpec.Qag 64 ok265 rfl (by(try simp only[noRefs,Qau,Qap,Qas,Qaa,Qaj,Qah,Qak,Qav,Qai,noRef,Bool.and_self,Bool.and_true])<;>rfl) rfl ?_
  have hfl:(froms es).length=es.length:=by simp
  simp(disch:=first|omega|(simp only[lenW]<;>omega)) only[s265,wW,wV,simprocAttr]
  refine Qaw 100 (fun p:Nat×Nat=>[(0,egsN es),(1,.int .i64 (t:Int)),(2,.fn 266 [] []),(8,.int .i64 es.length),(9,.int .i64 p.1),(10,.int .i64 p.2)]) (fun _=>[])
    (fun p=>p.1<=p.2/\p.2<=es.length/\(∀q,q<p.1->(froms es).getD q 0<t)/\∀q,p.2<=q->q<es.length->¬(froms es).getD q 0<t) (fun p=>p.2-p.1) (0,es.length) 0 140
    (fun i:Nat=>[(0,egsN es),(1,.int .i64 (t:Int)),(2,.fn 266 [] []),(8,.int .i64 es.length),(9,.int .i64 i)]) (fun _=>[])
    (fun i=>i<=es.length/\(∀q,q<i->(froms es).getD q 0<t)/\∀q,i<=q->q<es.length->¬(froms es).getD q 0<t) ?_ ⟨Nat.zero_le _,Nat.le_refl _,fun q hq=>absurd hq (Nat.not_lt_zero _),fun q h1 h2=>by omega⟩ ?_ ?_
  · exact⟨[],rfl,au0,au9,au10⟩
  · rintro ⟨i, j⟩ ⟨hij, hj, h1, h2⟩
    dsimp only at hij hj h1 h2⊢
    by_cases hlt:i<j
    · obtain ⟨k, hk, hk1, hk2⟩ : ∃ k : Nat, aBin .shr (.int .u64 ((i : Int) + (j : Int))) (.int .u64 1) = some (.int .u64 (k : Int)) /\ i <= k /\ k < j := ⟨(i + j) / 2, shr1, by omega, by omega⟩
      have hkl:k<es.length:=by omega
      obtain⟨e,he⟩:=Qad hkl
      have hke:(froms es).getD k 0=e.1:=by rw[List.getD_eq_getElem?_getD,List.getElem?_map,he];rfl
      have heb:=hb e (List.mem_of_getElem? he)
      simp(disch:=first|omega|(simp only[lenW]<;>omega)) only[hlt,hk,hkl,QaS he,wW,wV,simprocAttr]
      refine cp (sub229 e t heb ht) ?_
      by_cases hc:e.1<t
      · have hc' : (e.1 : Int) - (t : Int) < 0 := by omega
        simp(disch:=first|omega|(simp only[lenW]<;>omega)) only[hc',wW,wV,simprocAttr]
        refine⟨(k+1,j),by dsimp only;omega,⟨by dsimp only;omega,hj,fun q hq=>?_,h2⟩,⟨[],rfl,au0,au9,au10⟩⟩
        have:=QcF hs (p:=q) (q:=k) (by dsimp only at hq;omega) (by omega)
        omega
      · have hc' : ¬ (e.1 : Int) - (t : Int) < 0 := by omega
        simp(disch:=first|omega|(simp only[lenW]<;>omega)) only[hc',wW,wV,simprocAttr]
        refine⟨(i,k),by dsimp only;omega,⟨hk1,by dsimp only;omega,h1,fun q hq hql=>?_⟩,⟨[],rfl,au0,au9,au10⟩⟩
        have:=QcF hs (p:=k) (q:=q) hq (by omega)
        omega
    · have e : i = j := by omega
      subst e
      simp(disch:=first|omega|(simp only[lenW]<;>omega)) only[hlt,wW,wV,simprocAttr]
      exact⟨i,⟨hj,h1,h2⟩,⟨[],rfl,au0,au9,au10⟩⟩
  rintro i ⟨hi,h1,h2⟩
  rw[lb_eq (by omega) h1 fun q a b=>h2 q a (by omega),Qjq hs h1 fun q a b=>h2 q a (by omega)]
  by_cases hlt:i<es.length
  · obtain ⟨e, he⟩ := Qad hlt
    have hke:(froms es).getD i 0=e.1:=by rw[List.getD_eq_getElem?_getD,List.getElem?_map,he];rfl
    have heb:=hb e (List.mem_of_getElem? he)
    rw[hke]
    by_cases hc:e.1=t
    · rw [decide_eq_true ⟨by omega, hc⟩]
      have hc':(e.1:Int)-(t:Int)=0:=by omega
      simp(disch:=first|omega|(simp only[lenW]<;>omega)) only[hlt,QaS he,wW,wV,simprocAttr]
      refine cp (sub229 e t heb ht) ?_
      simp(disch:=first|omega|(simp only[lenW]<;>omega)) only[hc',wW,wV,simprocAttr]
      exact⟨.inr trivial,_,rfl,rfl⟩
    · rw [decide_eq_false fun h => hc h.2]
      have hc':¬(e.1:Int)-(t:Int)=0:=by omega
      simp(disch:=first|omega|(simp only[lenW]<;>omega)) only[hlt,QaS he,wW,wV,simprocAttr]
      refine cp (sub229 e t heb ht) ?_
      simp(disch:=first|omega|(simp only[lenW]<;>omega)) only[hc',wW,wV,simprocAttr]
      exact⟨.inr trivial,_,rfl,rfl⟩
  · rw [decide_eq_false fun h => hlt (by omega)]
    simp(disch:=first|omega|(simp only[lenW]<;>omega)) only[hlt,wW,wV,simprocAttr]
    exact⟨.inr trivial,_,rfl,rfl⟩
theorem find67b (es : List Ed) (t : Nat) (hs : (froms es).Pairwise (· <= ·)) (hb : ∀ e ∈ es, e.1 <= 1000000) (ht : t <= 1000000) (hl : es.length <= 1000000) : PSpec Tryz.prog 265 [egsN es, .int .i64 (t : Int), .fn 267 [] []] (.tup [.int .i64 (lbN (froms es) t : Int), .bool ((froms es).contains t)]) := by
  refine PSpec.Qag 64 ok265 rfl (by(try simp only[noRefs,Qau,Qap,Qas,Qaa,Qaj,Qah,Qak,Qav,Qai,noRef,Bool.and_self,Bool.and_true])<;>rfl) rfl ?_
  have hfl:(froms es).length=es.length:=by simp
  simp(disch:=first|omega|(simp only[lenW]<;>omega)) only[s265,wW,wV,simprocAttr]
  refine Qaw 100 (fun p:Nat×Nat=>[(0,egsN es),(1,.int .i64 (t:Int)),(2,.fn 267 [] []),(8,.int .i64 es.length),(9,.int .i64 p.1),(10,.int .i64 p.2)]) (fun _=>[])
    (fun p=>p.1<=p.2/\p.2<=es.length/\(∀q,q<p.1->(froms es).getD q 0<t)/\∀q,p.2<=q->q<es.length->¬(froms es).getD q 0<t) (fun p=>p.2-p.1) (0,es.length) 0 140
    (fun i:Nat=>[(0,egsN es),(1,.int .i64 (t:Int)),(2,.fn 267 [] []),(8,.int .i64 es.length),(9,.int .i64 i)]) (fun _=>[])
    (fun i=>i<=es.length/\(∀q,q<i->(froms es).getD q 0<t)/\∀q,i<=q->q<es.length->¬(froms es).getD q 0<t) ?_ ⟨Nat.zero_le _,Nat.le_refl _,fun q hq=>absurd hq (Nat.not_lt_zero _),fun q h1 h2=>by omega⟩ ?_ ?_
  · exact⟨[],rfl,au0,au9,au10⟩
  · rintro ⟨i, j⟩ ⟨hij, hj, h1, h2⟩
    dsimp only at hij hj h1 h2⊢
    by_cases hlt:i<j
    · obtain ⟨k, hk, hk1, hk2⟩ : ∃ k : Nat, aBin .shr (.int .u64 ((i : Int) + (j : Int))) (.int .u64 1) = some (.int .u64 (k : Int)) /\ i <= k /\ k < j := ⟨(i + j) / 2, shr1, by omega, by omega⟩
      have hkl:k<es.length:=by omega
      obtain⟨e,he⟩:=Qad hkl
      have hke:(froms es).getD k 0=e.1:=by rw[List.getD_eq_getElem?_getD,List.getElem?_map,he];rfl
      have heb:=hb e (List.mem_of_getElem? he)
      simp(disch:=first|omega|(simp only[lenW]<;>omega)) only[hlt,hk,hkl,QaS he,wW,wV,simprocAttr]
      refine cp (sub230 e t heb ht) ?_
      by_cases hc:e.1<t
      · have hc' : (e.1 : Int) - (t : Int) < 0 := by omega
        simp(disch:=first|omega|(simp only[lenW]<;>omega)) only[hc',wW,wV,simprocAttr]
        refine⟨(k+1,j),by dsimp only;omega,⟨by dsimp only;omega,hj,fun q hq=>?_,h2⟩,⟨[],rfl,au0,au9,au10⟩⟩
        have:=QcF hs (p:=q) (q:=k) (by dsimp only at hq;omega) (by omega)
        omega
      · have hc' : ¬ (e.1 : Int) - (t : Int) < 0 := by omega
        simp(disch:=first|omega|(simp only[lenW]<;>omega)) only[hc',wW,wV,simprocAttr]
        refine⟨(i,k),by dsimp only;omega,⟨hk1,by dsimp only;omega,h1,fun q hq hql=>?_⟩,⟨[],rfl,au0,au9,au10⟩⟩
        have:=QcF hs (p:=k) (q:=q) hq (by omega)
        omega
    · have e : i = j := by omega
      subst e
      simp(disch:=first|omega|(simp only[lenW]<;>omega)) only[hlt,wW,wV,simprocAttr]
      exact⟨i,⟨hj,h1,h2⟩,⟨[],rfl,au0,au9,au10⟩⟩
  rintro i ⟨hi,h1,h2⟩
  rw[lb_eq (by omega) h1 fun q a b=>h2 q a (by omega),Qjq hs h1 fun q a b=>h2 q a (by omega)]
  by_cases hlt:i<es.length
  · obtain ⟨e, he⟩ := Qad hlt
    have hke:(froms es).getD i 0=e.1:=by rw[List.getD_eq_getElem?_getD,List.getElem?_map,he];rfl
    have heb:=hb e (List.mem_of_getElem? he)
    rw[hke]
    by_cases hc:e.1=t
    · rw [decide_eq_true ⟨by omega, hc⟩]
      have hc':(e.1:Int)-(t:Int)=0:=by omega
      simp(disch:=first|omega|(simp only[lenW]<;>omega)) only[hlt,QaS he,wW,wV,simprocAttr]
      refine cp (sub230 e t heb ht) ?_
      simp(disch:=first|omega|(simp only[lenW]<;>omega)) only[hc',wW,wV,simprocAttr]
      exact⟨.inr trivial,_,rfl,rfl⟩
    · rw [decide_eq_false fun h => hc h.2]
      have hc':¬(e.1:Int)-(t:Int)=0:=by omega
      simp(disch:=first|omega|(simp only[lenW]<;>omega)) only[hlt,QaS he,wW,wV,simprocAttr]
      refine cp (sub230 e t heb ht) ?_
      simp(disch:=first|omega|(simp only[lenW]<;>omega)) only[hc',wW,wV,simprocAttr]
      exact⟨.inr trivial,_,rfl,rfl⟩
  · rw [decide_eq_false fun h => hlt (by omega)]
    simp(disch:=first|omega|(simp only[lenW]<;>omega)) only[hlt,wW,wV,simprocAttr]
    exact⟨.inr trivial,_,rfl,rfl⟩
theorem out58 (a:Aut) (v:Nat) (h:WfA a) (hel:a.es.length<=1000000) (hv:v<=100000):PSpec Tryz.prog 223 [aV a,.int .i64 (v:Int)] (egsN (sOut a.es (fun _=>true) v)):=by
 have hs:(froms a.es).Pairwise (· <= ·):=by rw[List.pairwise_map];exact h.srt
 have hb:∀e∈a.es,e.1<=1000000:=fun e he=>by have:=(h.esn e he).1;have:=h.n5;omega
 have f1:=find67 a.es v hs hb (by omega) hel
 have f2:=find67b a.es (v+1) hs hb (by omega) hel
 have e1:((v+1:Nat):Int)=(v:Int)+1:=by omega
 rw[e1]at f2
 have ho:=QmC h.srt v
 have l1:=lb_le (l:=froms a.es) (t:=v+1)
 rw[List.length_map]at l1
 have hm:lbN (froms a.es) v<=lbN (froms a.es) (v+1):=List.countP_mono_left fun x _ hx=>by simp at hx⊢;omega
 generalize (froms a.es).contains v=b1 at*
 generalize (froms a.es).contains (v+1)=b2 at*
 generalize lbN (froms a.es) v=p at*
 generalize lbN (froms a.es) (v+1)=q at*
 have hlen:q-p=(sOut a.es (fun _=>true) v).length:=by rw[<-ho,List.length_take,List.length_drop];omega
 have hpq:(p:Int)<=(q:Int):=by omega
 have hql:(q:Int)<=(a.es.length:Int):=by omega
 refine PSpec.of_rn 64 ok223 rfl (by(try simp only[noRefs,Qau,Qap,Qas,Qaa,Qaj,Qah,Qak,Qav,Qai,noRef,Bool.and_self,Bool.and_true])<;>rfl) (QaM _) ?_
 simp(disch:=first|omega|(simp only[lenW]<;>omega)) only[s223,wW,wV,simprocAttr]
 refine cp f1 ?_
 simp(disch:=first|omega|(simp only[lenW]<;>omega)) only[wW,wV,simprocAttr]
 refine cp f2 ?_
 simp(disch:=first|omega|(simp only[lenW]<;>omega)) only[hpq,hql,wW,wV,simprocAttr]
 refine⟨.inr trivial,_,rfl,?_⟩
 rw[QhZ,Qh0,ho,hlen]
 exact Rn.same (QaM _)
end Go.AM.SE
namespace Go.AM.SE
open Go.Proofs Go.AM.SD
abbrev rsA (a:Aut):List AV:=[sliN a.al,.int .i64 (a.n:Int),sliN a.ms,egsN a.es]
abbrev rsN:List AV:=[.nilsl,.int .i64 0,.nilsl,.nilsl]
end Go.AM.SE
namespace Go.AM.SE
open Go.Proofs Go.AM.SD
def pl (n:Nat) (o:List Nat):List Int:=(List.range n).map fun x=>if o.contains x then((SD.idx o x:Nat):Int)else-1
theorem QgD {n:Nat} {o:List Nat}:(pl n o).length=n:=by simp[pl]
theorem QgE {n:Nat} {o:List Nat} {x:Nat} (hx:x<n):(pl n o).getD x 0=if o.contains x then((SD.idx o x:Nat):Int)else-1:=by
 unfold pl;rw[List.getD_eq_getElem?_getD,List.getElem?_map,List.getElem?_range hx];rfl
theorem QmD {n:Nat} {o:List Nat} {x:Nat} (hx:x∉o):(pl n o).set x (o.length:Int)=pl n (o++[x]):=by
 refine List.ext_getElem (by simp[pl]) fun j h1 h2=>?_
 have hj:j<n:=by simpa[pl]using h2
 rw[List.getElem_set]
 simp only[pl,List.getElem_map,List.getElem_range]
 by_cases e:x=j
 ·subst e
  rw[if_pos rfl,if_pos (by simp),SD.QdR hx]
 ·rw [if_neg e]
  by_cases hm:j∈o
  ·rw[if_pos (by simpa using hm),if_pos (by simp[hm]),SD.Qc4 hm]
  ·have e2 : ¬ j = x := fun h => e h.symm
   rw[if_neg (by simpa using hm),if_neg (by simp[hm,e2])]
theorem QnB {n:Nat} (h0:0<n):(List.replicate n (-1:Int)).set 0 0=pl n [0]:=by
 refine List.ext_getElem (by simp[pl]) fun j h1 h2=>?_
 have hj:j<n:=by simpa[pl]using h2
 rw[List.getElem_set]
 simp only[pl,List.getElem_map,List.getElem_range,List.getElem_replicate]
 by_cases e:0=j
 ·subst e;rw[if_pos rfl,if_pos (by simp)];rfl
 ·have e2 : ¬ j = 0 := fun h => e h.symm
  rw[if_neg e,if_neg (by simp[e2])]
abbrev cnB (a:Aut) (m e:Nat):List AV:=[.sl 83 0 0 a.al.length 1,.int .i64 0,.sl 77 0 0 m 1,.sl 76 0 0 e 3]
abbrev tru:Nat->Bool:=fun _=>true
theorem canonical44 (a : Aut) (h : WfA a) (hel : a.es.length <= 1000000) : PSpec Tryz.prog 251 [aV a] (aV (restr a tru)) := by
  have hn5:=h.n5
  have hal:a.al.length<=32:=QaQ 32 a.al (by rw[List.nodup_iff_pairwise_ne];exact h.al.imp fun h=>by omega) h.al5
  have hml:a.ms.length<=a.n:=QaQ a.n a.ms h.nd h.msn
  have hmsP:a.ms.Pairwise (· <= ·):=h.ms.imp fun h=>by omega
  have hn':(a.n:Int)<=140737488355328:=by omega
  have hn8:(8:Int)*(a.n:Int)<=140737488355328:=by omega
  refine PSpec.of_rn 40 ok251 rfl (by(try simp only[noRefs,Qau,Qap,Qas,Qaa,Qaj,Qah,Qak,Qav,Qai,noRef,Bool.and_self,Bool.and_true])<;>rfl) (QcD _) ?_
  simp(disch:=first|omega|(simp only[lenW]<;>omega)) only[s251,wW,wV,simprocAttr]
  refine ch (HSpec.of_O (b:=83) (by(try simp only[noRefs,Qau,Qap,Qas,Qaa,Qaj,Qah,Qak,Qav,Qai,noRef,Bool.and_self,Bool.and_true])<;>rfl) (clone56 a.al (by omega)) (by repeat (first|exact Fresh.e|exact Fresh.le (by assumption) (by omega)|refine Fresh.set ?_ (by omega) (by omega))) rfl) ?_
  by_cases h0:a.n=0
  · have h0' : (a.n : Int) = 0 := by omega
    have e:sAll a tru=([],[]):=by unfold sAll;rw[h0];rfl
    have hr:restr a tru=⟨a.al,0,[],[]⟩:=by unfold restr;rw[e];rfl
    simp(disch:=first|omega|(simp only[lenW]<;>omega)) only[h0',wW,wV,simprocAttr]
    refine⟨.inr trivial,_,rfl,?_⟩
    rw[hr]
    exact Rn.agg (RnL.cons (Rn.fz0 (g:=0) rfl (by simp[ints]) (RnL.same (Qaa _))) (RnL.cons (Rn.same rfl) (RnL.cons Rn.nilK (RnL.cons Rn.nilK RnL.nil))))
  have h0':¬(a.n:Int)=0:=by omega
  have h0p:0<a.n:=by omega
  have h0n:(0:Int)<(a.n:Int):=by omega
  simp(disch:=first|omega|(simp only[lenW]<;>omega)) only[h0',hn',hn8,Qnu,wW,wV,simprocAttr]
  refine Qaw 100 (fun i:Nat=>[(1,.ptr 50 0 0),(2,.ptr 60 0 0),(3,.ptr 69 0 0),(4,.sl 78 0 0 a.n 1),(24,.int .i64 a.n),(25,.int .i64 i)])
    (fun i=>[(50,.cells 0 (rsA a)),(60,.cells 0 rsN),(69,.cells 0 [.sl 83 0 0 a.al.length 1,.int .i64 0,.nilsl,.nilsl]),(83,.cells 0 (ints (nz a.al))),(78,.cells 0 (ints (List.replicate i (-1)++List.replicate (a.n-i) 0)))])
    (fun i=>i<=a.n) (fun i=>a.n-i) 0 0 120
    (fun _:Unit=>[(1,.ptr 50 0 0),(2,.ptr 60 0 0),(3,.ptr 69 0 0),(4,.sl 78 0 0 a.n 1)])
    (fun _=>[(50,.cells 0 (rsA a)),(60,.cells 0 rsN),(69,.cells 0 [.sl 83 0 0 a.al.length 1,.int .i64 0,.nilsl,.nilsl]),(83,.cells 0 (ints (nz a.al))),(78,.cells 0 (ints (List.replicate a.n (-1))))]) (fun _=>True) ?_ (Nat.zero_le _) ?_ ?_
  · exact⟨[(50,.blk 40 0),(60,.blk 41 0),(69,.blk 46 0),(83,.blk 83 0),(78,.blk 53 0)],rfl,au0,au9,au10⟩
  · rintro i hi
    by_cases hlt:i<a.n
    · have h1 : i + 1 <= i + (a.n - i) := by omega
      simp(disch:=first|omega|(simp only[lenW]<;>omega)) only[hlt,h1,Qef,Qmu hlt,wW,wV,simprocAttr]
      exact⟨i+1,by omega,by omega,⟨[(50,.blk 50 0),(60,.blk 60 0),(69,.blk 69 0),(83,.blk 83 0),(78,.blk 78 0)],rfl,au0,au9,au10⟩⟩
    · have e : i = a.n := by omega
      subst e
      have e2:List.replicate a.n (-1:Int)++List.replicate (a.n-a.n) 0=List.replicate a.n (-1):=by simp
      simp(disch:=first|omega|(simp only[lenW]<;>omega)) only[hlt,wW,wV,simprocAttr]
      refine⟨(),?_⟩
      rw[e2]
      exact⟨[(50,.blk 50 0),(60,.blk 60 0),(69,.blk 69 0),(83,.blk 83 0),(78,.blk 78 0)],rfl,au0,au9,au10⟩
  rintro _ _
  have hp1:1<=a.n:=h0p
  have hps:=QnB h0p
  simp(disch:=first|omega|(simp only[lenW]<;>omega)) only[h0n,hp1,Qef,hps,wW,wV,simprocAttr]
  have hsi:SI a.n a.es tru 0 (([0],[]):OE):=⟨⟨by simp,fun x hx=>by simp at hx;omega⟩,fun _ _=>rfl,Nat.zero_le _,fun j v hj=>by omega,by simp⟩
  have hq0:sQ a.es tru (a.n+1) 0 ([0],[])=sAll a tru:=by
    unfold sAll;rw[if_pos (by simp[h0p])]
  refine Qaw 180 (fun t:Nat×OE=>[(1,.ptr 50 0 0),(2,.ptr 60 0 0),(3,.ptr 69 0 0),(4,.sl 78 0 0 a.n 1),(6,.sl 75 0 0 t.2.1.length 1),(7,.int .i64 t.1)])
    (fun t=>[(50,.cells 0 (rsA a)),(60,.cells 0 rsN),(69,.cells 0 (cnB a (mks a t.1 t.2.1).length t.2.2.length)),(83,.cells 0 (ints (nz a.al))),(78,.cells 0 (ints (pl a.n t.2.1))),(75,.cells 0 (ints (nz t.2.1))),(76,.cells 0 (t.2.2.flatMap edC)),(77,.cells 0 (ints (nz (mks a t.1 t.2.1))))])
    (fun t=>t.1<=a.n/\SI a.n a.es tru t.1 t.2/\t.2.2.length<=t.1*1000000/\sQ a.es tru (a.n+1-t.1) t.1 t.2=sAll a tru) (fun t=>a.n+1-t.1) (0,([0],[])) 2 260
    (fun _:Unit=>[(2,.ptr 60 0 0),(3,.ptr 69 0 0),(6,.sl 75 0 0 (sAll a tru).1.length 1)])
    (fun _=>[(60,.cells 0 rsN),(69,.cells 0 (cnB a (restr a tru).ms.length (restr a tru).es.length)),(83,.cells 0 (ints (nz a.al))),(75,.cells 0 (ints (nz (sAll a tru).1))),(76,.cells 0 ((restr a tru).es.flatMap edC)),(77,.cells 0 (ints (nz (restr a tru).ms)))]) (fun _=>True) ?_ ⟨Nat.zero_le _,hsi,Nat.zero_le _,hq0⟩ ?_ ?_
  · dsimp only
    have hms0:mks a 0 [0]=[]:=rfl
    rw[hms0]
    exact⟨[(50,.blk 50 0),(60,.blk 60 0),(69,.blk 69 0),(83,.blk 83 0),(78,.blk 78 0),(75,.blk 123 0),(76,.nil),(77,.nil)],rfl,au0,au9,au10⟩
  · rintro ⟨i, s⟩ ⟨hi, hsi, hsl, hq⟩
    dsimp only at hi hsi hsl hq⊢
    have hfl:=hsi.fi.len
    have hile:=hsi.le
    by_cases hlt:i<s.1.length
    · obtain ⟨v, hv⟩ := Qad hlt
      have hvn:=hsi.fi.lt v (List.mem_of_getElem? hv)
      have hin':i<a.n:=by omega
      have hsi':=hsi.step h.esn hv
      have hq':sQ a.es tru (a.n+1-(i+1)) (i+1) (sRow a.es tru i v s)=sAll a tru:=by
        rw[<-hq,show a.n+1-i=(a.n+1-(i+1))+1 by omega]
        simp only[sQ,hv]
      have hrow:=fun j=>Qdh (n:=a.n) (left:=tru) i ((sOut a.es tru v).take j) s (fun e he=>⟨(h.esn e (QaX.1 (List.mem_of_mem_take he)).1).2,rfl⟩) hsi.fi hsi.lft
      have hol:=QfV a.es tru v
      have hmn:=Qjo (a:=a) hv
      have hmsl:=@QkN a i s.1
      have hmapp:mks a (i+1) (sRow a.es tru i v s).1=mks a (i+1) s.1:=by
        obtain⟨_,_,⟨t,ht⟩,_⟩:=Qdh (n:=a.n) (left:=tru) i (sOut a.es tru v) s (fun e he=>⟨(h.esn e (QaX.1 he).1).2,rfl⟩) hsi.fi hsi.lft
        have ht:(sRow a.es tru i v s).1=s.1++t:=ht
        rw[ht,Qoi (by omega)]
      have hc:=find57 a.ms v hmsP (by omega)
      have ho:=out58 a v h hel (by omega)
      generalize hM0:mks a i s.1=M0 at*
      generalize hM:mks a (i+1) s.1=M at*
      simp(disch:=first|omega|(simp only[lenW]<;>omega)) only[hlt,Qdt (nz_at hv),wW,wV,simprocAttr]
      refine cp hc ?_
      by_cases hmv:a.ms.contains v=true
      · rw [if_pos hmv] at hmn
        rw[hmv]
        simp(disch:=first|omega|(simp only[lenW]<;>omega)) only[hlt,Qdt (nz_at hv),wW,wV,simprocAttr]
        refine cp ho ?_
        simp(disch:=first|omega|(simp only[lenW]<;>omega)) only[wW,wV,simprocAttr]
        refine Qaw 300 (fun j:Nat=>[(1,.ptr 50 0 0),(2,.ptr 60 0 0),(3,.ptr 69 0 0),(4,.sl 78 0 0 a.n 1),(6,.sl 75 0 0 (((sOut a.es tru v).take j).foldl (sEd i) s).1.length 1),(7,.int .i64 i),(63,egsN (sOut a.es tru v)),(64,.int .i64 (sOut a.es tru v).length),(65,.int .i64 j)])
          (fun j=>[(50,.cells 0 (rsA a)),(60,.cells 0 rsN),(69,.cells 0 (cnB a M.length (((sOut a.es tru v).take j).foldl (sEd i) s).2.length)),(83,.cells 0 (ints (nz a.al))),(78,.cells 0 (ints (pl a.n (((sOut a.es tru v).take j).foldl (sEd i) s).1))),(75,.cells 0 (ints (nz (((sOut a.es tru v).take j).foldl (sEd i) s).1))),(76,.cells 0 ((((sOut a.es tru v).take j).foldl (sEd i) s).2.flatMap edC)),(77,.cells 0 (ints (nz M)))])
          (fun j=>j<=(sOut a.es tru v).length) (fun j=>(sOut a.es tru v).length-j) 0 4 400
          (fun _:Unit=>[(1,.ptr 50 0 0),(2,.ptr 60 0 0),(3,.ptr 69 0 0),(4,.sl 78 0 0 a.n 1),(6,.sl 75 0 0 (sRow a.es tru i v s).1.length 1),(7,.int .i64 i)])
          (fun _=>[(50,.cells 0 (rsA a)),(60,.cells 0 rsN),(69,.cells 0 (cnB a M.length (sRow a.es tru i v s).2.length)),(83,.cells 0 (ints (nz a.al))),(78,.cells 0 (ints (pl a.n (sRow a.es tru i v s).1))),(75,.cells 0 (ints (nz (sRow a.es tru i v s).1))),(76,.cells 0 ((sRow a.es tru i v s).2.flatMap edC)),(77,.cells 0 (ints (nz M)))]) (fun _=>True) ?_ (Nat.zero_le _) ?_ ?_
        · rw [hmn, List.length_append, QaK, QaD]
          exact⟨[(50,.blk 50 0),(60,.blk 60 0),(69,.blk 69 0),(83,.blk 83 0),(78,.blk 78 0),(75,.blk 75 0),(76,.blk 76 0),(77,.blk 77 1)],rfl,au0,au9,au10⟩
        · rintro j hj
          by_cases hjl:j<(sOut a.es tru v).length
          · obtain ⟨e, he⟩ := Qad hjl
            have hem:=QaX.1 (List.mem_of_getElem? he)
            have hto:=(h.esn e hem.1).2
            obtain⟨k1,_,_,_,_⟩:=hrow j
            have hfi:=k1.len
            have hstep:=QhU (i:=i) (s:=s) he
            have hsl2:=Qdu (i:=i) ((sOut a.es tru v).take j) s
            rw[List.length_take]at hsl2
            generalize (((sOut a.es tru v).take j).foldl (sEd i) s)=t at*
            have hel2:=QbV t.2
            have hpl:=QgD (n:=a.n) (o:=t.1)
            have hpg:=QgE (o:=t.1) hto
            have hpt:e.2.2<(pl a.n t.1).length:=by omega
            have hp1:e.2.2+1<=(pl a.n t.1).length:=by omega
            by_cases hc:e.2.2∈t.1
            · have h2 : sEd i t e = (t.1, t.2 ++ [(i, e.2.1, SD.idx t.1 e.2.2)]) := if_pos (by simpa using hc)
              rw[h2]at hstep
              rw[if_pos (by simpa using hc)]at hpg
              have h3:¬((SD.idx t.1 e.2.2:Nat):Int)<0:=by omega
              generalize SD.idx t.1 e.2.2=q at*
              simp(disch:=first|omega|(simp only[lenW]<;>omega)) only[hjl,QaS he,hto,Qch hpt,hpg,h3,hel2,wW,wV,simprocAttr]
              refine⟨j+1,by omega,by omega,?_⟩
              rw[hstep,List.flatMap_append,List.length_append]
              exact⟨[(50,.blk 50 0),(60,.blk 60 0),(69,.blk 69 0),(83,.blk 83 0),(78,.blk 78 0),(75,.blk 75 0),(76,.blk 76 1),(77,.blk 77 0)],rfl,au0,au9,au10⟩
            · have h2 : sEd i t e = (t.1 ++ [e.2.2], t.2 ++ [(i, e.2.1, t.1.length)]) := if_neg (by simpa using hc)
              rw[h2]at hstep
              rw[if_neg (by simpa using hc)]at hpg
              have hps:=QmD (n:=a.n) hc
              have h3:(-1:Int)<0:=by decide
              have hpl2:e.2.2<(pl a.n (t.1++[e.2.2])).length:=by rw[QgD];exact hto
              have hpg2:(pl a.n (t.1++[e.2.2])).getD e.2.2 0=(t.1.length:Int):=by
                rw[QgE hto,if_pos (by simp),SD.QdR hc]
              simp(disch:=first|omega|(simp only[lenW]<;>omega)) only[hjl,QaS he,hto,Qch hpt,hpg,h3,hel2,hp1,Qef,hps,Qch hpl2,hpg2,wW,wV,simprocAttr]
              refine⟨j+1,by omega,by omega,?_⟩
              rw[hstep,List.flatMap_append,List.length_append]
              dsimp only
              rw[List.length_append,QaK,QaD]
              exact⟨[(50,.blk 50 0),(60,.blk 60 0),(69,.blk 69 0),(83,.blk 83 0),(78,.blk 78 0),(75,.blk 75 1),(76,.blk 76 1),(77,.blk 77 0)],rfl,au0,au9,au10⟩
          · have e : j = (sOut a.es tru v).length := by omega
            subst e
            simp(disch:=first|omega|(simp only[lenW]<;>omega)) only[hjl,wW,wV,simprocAttr]
            refine⟨(),?_⟩
            exact⟨[(50,.blk 50 0),(60,.blk 60 0),(69,.blk 69 0),(83,.blk 83 0),(78,.blk 78 0),(75,.blk 75 0),(76,.blk 76 0),(77,.blk 77 0)],rfl,au0,au9,au10⟩
        rintro _ _
        have hsl3:(sRow a.es tru i v s).2.length=s.2.length+(sOut a.es tru v).length:=Qdu _ _
        have hol3:=QfV a.es tru v
        simp(disch:=first|omega|(simp only[lenW]<;>omega)) only[wW,wV,simprocAttr]
        refine⟨(i+1,sRow a.es tru i v s),by dsimp only;omega,⟨hin',hsi',by dsimp only;omega,hq'⟩,?_⟩
        dsimp only
        rw[hmapp]
        exact⟨[(50,.blk 50 0),(60,.blk 60 0),(69,.blk 69 0),(83,.blk 83 0),(78,.blk 78 0),(75,.blk 75 0),(76,.blk 76 0),(77,.blk 77 0)],rfl,au0,au9,au10⟩
      · rw [if_neg hmv, List.append_nil] at hmn
        rw[Bool.not_eq_true]at hmv
        rw[hmv]
        simp(disch:=first|omega|(simp only[lenW]<;>omega)) only[hlt,Qdt (nz_at hv),wW,wV,simprocAttr]
        refine cp ho ?_
        simp(disch:=first|omega|(simp only[lenW]<;>omega)) only[wW,wV,simprocAttr]
        refine Qaw 300 (fun j:Nat=>[(1,.ptr 50 0 0),(2,.ptr 60 0 0),(3,.ptr 69 0 0),(4,.sl 78 0 0 a.n 1),(6,.sl 75 0 0 (((sOut a.es tru v).take j).foldl (sEd i) s).1.length 1),(7,.int .i64 i),(63,egsN (sOut a.es tru v)),(64,.int .i64 (sOut a.es tru v).length),(65,.int .i64 j)])
          (fun j=>[(50,.cells 0 (rsA a)),(60,.cells 0 rsN),(69,.cells 0 (cnB a M.length (((sOut a.es tru v).take j).foldl (sEd i) s).2.length)),(83,.cells 0 (ints (nz a.al))),(78,.cells 0 (ints (pl a.n (((sOut a.es tru v).take j).foldl (sEd i) s).1))),(75,.cells 0 (ints (nz (((sOut a.es tru v).take j).foldl (sEd i) s).1))),(76,.cells 0 ((((sOut a.es tru v).take j).foldl (sEd i) s).2.flatMap edC)),(77,.cells 0 (ints (nz M)))])
          (fun j=>j<=(sOut a.es tru v).length) (fun j=>(sOut a.es tru v).length-j) 0 4 400
          (fun _:Unit=>[(1,.ptr 50 0 0),(2,.ptr 60 0 0),(3,.ptr 69 0 0),(4,.sl 78 0 0 a.n 1),(6,.sl 75 0 0 (sRow a.es tru i v s).1.length 1),(7,.int .i64 i)])
          (fun _=>[(50,.cells 0 (rsA a)),(60,.cells 0 rsN),(69,.cells 0 (cnB a M.length (sRow a.es tru i v s).2.length)),(83,.cells 0 (ints (nz a.al))),(78,.cells 0 (ints (pl a.n (sRow a.es tru i v s).1))),(75,.cells 0 (ints (nz (sRow a.es tru i v s).1))),(76,.cells 0 ((sRow a.es tru i v s).2.flatMap edC)),(77,.cells 0 (ints (nz M)))]) (fun _=>True) ?_ (Nat.zero_le _) ?_ ?_
        · rw [hmn]
          exact⟨[(50,.blk 50 0),(60,.blk 60 0),(69,.blk 69 0),(83,.blk 83 0),(78,.blk 78 0),(75,.blk 75 0),(76,.blk 76 0),(77,.blk 77 0)],rfl,au0,au9,au10⟩
        · rintro j hj
          by_cases hjl:j<(sOut a.es tru v).length
          · obtain ⟨e, he⟩ := Qad hjl
            have hem:=QaX.1 (List.mem_of_getElem? he)
            have hto:=(h.esn e hem.1).2
            obtain⟨k1,_,_,_,_⟩:=hrow j
            have hfi:=k1.len
            have hstep:=QhU (i:=i) (s:=s) he
            have hsl2:=Qdu (i:=i) ((sOut a.es tru v).take j) s
            rw[List.length_take]at hsl2
            generalize (((sOut a.es tru v).take j).foldl (sEd i) s)=t at*
            have hel2:=QbV t.2
            have hpl:=QgD (n:=a.n) (o:=t.1)
            have hpg:=QgE (o:=t.1) hto
            have hpt:e.2.2<(pl a.n t.1).length:=by omega
            have hp1:e.2.2+1<=(pl a.n t.1).length:=by omega
            by_cases hc:e.2.2∈t.1
            · have h2 : sEd i t e = (t.1, t.2 ++ [(i, e.2.1, SD.idx t.1 e.2.2)]) := if_pos (by simpa using hc)
              rw[h2]at hstep
              rw[if_pos (by simpa using hc)]at hpg
              have h3:¬((SD.idx t.1 e.2.2:Nat):Int)<0:=by omega
              generalize SD.idx t.1 e.2.2=q at*
              simp(disch:=first|omega|(simp only[lenW]<;>omega)) only[hjl,QaS he,hto,Qch hpt,hpg,h3,hel2,wW,wV,simprocAttr]
              refine⟨j+1,by omega,by omega,?_⟩
              rw[hstep,List.flatMap_append,List.length_append]
              exact⟨[(50,.blk 50 0),(60,.blk 60 0),(69,.blk 69 0),(83,.blk 83 0),(78,.blk 78 0),(75,.blk 75 0),(76,.blk 76 1),(77,.blk 77 0)],rfl,au0,au9,au10⟩
            · have h2 : sEd i t e = (t.1 ++ [e.2.2], t.2 ++ [(i, e.2.1, t.1.length)]) := if_neg (by simpa using hc)
              rw[h2]at hstep
              rw[if_neg (by simpa using hc)]at hpg
              have hps:=QmD (n:=a.n) hc
              have h3:(-1:Int)<0:=by decide
              have hpl2:e.2.2<(pl a.n (t.1++[e.2.2])).length:=by rw[QgD];exact hto
              have hpg2:(pl a.n (t.1++[e.2.2])).getD e.2.2 0=(t.1.length:Int):=by
                rw[QgE hto,if_pos (by simp),SD.QdR hc]
              simp(disch:=first|omega|(simp only[lenW]<;>omega)) only[hjl,QaS he,hto,Qch hpt,hpg,h3,hel2,hp1,Qef,hps,Qch hpl2,hpg2,wW,wV,simprocAttr]
              refine⟨j+1,by omega,by omega,?_⟩
              rw[hstep,List.flatMap_append,List.length_append]
              dsimp only
              rw[List.length_append,QaK,QaD]
              exact⟨[(50,.blk 50 0),(60,.blk 60 0),(69,.blk 69 0),(83,.blk 83 0),(78,.blk 78 0),(75,.blk 75 1),(76,.blk 76 1),(77,.blk 77 0)],rfl,au0,au9,au10⟩
          · have e : j = (sOut a.es tru v).length := by omega
            subst e
            simp(disch:=first|omega|(simp only[lenW]<;>omega)) only[hjl,wW,wV,simprocAttr]
            refine⟨(),?_⟩
            exact⟨[(50,.blk 50 0),(60,.blk 60 0),(69,.blk 69 0),(83,.blk 83 0),(78,.blk 78 0),(75,.blk 75 0),(76,.blk 76 0),(77,.blk 77 0)],rfl,au0,au9,au10⟩
        rintro _ _
        have hsl3:(sRow a.es tru i v s).2.length=s.2.length+(sOut a.es tru v).length:=Qdu _ _
        have hol3:=QfV a.es tru v
        simp(disch:=first|omega|(simp only[lenW]<;>omega)) only[wW,wV,simprocAttr]
        refine⟨(i+1,sRow a.es tru i v s),by dsimp only;omega,⟨hin',hsi',by dsimp only;omega,hq'⟩,?_⟩
        dsimp only
        rw[hmapp]
        exact⟨[(50,.blk 50 0),(60,.blk 60 0),(69,.blk 69 0),(83,.blk 83 0),(78,.blk 78 0),(75,.blk 75 0),(76,.blk 76 0),(77,.blk 77 0)],rfl,au0,au9,au10⟩
    · have hv : s.1[i]? = none := List.getElem?_eq_none (by omega)
      have hqf:s=sAll a tru:=by
        rw[<-hq,show a.n+1-i=(a.n-i)+1 by omega]
        simp only[sQ,hv]
      have hil:i=s.1.length:=by omega
      have hmf:mks a i s.1=(restr a tru).ms:=by rw[hil,hqf];rfl
      have hef:s.2=(restr a tru).es:=by rw[hqf];rfl
      simp(disch:=first|omega|(simp only[lenW]<;>omega)) only[hlt,wW,wV,simprocAttr]
      refine⟨(),?_⟩
      rw[hmf,hef,<-hqf]
      exact⟨[(60,.blk 60 0),(69,.blk 69 0),(83,.blk 83 0),(75,.blk 75 0),(76,.blk 76 0),(77,.blk 77 0)],rfl,au0,au9,au10⟩
  rintro _ _
  have hra:(restr a tru).al=a.al:=rfl
  have hrn2:(restr a tru).n=(sAll a tru).1.length:=rfl
  simp(disch:=first|omega|(simp only[lenW]<;>omega)) only[wW,wV,simprocAttr]
  refine⟨.inr trivial,_,rfl,?_⟩
  exact Rn.agg (RnL.cons (Rn.fz0 (g:=0) rfl (by simp[ints,hra]) (RnL.same (Qaa _))) (RnL.cons (Rn.same rfl) (RnL.cons (Rn.fz0 (g:=0) rfl (by simp[ints]) (RnL.same (Qaa _))) (RnL.cons (Rn.fz0 (g:=0) rfl (QbV _) (RnL.same (Qah _))) RnL.nil))))
end Go.AM.SE
namespace Go.AM.SO
open Go.Proofs Go.AM.SD Go.AM.SE
theorem check112 (a:Aut) (h:WfA a) (hel:a.es.length<=1000000):PSpec Tryz.prog 66 [aV a] (.int .i64 0):=by
 have:=check37 (au a) (WfA.auOk h hel)
 rwa [QoU]at this
theorem isCanon60 (a:Aut) (h:WfA a) (hel:a.es.length<=1000000) (hc:restr a (fun _=>true)=a):PSpec Tryz.prog 191 [aV a] (.bool true):=by
 have h1:=canonical44 a h hel
 have hc':restr a tru=a:=hc
 rw[hc']at h1
 have hn5:=h.n5
 have hal:a.al.length<=32:=QaQ 32 a.al (by rw[List.nodup_iff_pairwise_ne];exact h.al.imp fun h=>by omega) h.al5
 have hml:a.ms.length<=a.n:=QaQ a.n a.ms h.nd h.msn
 have ho:AOk a:=⟨by omega,by omega,by omega⟩
 have h2:=eq43 a a ho ho
 rw[QmB]at h2
 refine PSpec.Qag 64 ok191 rfl (by(try simp only[noRefs,Qaa,Qaj,Qah,Qak,Qai,noRef,Bool.and_self,Bool.and_true])<;>rfl) rfl ?_
 simp(disch:=first|omega|(simp only[lenW]<;>omega)) only[s191,wV,simprocAttr]
 refine cp (check112 a h hel) ?_
 simp(disch:=first|omega|(simp only[lenW]<;>omega)) only[wV,simprocAttr]
 refine cp h1 ?_
 simp(disch:=first|omega|(simp only[lenW]<;>omega)) only[wV,simprocAttr]
 refine cp h2 ?_
 simp(disch:=first|omega|(simp only[lenW]<;>omega)) only[wV,simprocAttr]
 exact⟨.inr trivial,_,rfl,rfl⟩
end Go.AM.SO
namespace Go.AM.SP
open Go.Proofs
noncomputable section
def isTrue:AV->Bool| .bool true=>true|_=>false
theorem QmE:∀u,isTrue u=true->u= .bool true:=by
 intro u h
 unfold isTrue at h
 split at h
 ·rfl
 ·cases h
def nameB (s:List UInt8):Bool:=callR ansB noOrc SK.ft.get (exR ansB noOrc SK.ft.get 1000) (.c .pure) 165 [.str s] .e 64 (fun u _ _=>isTrue u)
theorem QbP {s:List UInt8} (h:nameB s=true):PSpec Tryz.prog 165 [.str s] (.bool true):=
 QbJ (t:=SK.ft) SK.ft_ok Qds (d:=1000) isTrue QmE h
theorem Qo0:PSpec Tryz.prog 165 [.str [97]] (.bool true):=QbP (by kernel_rfl)
theorem Qo1:PSpec Tryz.prog 165 [.str [98]] (.bool true):=QbP (by kernel_rfl)
theorem Qjr:PSpec Tryz.prog 165 [.str [99]] (.bool true):=QbP (by kernel_rfl)
theorem Qo2:PSpec Tryz.prog 165 [.str [100]] (.bool true):=QbP (by kernel_rfl)
theorem Qo3:PSpec Tryz.prog 165 [.str [101]] (.bool true):=QbP (by kernel_rfl)
theorem Qok:PSpec Tryz.prog 165 [.str [99,48]] (.bool true):=QbP (by kernel_rfl)
theorem Qol:PSpec Tryz.prog 165 [.str [99,49]] (.bool true):=QbP (by kernel_rfl)
theorem Qom:PSpec Tryz.prog 165 [.str [99,50]] (.bool true):=QbP (by kernel_rfl)
theorem Qon:PSpec Tryz.prog 165 [.str [114,48]] (.bool true):=QbP (by kernel_rfl)
theorem Qoo:PSpec Tryz.prog 165 [.str [114,49]] (.bool true):=QbP (by kernel_rfl)
end
end Go.AM.SP
namespace Go.AM.SO
open Go.Proofs Go.AM.SD Go.AM.SE
structure Evt where
 c:Bool
 o:Bool
 f:Bool
 flt:Nat
def Evt.Ok (e:Evt):Prop:=e.flt<=4/\(e.flt≠0->e.c=false/\e.o=false)
def evC (i:Nat) (e:Evt):List AV:=[.str [UInt8.ofNat (97+i)],.bool e.c,.bool e.o,.bool e.f,.int .i64 (e.flt:Int)]
abbrev evsC (e:Nat->Evt):List AV:=evC 0 (e 0)++evC 1 (e 1)++evC 2 (e 2)++evC 3 (e 3)++evC 4 (e 4)
abbrev evsV (e:Nat->Evt):AV:= .fsl (evsC e) 5 5
theorem Qo4 (e:Nat->Evt) {i:Nat} (hi:i<5):((evsC e).drop (i*5)).take 5=evC i (e i):=by
 have:i=0\/i=1\/i=2\/i=3\/i=4:=by omega
 rcases this with rfl|rfl|rfl|rfl|rfl<;>rfl
theorem Qop (e:Nat->Evt):(evsC e).length=25:=rfl
theorem Qoq {i:Nat} (hi:i<5):PSpec Tryz.prog 165 [.str [UInt8.ofNat (97+i)]] (.bool true):=by
 have:i=0\/i=1\/i=2\/i=3\/i=4:=by omega
 rcases this with rfl|rfl|rfl|rfl|rfl
 ·exact SP.Qo0
 ·exact SP.Qo1
 ·exact SP.Qjr
 ·exact SP.Qo2
 ·exact SP.Qo3
end Go.AM.SO
namespace Go.AM
variable {P:Program}
def mapS (f:List UInt8->AV) (l:List (List UInt8)):List (AV×AV):=l.map fun x=>(.str x,f x)
def updS (f:List UInt8->AV) (x:List UInt8) (v:AV):List UInt8->AV:=fun y=>if y=x then v else f y
theorem Qh1 {x y:List UInt8}:keyEq false [.s] (.str x) (.str y)=some (decide (x=y)):=by
 simp_all [keyEq,eqCells,eqCell]
theorem Qeh {f:List UInt8->AV} {x:List UInt8}:∀(l:List (List UInt8)) (i:Nat),x∉l->aFind false [.s] (.str x) (mapS f l) i=some none
 |[],_,_=>rfl
 |y::l,i,hx=>by
  simp only[List.mem_cons,not_or]at hx
  show(match keyEq false [.s] (.str x) (.str y)with|some true=>_|some false=>_|none=>_)=_
  rw[Qh1,decide_eq_false hx.1]
  exact Qeh l (i+1) hx.2
theorem QnC {f:List UInt8->AV} {x:List UInt8} {v:AV} {l:List (List UInt8)} (hx:x∉l):mapS f l++[(.str x,v)]=mapS (updS f x v) (l++[x]):=by
 grind [mapS,updS,List.map_congr_left]
theorem Qh2 {x:List UInt8}:keyOK false [.s] (.str x)=true:=by unfold keyOK;rw[Qh1]
section
variable {N:NM} {d:Option Nat} {r:List SOper} {dead:List Nat} {fs:List Fr} {n:Nat} {T:Tmps} {h:Heap} {Q:QC}
theorem QeQ {f:List UInt8->AV} {x:List UInt8} {l:List (List UInt8)} {b g:Nat} {z:AV} {ok:Bool} (hb:h.get b=some (.map g (mapS f l))) (hx:x∉l)
  (hk:wR P N r dead fs (n+1) (putD T d (if ok then .tup [z,.bool false]else z)) h Q):wM P N (aLookup false [.s] z ok (.map b g) (.str x)) d r dead fs n T h Q:=by
 refine⟨_,h,?_,hk⟩
 simp_all [aLookup,Qh2,HM.entries,HM.run,Qeh]
theorem Qdv {f:List UInt8->AV} {x:List UInt8} {l:List (List UInt8)} {b g:Nat} {v:AV} (hb:h.get b=some (.map g (mapS f l))) (hx:x∉l) (hl:b<1099511627775)
  (hk:wR P N r dead fs (n+1) (putD T d .any) (h.set b (.map g (mapS (updS f x v) (l++[x])))) Q):wM P N (aMapUpd false [.s] (.map b g) (.str x) v) d r dead fs n T h Q:=by
 refine⟨_,_,?_,hk⟩
 have hg:Nat.beq g g=true:=by simp
 have hl':Nat.blt b lim=true:=by simp[Nat.blt];exact hl
 unfold aMapUpd
 rw[if_pos Qh2]
 simp only[HM.entries,HM.run,hb,hg,cond_true,Qeh l 0 hx,hl',QnC hx]
end
theorem RnM.mapS {m:Nat} {π:Nat->Option Src} {h:Heap} {f g:List UInt8->AV}:∀{l:List (List UInt8)},(∀x∈l,Rn m π h (f x) (g x))->RnM m π h (mapS f l) (mapS g l)
 |[],_=>trivial
 |x::l,hf=>⟨⟨Rn.same rfl,hf x (by simp)⟩,RnM.mapS (l:=l) fun y hy=>hf y (by simp[hy])⟩
end Go.AM
namespace Go.AM.SO
open Go.Proofs Go.AM.SD Go.AM.SE
def nmL (i:Nat):List (List UInt8):=(List.range i).map fun j=>[UInt8.ofNat (97+j)]
theorem QnD {i:Nat}:nmL (i+1)=nmL i++[[UInt8.ofNat (97+i)]]:=by
 unfold nmL
 rw[List.range_succ,List.map_append];rfl
theorem Qor {i:Nat} (hi:i<5):[UInt8.ofNat (97+i)]∉nmL i:=by
 have:i=0\/i=1\/i=2\/i=3\/i=4:=by omega
 rcases this with rfl|rfl|rfl|rfl|rfl<;>decide
abbrev yes:List UInt8->AV:=fun _=> .bool true
theorem QfZ {x:List UInt8}:updS yes x (.bool true)=yes:=by
 funext y;simp[updS]
theorem QmF (e:Nat->Evt):noRefs [evsV e]=true:=rfl
theorem check82 (e:Nat->Evt) (he:∀i,i<5->(e i).Ok):PSpec Tryz.prog 102 [evsV e] (.int .i64 0):=by
  refine PSpec.Qag 64 ok102 rfl (QmF e) rfl ?_
  simp(disch:=first|omega|(simp only[lenW]<;>omega)) only[s102,wW,wV,simprocAttr]
  refine Qal 100 (fun i:Nat=>[(10,evsV e),(11,.int .i64 5),(12,.int .i64 i),(3,.map 68 0)]) (fun i=>[(68,.map 0 (mapS yes (nmL i)))]) (fun i=>i<=5) (fun i=>5-i) 0 ⟨[(68,.blk 68 0)],rfl,au0,?_,au4⟩ (Nat.zero_le _) ?_
  · exact RB.map rfl rfl rfl trivial RB.nil
  rintro i hi
  by_cases hlt:i<5
  · have hlt2 : (i : Int) < 5 := by omega
    have hat:=Qo4 e hlt
    have hln:5<=(List.drop (i*5) (evsC e)).length:=by rw[List.length_drop,Qop];omega
    have hev:evC i (e i)=[.str [UInt8.ofNat (97+i)],.bool (e i).c,.bool (e i).o,.bool (e i).f,.int .i64 ((e i).flt:Int)]:=rfl
    obtain⟨h4,hc⟩:=he i hlt
    generalize e i=ei at hat hev h4 hc
    obtain⟨ec,eo,ef,efl⟩:=ei
    dsimp only at hat hev h4 hc
    have hnm:=Qor hlt
    have hs:=@QnD i
    have hne:=Qoq hlt
    generalize UInt8.ofNat (97+i)=ch at hev hnm hs hne
    simp(disch:=first|omega|(simp only[lenW]<;>omega)) only[hlt2,hat,hln,hev,wW,wV,simprocAttr]
    refine cp hne ?_
    simp(disch:=first|omega|(simp only[lenW]<;>omega)) only[wW,wV,simprocAttr]
    refine QeQ rfl hnm ?_
    have k1:¬(efl:Int)<0:=by omega
    have k2:¬4<(efl:Int):=by omega
    by_cases h0:efl=0
    · have k3 : (efl : Int) = 0 := by omega
      simp(disch:=first|omega|(simp only[lenW]<;>omega)) only[k1,k2,k3,wW,wV,simprocAttr]
      refine Qdv gg hnm (by omega) ?_
      simp(disch:=first|omega|(simp only[lenW]<;>omega)) only[QfZ,wW,wV,simprocAttr]
      refine⟨i+1,by omega,by omega,?_⟩
      rw[hs]
      refine⟨[(68,.blk 68 0)],rfl,au0,?_,au4⟩
      exact RB.map rfl rfl gg (RnM.mapS fun _ _=>Rn.same rfl) RB.nil
    · have k3 : ¬ (efl : Int) = 0 := by omega
      obtain⟨rfl,rfl⟩:=hc h0
      simp(disch:=first|omega|(simp only[lenW]<;>omega)) only[k1,k2,k3,wW,wV,simprocAttr]
      refine Qdv gg hnm (by omega) ?_
      simp(disch:=first|omega|(simp only[lenW]<;>omega)) only[QfZ,wW,wV,simprocAttr]
      refine⟨i+1,by omega,by omega,?_⟩
      rw[hs]
      refine⟨[(68,.blk 68 0)],rfl,au0,?_,au4⟩
      exact RB.map rfl rfl gg (RnM.mapS fun _ _=>Rn.same rfl) RB.nil
  · have hlt2 : ¬ (i : Int) < 5 := by omega
    simp(disch:=first|omega|(simp only[lenW]<;>omega)) only[hlt2,wW,wV,simprocAttr]
    exact⟨.inr trivial,_,rfl,rfl⟩
end Go.AM.SO
namespace Go.AM.SO
open Go.Proofs Go.AM.SD Go.AM.SE
def evOf (b:Nat):Evt:=if 48<=b/\b<52 then⟨false,false,false,b-47⟩else⟨decide (b&&&1=1),decide (b&&&2=2),decide (b&&&4=4),0⟩
theorem Qos (b:Nat):(evOf b).Ok:=by
 unfold evOf
 split
 ·exact⟨by grind,fun _=>⟨rfl,rfl⟩⟩
 ·exact⟨by simp_all,fun h=>absurd rfl h⟩
theorem andN (b m:Nat) (hb:b<256) (hm:m<256):(BitVec.ofInt 8 (b:Int)&&&BitVec.ofInt 8 (m:Int)).toNat=b&&&m:=by
 grind
theorem Qjs (b m:Nat) (hm:m<256):b&&&m<256:=Nat.lt_of_le_of_lt Nat.and_le_right hm
theorem QmG {b:Nat} (hb:b<256):aBin .and (.int .u8 (b:Int)) (.int .u8 1)=some (.int .u8 ((b&&&1:Nat):Int)):=by
 have:=andN b 1 hb (by omega)
 have h2:=Qjs b 1 (by omega)
 simp only[aBin,if_true]
 rw[show IntKind.u8.bits=8 from rfl,show(1:Int)=((1:Nat):Int) from rfl,this,wr_u8 (by omega) (by omega)]
theorem QmH {b:Nat} (hb:b<256):aBin .and (.int .u8 (b:Int)) (.int .u8 2)=some (.int .u8 ((b&&&2:Nat):Int)):=by
 have:=andN b 2 hb (by omega)
 have h2:=Qjs b 2 (by omega)
 simp only[aBin,if_true]
 rw[show IntKind.u8.bits=8 from rfl,show(2:Int)=((2:Nat):Int) from rfl,this,wr_u8 (by omega) (by omega)]
theorem QmI {b:Nat} (hb:b<256):aBin .and (.int .u8 (b:Int)) (.int .u8 4)=some (.int .u8 ((b&&&4:Nat):Int)):=by
 have:=andN b 4 hb (by omega)
 have h2:=Qjs b 4 (by omega)
 simp only[aBin,if_true]
 rw[show IntKind.u8.bits=8 from rfl,show(4:Int)=((4:Nat):Int) from rfl,this,wr_u8 (by omega) (by omega)]
def evP (F:List Nat) (i:Nat):List AV:=(List.range i).flatMap fun j=>evC j (evOf (F.getD j 0))
theorem Qjt {F:List Nat} {i:Nat}:evP F (i+1)=evP F i++evC i (evOf (F.getD i 0)):=by
 simp_all [evP,List.range_succ]
theorem QgX {F:List Nat}:∀{i:Nat},(evP F i).length=i*5
 |0=>rfl
 |i+1=>by rw[Qjt,List.length_append,QgX];simp[evC];omega
end Go.AM.SO
namespace Go.AM.SO
open Go.Proofs Go.AM.SD Go.AM.SE
structure Cel where
 ev:Nat->Evt
 cs:List (Nat×Aut)
 rs:List (Nat×Aut)
 xs:List (Nat×List (Nat×Nat))
 ks:List (List (Nat×Int)×Int)
def itC (ch:UInt8) (x:Nat×Aut):List AV:=[.str [ch,UInt8.ofNat (48+x.1)],sliN x.2.al,.int .i64 (x.2.n:Int),sliN x.2.ms,egsN x.2.es]
def loC (x:Nat×Nat):List AV:=[.int .i64 (x.1:Int),.int .i64 (x.2:Int)]
abbrev los (l:List (Nat×Nat)):AV:= .fsl (l.flatMap loC) l.length 2
def exC (x:Nat×List (Nat×Nat)):List AV:=[.str [101,UInt8.ofNat (48+x.1)],los x.2]
def teC (x:Nat×Int):List AV:=[.int .i64 (x.1:Int),.int .i64 x.2]
abbrev tes (l:List (Nat×Int)):AV:= .fsl (l.flatMap teC) l.length 2
def coC (x:List (Nat×Int)×Int):List AV:=[.str [107],tes x.1,.int .i64 x.2]
abbrev its (ch:UInt8) (l:List (Nat×Aut)):AV:= .fsl (l.flatMap (itC ch)) l.length 5
abbrev exs (l:List (Nat×List (Nat×Nat))):AV:= .fsl (l.flatMap exC) l.length 2
abbrev cos (l:List (List (Nat×Int)×Int)):AV:= .fsl (l.flatMap coC) l.length 3
abbrev celV (c:Cel):AV:= .agg [evsV c.ev,its 99 c.cs,its 114 c.rs,exs c.xs,cos c.ks]
structure WfI (a:Aut):Prop where
 wf:WfA a
 a5:∀x∈a.al,x<5
 pos:0<a.n
 n3:a.n<=3
 can:restr a (fun _=>true)=a
 el:a.es.length<=25
structure WfCel (c:Cel):Prop where
 ev:∀i,i<5->(c.ev i).Ok
 c0:0<c.cs.length
 c3:c.cs.length<=3
 r2:c.rs.length<=2
 x2:c.xs.length<=2
 k1:c.ks.length<=1
 cn:c.cs.map (·.1)=List.range c.cs.length
 rn:c.rs.map (·.1)=List.range c.rs.length
 xn:(c.xs.map (·.1)).Pairwise (· < ·)/\∀x∈c.xs,x.1<2
 ca:∀x∈c.cs,WfI x.2
 ra:∀x∈c.rs,WfI x.2
 rsub:∀x∈c.rs,∀e∈x.2.al,∃y∈c.cs,e∈y.2.al
 xl:∀x∈c.xs,x.2≠[]/\(x.2.map (·.1)).Pairwise (· < ·)/\∀l∈x.2,∃y,c.cs[l.1]?=some y/\l.2<y.2.n
 kl:∀x∈c.ks,x.1≠[]/\(x.1.map (·.1)).Pairwise (· < ·)/\(∀t∈x.1,t.1<c.cs.length/\t.2≠0/\ -4<t.2/\t.2<4)/\ -8<x.2/\x.2<8
theorem Qlw {l:List Nat} (h:l.Pairwise (· < ·)) {p q:Nat} (hpq:p<q) (hq:q<l.length):l.getD p 0<l.getD q 0:=by
 grind [List.pairwise_iff_getElem]
theorem partLt {n b:Nat}:∀x∈SD.part n b,x<n:=fun x hx=>(QiB.1 hx).1
theorem Qot {al:List Nat} {st mk:Nat} {T:List Nat} (hs:al.Pairwise (· < ·)) (h5:∀x∈al,x<5):WfA (gRaw al st mk T):=by
 have hr:=Qeg (st:=st) (mk:=mk) (T:=T) (Qcp hs h5)
 have hesn:=hr.esn
 have hn5:=hr.n5
 unfold gRaw at hesn hn5⊢
 split
 ·exact⟨hs,fun x hx=>by have:=h5 x hx;omega,by simp,by simp,by simp,by simp,by simp,by simp⟩
 ·rename_i hst
  rw[if_neg hst]at hesn hn5
  have hev:∀i,∀e∈gRow al (1+st % 5) T i al.length,e.1=i/\∃j,j<al.length/\e.2.1=al.getD j 0:=fun i e he=>by
   unfold gRow at he
   obtain⟨j,hj,hm⟩:=List.mem_filterMap.1 he
   unfold gEd at hm
   grind
  refine⟨hs,fun x hx=>by have:=h5 x hx;omega,by dsimp only at hn5⊢;omega,QcL _ _,partLt,?_,hesn,fun e he=>?_⟩
  ·show (gPre _ _ _ _).Pairwise _
   unfold gPre
   refine Qb5 (fun i _=>?_) (List.pairwise_lt_range.imp fun hij x hx y hy=> .inl ?_)
   ·unfold gRow
    refine List.Pairwise.filterMap _ (R:=fun j j'=>j<j'/\j'<al.length) ?_ (List.pairwise_lt_range.imp_of_mem fun _ hb h=>⟨h,List.mem_range.1 hb⟩)
    rintro x y ⟨hxy,hy⟩ p hp q hq
    unfold gEd at hp hq
    split at hp
    ·split at hq
     ·cases hp;cases hq;exact .inr ⟨rfl,Qlw hs hxy hy⟩
     ·cases hq
    ·cases hp
   grind
  grind [gPre]
theorem Qou {al:List Nat} {st mk:Nat} {T:List Nat} (hs:al.Pairwise (· < ·)) (h5:∀x∈al,x<5):restr (mkA al st mk T) (fun _=>true)=mkA al st mk T:=by
 have h:=Qot (st:=st) (mk:=mk) (T:=T) hs h5
 show restr (canon _) _=canon _
 grind [Qj3,QjY]
theorem Qju {es:List Ed} {s:Nat}:∀{L:List Nat} {out:List Nat},out.length<=(L.foldl (fEv es s) out).length
 |[],out=>Nat.le_refl _
 |e::L,out=>by
  rw[List.foldl_cons]
  refine Nat.le_trans ?_ (Qju (L:=L))
  grind [fEv]
theorem QmJ {al:List Nat} {es:List Ed}:∀(k i:Nat) (out:List Nat),out.length<=(fQ al es k i out).length
 |0,_,_=>Nat.le_refl _
 |k+1,i,out=>by
  unfold fQ
  split
  ·exact Nat.le_trans Qju (QmJ k (i+1) _)
  omega
theorem QkQ {al:List Nat} {st mk:Nat} {T:List Nat} (hs:al.Pairwise (· < ·)) (h5:∀x∈al,x<5) (h3:st<3):WfI (mkA al st mk T):=by
 have hr:=Qeg (st:=st) (mk:=mk) (T:=T) (Qcp hs h5)
 have e:gRaw al st mk T=⟨al,1+st % 5,SD.part (1+st % 5) mk,gPre al (1+st % 5) T (1+st % 5)⟩:=if_neg (by omega)
 have hn:(gRaw al st mk T).n<=3:=by grind
 have hf:(found (gRaw al st mk T)).length<=(gRaw al st mk T).n:=QaQ _ _ (Qea hr.esn).1.nd (Qea hr.esn).1.lt
 have h1:=QfW (gRaw al st mk T) (found (gRaw al st mk T)) (found (gRaw al st mk T)).length
 refine⟨QoY hs h5,fun x hx=>h5 x (by rwa [show(mkA al st mk T).al=al from by show(gRaw al st mk T).al=al;rw[e]]at hx),?_,Nat.le_trans hf hn,Qou hs h5,?_⟩
 ·show 0 < (found (gRaw al st mk T)).length
  have h0:0<(gRaw al st mk T).n:=by grind
  unfold found
  rw[if_pos h0]
  exact Nat.lt_of_lt_of_le (by simp) (QmJ _ _ _)
 ·have h2 : (mkA al st mk T).es.length = (cPre (gRaw al st mk T) (found (gRaw al st mk T)) (found (gRaw al st mk T)).length).length := rfl
  rw[h2]
  have h4:(gRaw al st mk T).al.length<=5:=by simp_all [Qcp]
  refine Nat.le_trans h1 (Nat.le_trans (Nat.mul_le_mul (Nat.le_trans hf hn) h4) (by decide))
structure Pln where
 L:List Nat
 X:List Nat
 xn:Nat
 f0:Int
 f1:Int
 f2:Int
 bd:Int
structure POk (p:Pln):Prop where
 L:p.L.length=147
 L8:∀x∈p.L,x<256
 X:p.X.length=p.xn*4
 X8:∀x∈p.X,x<256
 f0: -128<=p.f0/\p.f0<128
 f1: -128<=p.f1/\p.f1<128
 f2: -128<=p.f2/\p.f2<128
 bd: -128<=p.bd/\p.bd<128
abbrev plnC (p:Pln):List AV:=u8s p.L++[.fsl (u8s p.X) p.xn 4,.int .i8 p.f0,.int .i8 p.f1,.int .i8 p.f2,.int .i8 p.bd]
abbrev plnV (p:Pln):AV:= .agg (plnC p)
variable (p:Pln)
def pN:Nat:=1+p.L.getD 5 0 % 3
def pM:Nat:=p.L.getD 90 0 % 3
def pA (i:Nat):Aut:=mkA (SD.part 5 (p.L.getD (6+i) 0)) (p.L.getD (9+i*27) 0 % 3) (p.L.getD (9+i*27+1) 0) ((p.L.drop (9+i*27+2)).take 25)
def pAll:Nat->Nat
 |0=>0
 |i+1=>pAll i|||p.L.getD (6+i) 0 % 32
def pW (i:Nat):List Nat:=(SD.part 5 (p.L.getD (91+i) 0)).filter fun x=>(pAll p (pN p)).testBit x
def pR (i:Nat):Aut:=mkA (pW p i) (p.L.getD (93+i*27) 0 % 3) (p.L.getD (93+i*27+1) 0) ((p.L.drop (93+i*27+2)).take 25)
def pCs (n:Nat):List (Nat×Aut):=(List.range n).map fun i=>(i,pA p i)
def pRs (n:Nat):List (Nat×Aut):=(List.range n).map fun i=>(i,pR p i)
def pLo (i:Nat):Nat->List (Nat×Nat)
 |0=>[]
 |k+1=>if p.X.getD (i*4+k) 0 % ((pA p k).n+2)<(pA p k).n then pLo i k++[(k,p.X.getD (i*4+k) 0 % ((pA p k).n+2))]else pLo i k
def pXs:Nat->List (Nat×List (Nat×Nat))
 |0=>[]
 |i+1=>if 0<(pLo p i (pN p)).length then pXs i++[(i,pLo p i (pN p))]else pXs i
def pF (i:Nat):Int:=if i=0 then p.f0 else if i=1 then p.f1 else p.f2
def pT:Nat->List (Nat×Int)
 |0=>[]
 |i+1=>if pF p i=0 then pT i else pT i++[(i,(pF p i).tmod 4)]
def pT0:List (Nat×Int):=(pT p (pN p)).filter fun t=> !(decide (t.2=0))
def pKs:List (List (Nat×Int)×Int):=if 0<(pT0 p).length then[(pT0 p,p.bd.tmod 8)]else[]
def mkC:Cel:=⟨fun i=>evOf ((p.L.take 5).getD i 0),pCs p (pN p),pRs p (pM p),pXs p (min p.xn 2),pKs p⟩
variable {p}
theorem pN_le:1<=pN p/\pN p<=3:=by unfold pN;omega
theorem pM_le:pM p<=2:=by unfold pM;omega
theorem Qh3 (i:Nat):(pW p i).Pairwise (· < ·):=(QcL _ _).filter _
theorem pW_lt (i:Nat):∀x∈pW p i,x<5:=fun x hx=>partLt x (List.mem_filter.1 hx).1
theorem pA_wf (i:Nat):WfI (pA p i):=QkQ (QcL _ _) partLt (by omega)
theorem pR_wf (i:Nat):WfI (pR p i):=QkQ (Qh3 i) (pW_lt i) (by omega)
theorem QmK {al:List Nat} {st mk:Nat} {T:List Nat}:(mkA al st mk T).al=al:=by
 show(gRaw al st mk T).al=al
 grind [gRaw]
theorem QgF {i:Nat}:∀{n:Nat},∀x∈pLo p i n,x.1<n/\x.2<(pA p x.1).n
 |0,x,h=>by cases h
 | n + 1, x, h => by
  unfold pLo at h
  split at h
  ·rename_i hc
   rcases List.mem_append.1 h with h|h
   ·have:=QgF x h;omega
   simp_all
  ·have:=QgF x h;omega
theorem Qei {i:Nat}:∀{n:Nat},((pLo p i n).map (·.1)).Pairwise (· < ·)
 |0=>by simp[pLo]
 | n + 1 => by
  unfold pLo
  split
  ·rw [List.map_append, List.pairwise_append]
   refine⟨Qei,by simp,fun x hx y hy=>?_⟩
   simp at hy;subst hy
   obtain⟨z,hz,rfl⟩:=List.mem_map.1 hx
   exact(QgF z hz).1
  ·exact Qei
theorem QeR:∀{n:Nat},∀x∈pXs p n,x.1<n/\x.2=pLo p x.1 (pN p)/\x.2≠[]
 |0,x,h=>by cases h
 | n + 1, x, h => by
  unfold pXs at h
  split at h
  ·rename_i hc
   rcases List.mem_append.1 h with h|h
   ·have:=QeR x h;grind
   grind
  ·have:=QeR x h;grind
theorem Qej:∀{n:Nat},((pXs p n).map (·.1)).Pairwise (· < ·)
 |0=>by simp[pXs]
 | n + 1 => by
  unfold pXs
  split
  ·rw [List.map_append, List.pairwise_append]
   refine⟨Qej,by simp,fun x hx y hy=>?_⟩
   simp at hy;subst hy
   obtain⟨z,hz,rfl⟩:=List.mem_map.1 hx
   exact(QeR z hz).1
  ·exact Qej
theorem QgY:∀{n:Nat},(pXs p n).length<=n
 |0=>by simp[pXs]
 |n+1=>by
  have:=@QgY n
  grind [pXs]
theorem QgZ {i:Nat}:∀{n:Nat},(pLo p i n).length<=n
 |0=>by simp[pLo]
 |n+1=>by
  have:=@QgZ i n
  grind [pLo]
theorem Qjv:∀{n:Nat},(pT p n).length<=n
 |0=>by simp[pT]
 |n+1=>by
  have:=@Qjv n
  grind [pT]
theorem pT_lt:∀{n:Nat},∀x∈pT p n,x.1<n/\ -4<x.2/\x.2<4
 |0,x,h=>by cases h
 | n + 1, x, h => by
  unfold pT at h
  split at h
  ·have:=pT_lt x h;omega
  ·rcases List.mem_append.1 h with h | h
   ·have:=pT_lt x h;omega
   grind
theorem QeS:∀{n:Nat},((pT p n).map (·.1)).Pairwise (· < ·)
 |0=>by simp[pT]
 | n + 1 => by
  unfold pT
  split
  ·exact QeS
  ·rw [List.map_append, List.pairwise_append]
   refine⟨QeS,by simp,fun x hx y hy=>?_⟩
   simp at hy;subst hy
   obtain⟨z,hz,rfl⟩:=List.mem_map.1 hx
   exact(pT_lt z hz).1
theorem Qjw {e:Nat}:∀{n:Nat},(pAll p n).testBit e=true->e<5->∃i,i<n/\(p.L.getD (6+i) 0).testBit e=true
 |0,h,_=>by simp[pAll]at h
 | n + 1, h, h5 => by
  unfold pAll at h
  rw[Nat.testBit_or,Bool.or_eq_true]at h
  rcases h with h|h
  ·obtain⟨i,hi,h⟩:=Qjw h h5;grind
  ·rw [show 32 = 2 ^ 5 from rfl, Nat.testBit_mod_two_pow] at h
   grind
theorem QmL {n i:Nat} (h:i<n):(pCs p n)[i]?=some (i,pA p i):=by
 simp_all [pCs]
theorem Qo5:WfCel (mkC p):=by
 have h1:=@pN_le p
 have h2:=@pM_le p
 have hc:(pCs p (pN p)).length=pN p:=by simp[pCs]
 have hr:(pRs p (pM p)).length=pM p:=by simp[pRs]
 have hx:=@QgY p (min p.xn 2)
 refine⟨fun i _=>Qos _,?_,?_,?_,?_,?_,?_,?_,⟨Qej,fun x hx=>?_⟩,fun x hx=>?_,fun x hx=>?_,fun x hx e he=>?_,fun x hx=>?_,fun x hx=>?_⟩
 ·show 0 < (pCs p (pN p)).length
  omega
 ·show (pCs p (pN p)).length <= 3
  omega
 ·show (pRs p (pM p)).length <= 2
  omega
 ·show (pXs p _).length <= 2
  omega
 ·show (pKs p).length <= 1
  grind [pKs]
 ·show (pCs p (pN p)).map (·.1) = List.range (pCs p (pN p)).length
  simp_all [pCs,Function.comp_def]
 ·show (pRs p (pM p)).map (·.1) = List.range (pRs p (pM p)).length
  simp_all [pRs,Function.comp_def]
 ·have:=(QeR x hx).1;omega
 ·obtain ⟨i, _, rfl⟩ := List.mem_map.1 (show x ∈ pCs p (pN p) from hx)
  exact pA_wf i
 ·obtain ⟨i, _, rfl⟩ := List.mem_map.1 (show x ∈ pRs p (pM p) from hx)
  exact pR_wf i
 ·obtain ⟨i, _, rfl⟩ := List.mem_map.1 (show x ∈ pRs p (pM p) from hx)
  dsimp only at he
  rw[show(pR p i).al=pW p i from QmK]at he
  obtain⟨h5,hb⟩:=List.mem_filter.1 he
  obtain⟨j,hj,hb⟩:=Qjw hb (partLt e h5)
  refine⟨(j,pA p j),List.mem_map.2 ⟨j,List.mem_range.2 hj,rfl⟩,?_⟩
  simp_all [pA,QmK,QiB]
 ·obtain ⟨_, h4, h5⟩ := QeR x hx
  refine⟨h5,by grind [Qei],fun l hl=>?_⟩
  rw[h4]at hl
  obtain⟨h6,h7⟩:=QgF l hl
  exact⟨_,QmL h6,h7⟩
 ·have hx' : x ∈ pKs p := hx
  unfold pKs at hx'
  split at hx'
  ·rename_i h0
   simp at hx';subst hx'
   refine⟨List.ne_nil_of_length_pos h0,?_,fun t ht=>?_,?_,?_⟩
   ·exact(QeS (n:=pN p)).sublist (List.Sublist.map _ (List.filter_sublist))
   ·obtain ⟨h3, h4⟩ := List.mem_filter.1 (show t ∈ pT0 p from ht)
    have h5:=pT_lt t h3
    simp_all [mkC]
   ·grind
   grind
  ·cases hx'
end Go.AM.SO
namespace Go.AM.SU
open Go.Proofs Go.AM.SD Go.AM.SE Go.AM.SO
theorem QaL (l:List (Nat×Int)):noRefs (l.flatMap teC)=true:=QaJ (fun _=>rfl) l
theorem QcU (l:List (Nat×Int)):(l.flatMap teC).length=l.length*2:=Qbn (k:=2) (fun _=>rfl) l
theorem Qc9 {l:List (Nat×Int)} {i:Nat} {x:Nat×Int} (h:l[i]?=some x):(l.flatMap teC).drop (i*2)= .int .i64 (x.1:Int):: .int .i64 x.2::(l.drop (i+1)).flatMap teC:=Qa3 (f:=teC) (k:=2) (fun _=>rfl) h
theorem QmM {x:Nat×Int}:∀{l:List (Nat×Int)} {i:Nat},i<l.length->(l.flatMap teC).take (i*2)++[.int .i64 (x.1:Int),.int .i64 x.2]++(l.flatMap teC).drop (i*2+2)=(l.set i x).flatMap teC
 |[],i,h=>by simp at h
 |a::l,0,h=>by simp[List.flatMap_cons,teC]
 |a::l,i+1,h=>by
  have:=QmM (x:=x) (l:=l) (i:=i) (by simpa using h)
  rw[List.set_cons_succ,List.flatMap_cons,List.flatMap_cons,<-this]
  rw[show(i+1)*2=i*2+2 by omega]
  simp[teC]
abbrev teV (x:Nat×Int):AV:= .agg [.int .i64 (x.1:Int),.int .i64 x.2]
theorem zero94 (x:Nat×Int):PSpec Tryz.prog 97 [teV x] (.bool (decide (x.2=0))):=by
 refine PSpec.Qag 64 ok97 rfl rfl rfl ?_
 simp(disch:=first|omega|(simp only[lenW]<;>omega)) only[s97,Bool.not_eq_true,wW,wV,simprocAttr]
 exact⟨.inr trivial,_,rfl,rfl⟩
def fst0 (l:List (Nat×Int)):Int:=if l.all (fun x=> !decide (x.2=0))then-1 else(l.findIdx (fun x=>decide (x.2=0)):Int)
theorem _root_.Go.AM.au11 {p:Prop} (h:p:=by repeat' (first|exact RB.nil|(refine RnL.same ?_;first|rfl|(simp only[noRef,noRefs,Qaf,Bool.and_self,Bool.and_true,Bool.true_and,Qaa,Qan,Qab,QaL];done))|exact RnM.keyM rfl|exact RnL.nil|exact(True.intro:RnM _ _ _ [] [])|refine RnL.cons ?_ ?_|(refine Rn.same ?_;first|rfl|(simp only[noRef,noRefs,Qaf,Bool.and_self,Bool.and_true,Bool.true_and,Qaa,Qan,Qab,QaL];done))|exact Rn.x1 rfl rfl|exact Rn.x2 rfl rfl|exact Rn.x3 rfl rfl|exact Rn.x4 rfl rfl|exact Rn.x5 rfl|exact Rn.x6 rfl|exact Rn.x7 rfl|refine RB.newnil rfl rfl ?_|refine RB.cells rfl rfl rfl ?_ ?_|refine RB.map rfl rfl rfl ?_ ?_|refine RB.cellsB rfl rfl ?_ ?_|refine RB.mapB rfl rfl ?_ ?_)):p:=h
theorem _root_.Go.AM.au12 {p:Prop} (h:p:=by repeat (first|exact RT.nil|(refine RT.cons ?_ ?_; · (first|exact Rn.any|exact Rn.x1 rfl rfl|exact Rn.x2 rfl rfl|exact Rn.x3 rfl rfl|exact Rn.x4 rfl rfl|exact Rn.x5 rfl|exact Rn.x6 rfl|exact Rn.x7 rfl|(refine Rn.slot ?_ ?_;(first|rfl|(rw[Int.natCast_add];rfl));(first|rfl|(simp only[noRef,noRefs,Qaf,Bool.and_self,Bool.and_true,Bool.true_and,Qaa,Qan,Qab,QaL];done)))|(refine Rn.fn ?_ ?_<;>(repeat' (first|exact RnL.nil|refine RnL.cons ?_ ?_|exact Rn.same rfl|exact Rn.x6 rfl|exact Rn.x2 rfl rfl|exact Rn.x5 rfl|exact Rn.x1 rfl rfl))))))):p:=h
theorem index186 (l : List (Nat × Int)) (hl : l.length <= 1000000) : PSpec Tryz.prog 153 [tes l, .fn 97 [] []] (.int .i64 (fst0 l)) := by
  refine PSpec.Qag 64 ok153 rfl (by simp only[noRefs,noRef,QaL];rfl) rfl ?_
  have hln:=QcU l
  simp(disch:=first|omega|(simp only[lenW]<;>omega)) only[s153,Bool.not_eq_true,wW,wV,simprocAttr]
  refine Qal 100 (fun i:Nat=>[(0,tes l),(1,.fn 97 [] []),(7,.int .i64 l.length),(8,.int .i64 i)]) (fun _=>[]) (fun i=>i<=l.length/\∀(j:Nat) y,j<i->l[j]?=some y->y.2≠0) (fun i=>l.length-i) 0 ⟨[],rfl,au0,au11,au12⟩ ⟨Nat.zero_le _,fun j y hj=>absurd hj (Nat.not_lt_zero _)⟩ ?_
  rintro i ⟨hi,hb⟩
  by_cases hlt:i<l.length
  · obtain ⟨x, hx⟩ := Qad hlt
    have hn:=zero94 x
    by_cases h0:x.2=0
    · have e : decide (x.2 = 0) = true := by simp [h0]
      rw[e]at hn
      simp(disch:=first|omega|(simp only[lenW]<;>omega)) only[hlt,Qc9 hx,Bool.not_eq_true,wW,wV,simprocAttr]
      refine cpc hn ?_
      simp(disch:=first|omega|(simp only[lenW]<;>omega)) only[Bool.not_eq_true,wW,wV,simprocAttr]
      refine⟨.inr trivial,_,rfl,?_⟩
      have h1:¬l.all (fun x=> !decide (x.2=0))=true:=by
        intro h;have:=List.all_eq_true.1 h x (List.mem_of_getElem? hx);simp[h0]at this
      have h2:l.findIdx (fun x=>decide (x.2=0))=i:=by
        rw[List.findIdx_eq hlt]
        refine⟨by rw[List.getElem?_eq_getElem hlt]at hx;cases hx;simp[h0],fun j hj=>?_⟩
        have:=hb j l[j] hj (List.getElem?_eq_getElem (by omega))
        simpa using this
      unfold fst0
      rw[if_neg h1,h2];rfl
    · have e : decide (x.2 = 0) = false := by simp [h0]
      rw[e]at hn
      simp(disch:=first|omega|(simp only[lenW]<;>omega)) only[hlt,Qc9 hx,Bool.not_eq_true,wW,wV,simprocAttr]
      refine cpc hn ?_
      simp(disch:=first|omega|(simp only[lenW]<;>omega)) only[Bool.not_eq_true,wW,wV,simprocAttr]
      refine⟨i+1,by omega,⟨by omega,fun j y hj hy=>?_⟩,⟨[],rfl,au0,au11,au12⟩⟩
      by_cases e:j=i
      · subst e;rw[hx]at hy;cases hy;exact h0
      · exact hb j y (by omega) hy
  · have h1 : l.all (fun x => !decide (x.2 = 0)) = true := by
      rw[List.all_eq_true]
      intro x hx
      obtain⟨j,hj,hjl⟩:=List.getElem_of_mem hx
      simpa using hb j x (by omega) (by rw[List.getElem?_eq_getElem hj,hjl])
    simp(disch:=first|omega|(simp only[lenW]<;>omega)) only[hlt,Bool.not_eq_true,wW,wV,simprocAttr]
    refine⟨.inr trivial,_,rfl,?_⟩
    unfold fst0
    rw[if_pos h1];rfl
def flt0 (l:List (Nat×Int)):List (Nat×Int):=l.filter fun t=> !(decide (t.2=0))
theorem Qh4 {l:List (Nat×Int)} {j:Nat} {v:Nat×Int} (h:l[j]?=some v):flt0 (l.take (j+1))=if v.2=0 then flt0 (l.take j)else flt0 (l.take j)++[v]:=by
 unfold flt0
 rw[List.take_add_one,h,Option.toList,List.filter_append]
 by_cases hv:v.2=0<;>simp[hv]
def delT (l:List (Nat×Int)):List (Nat×Int):=flt0 l++List.replicate (l.length-(flt0 l).length) (0,0)
theorem QnE {l:List (Nat×Int)} (h:l.all (fun x=> !decide (x.2=0))=true):flt0 l=l:=by
 unfold flt0
 exact List.filter_eq_self.2 fun x hx=>List.all_eq_true.1 h x hx
theorem QmN {k:Nat}:(List.replicate k [AV.int .i64 0,AV.int .i64 0]).flatten=(List.replicate k ((0,0):Nat×Int)).flatMap teC:=by
 induction k with
 |zero=>rfl
 |succ k ih=>rw[List.replicate_succ,List.flatten_cons,ih];rfl
theorem Qg0:∀{l:List (Nat×Int)} {i:Nat},(l.flatMap teC).take (i*2)=(l.take i).flatMap teC
 |[],i=>by simp
 |a::l,0=>by simp
 |a::l,i+1=>by
  rw[List.flatMap_cons,List.take_succ_cons,List.flatMap_cons,<-Qg0,Nat.succ_mul]
  simp[teC]
theorem del93 (l : List (Nat × Int)) (hl : l.length <= 1000000) :
    HSpec Tryz.prog 96 [.sl 97 0 0 l.length 2,.fn 97 [] []] (hp [(97,.cells 0 (l.flatMap teC))]) (.sl 97 0 0 (flt0 l).length 2) (hp [(97,.cells 0 ((delT l).flatMap teC))]):=by
  refine HSpec.QkL (m:=98) 100 ok96 rfl rfl ?_
  have hn:=QcU l
  simp(disch:=first|omega|(simp only[lenW]<;>omega)) only[s96,Bool.not_eq_true,wW,wV,simprocAttr]
  refine chc (HSpec.lend (FrzL.cons (FrzTo.all gg hn) (FrzL.cons (FrzTo.same _) FrzL.nil)) (index186 l hl) rfl) ?_
  by_cases hall:l.all (fun x=> !decide (x.2=0))=true
  · have e1 : fst0 l = -1 := if_pos hall
    simp(disch:=first|omega|(simp only[lenW]<;>omega)) only[e1,Bool.not_eq_true,wW,wV,simprocAttr]
    refine⟨.inr trivial,_,rfl,?_⟩
    unfold delT;rw[QnE hall,Nat.sub_self,List.replicate_zero,List.append_nil]
    exact⟨[(97,.nil)],rfl,au0,au11,au12⟩
  have e1:fst0 l=(l.findIdx (fun x=>decide (x.2=0)):Int):=if_neg hall
  have hex:∃x∈l,decide (x.2=0)=true:=by
    have:¬∀x∈l,(!decide (x.2=0))=true:=fun h=>hall (List.all_eq_true.2 h)
    obtain⟨x,hx⟩:=Classical.not_forall.1 this
    obtain⟨hx,hy⟩:=Classical.not_imp.1 hx
    exact⟨x,hx,by simpa using hy⟩
  have hi0:l.findIdx (fun x=>decide (x.2=0))<l.length:=List.findIdx_lt_length_of_exists hex
  obtain⟨i0,hI⟩:∃i0,i0=l.findIdx (fun x=>decide (x.2=0)):=⟨_,rfl⟩
  rw[<-hI]at e1 hi0
  have hv0:(l[i0]).2=0:=by
    have:=List.findIdx_getElem (w:=by rw[<-hI];exact hi0) (xs:=l) (p:=fun x=>decide (x.2=0))
    simp only[<-hI]at this
    simpa using this
  have hlow:flt0 (l.take i0)=l.take i0:=by
    unfold flt0
    refine List.filter_eq_self.2 fun x hx=>?_
    obtain⟨j,hj,rfl⟩:=List.getElem_of_mem hx
    rw[List.length_take]at hj
    have:=List.not_of_lt_findIdx (xs:=l) (p:=fun x=>decide (x.2=0)) (i:=j) (by rw[<-hI];omega)
    rw[List.getElem_take]
    simpa using this
  have hst:flt0 (l.take (i0+1))=l.take i0:=by
    rw[Qh4 (List.getElem?_eq_getElem hi0),if_pos hv0,hlow]
  have hne:¬(i0:Int)= -1:=by omega
  simp(disch:=first|omega|(simp only[lenW]<;>omega)) only[e1,hne,Bool.not_eq_true,wW,wV,simprocAttr]
  refine Qal 110 (fun t:Nat×Nat×List (Nat×Int)=>[(0,.sl 97 0 0 l.length 2),(1,.fn 97 [] []),(5,.int .i64 t.2.1),(6,.int .i64 t.1)])
    (fun t=>[(97,.cells 0 (t.2.2.flatMap teC))]) (fun t=>t.1<=l.length/\t.2.1<t.1/\t.2.2.length=l.length/\t.2.2.take t.2.1=flt0 (l.take t.1)/\t.2.2.drop t.1=l.drop t.1) (fun t=>l.length-t.1)
    (i0+1,i0,l) ⟨[(97,.nil)],rfl,au0,au11,au12⟩ ⟨by dsimp only;omega,by dsimp only;omega,rfl,hst.symm,rfl⟩ ?_
  rintro⟨j,i,C⟩ ⟨hj,hij,hC,hT,hD⟩
  dsimp only at hj hij hC hT hD⊢
  have hCl:=QcU C
  by_cases hlt:j<l.length
  · obtain ⟨v, hv⟩ := Qad hlt
    have hvC:C[j]?=some v:=by
      have:(C.drop j)[0]?=(l.drop j)[0]?:=by rw[hD]
      simpa[hv]using this
    have hs:=Qh4 hv
    have hn2:=zero94 v
    have g1:j*2+2<=l.length*2:=by omega
    have g2:i*2+2<=l.length*2:=by omega
    by_cases hm:v.2=0
    · have e2 : decide (v.2 = 0) = true := by simp [hm]
      rw[e2]at hn2
      rw[if_pos hm]at hs
      simp(disch:=first|omega|(simp only[lenW]<;>omega)) only[hlt,hC,hCl,g1,Qc9 hvC,Bool.not_eq_true,wW,wV,simprocAttr]
      refine chc (hn2.toH _) ?_
      simp(disch:=first|omega|(simp only[lenW]<;>omega)) only[Bool.not_eq_true,wW,wV,simprocAttr]
      refine⟨(j+1,i,C),by dsimp only;omega,⟨by dsimp only;omega,by dsimp only;omega,hC,by rw[hs];exact hT,?_⟩,?_⟩
      · dsimp only
        have:=congrArg (List.drop 1) hD
        simpa[List.drop_drop]using this
      · exact⟨[(97,.nil)],rfl,au0,au11,au12⟩
    · have e2 : decide (v.2 = 0) = false := by simp [hm]
      rw[e2]at hn2
      rw[if_neg hm]at hs
      simp(disch:=first|omega|(simp only[lenW]<;>omega)) only[hlt,hC,hCl,g1,Qc9 hvC,Bool.not_eq_true,wW,wV,simprocAttr]
      refine chc (hn2.toH _) ?_
      have hil:i<l.length:=by omega
      simp(disch:=first|omega|(simp only[lenW]<;>omega)) only[hil,hC,hCl,g2,QmM (l:=C) (i:=i) (x:=v) (by omega),Bool.not_eq_true,wW,wV,simprocAttr]
      refine⟨(j+1,i+1,C.set i v),by dsimp only;omega,⟨by dsimp only;omega,by dsimp only;omega,by simp[hC],?_,?_⟩,?_⟩
      · dsimp only
        rw[hs,<-hT,List.take_add_one,List.getElem?_set_self (by omega),List.take_set,List.set_eq_of_length_le (by rw[List.length_take];omega)];rfl
      · dsimp only
        rw[List.drop_set_of_lt (by omega)]
        have:=congrArg (List.drop 1) hD
        simpa[List.drop_drop]using this
      · exact⟨[(97,.nil)],rfl,au0,au11,au12⟩
  · have ej : j = l.length := by omega
    subst ej
    rw[List.take_length]at hT
    have hil:(i:Int)<=(l.length:Int):=by omega
    simp(disch:=first|omega|(simp only[lenW]<;>omega)) only[hlt,hil,Bool.not_eq_true,wW,wV,simprocAttr]
    refine Qjm gg (by omega) (by rw[hCl,hC];omega) rfl (by decide) (by decide) ?_
    simp(disch:=first|omega|(simp only[lenW]<;>omega)) only[hil,Bool.not_eq_true,wW,wV,simprocAttr]
    refine⟨.inr trivial,_,rfl,?_⟩
    have hfl:(flt0 l).length=i:=by rw[<-hT,List.length_take];omega
    have hput:putR (C.flatMap teC) (i*2) (List.replicate (l.length-i) [AV.int .i64 0,AV.int .i64 0]).flatten=(delT l).flatMap teC:=by
      rw[QdL (by rw[hCl,hC];omega),QmN,Qg0,hT]
      unfold delT
      rw[hfl,List.flatMap_append,List.drop_of_length_le (by rw[hCl,hC,QcU,List.length_replicate];omega),List.append_nil]
    rw[hfl,hput]
    exact⟨[(97,.nil)],rfl,au0,au11,au12⟩
end Go.AM.SU
namespace Go.AM.SO
open Go.Proofs Go.AM.SD Go.AM.SE
theorem convB1 {P:Program} {N:NM} {d:Option Nat} {r:List SOper} {dead:List Nat} {fs:List Fr} {n:Nat} {T:Tmps} {h:Heap} {Q:QC} {b g x:Nat} (hb:h.get b=some (.cells g [.int .u8 (x:Int)]))
  (hk:wR P N r dead fs (n+1) (putD T d (.str [UInt8.ofNat x])) h Q):wM P N (aConvB (.sl b g 0 1 1)) d r dead fs n T h Q:=by
 refine⟨_,h,?_,hk⟩
 have hg:Nat.beq g g=true:=by simp
 simp[aConvB,aSrc,HM.cells,HM.run,hb,hg,bytesOf]
theorem Qcq (F:List Nat) (i:Nat):noRefs (evP F i)=true:=by
 unfold evP
 exact QaJ (fun j=>rfl) _
theorem _root_.Go.AM.au13 {p:Prop} (h:p:=by repeat (first|exact RT.nil|(refine RT.cons ?_ ?_; · (first|exact Rn.any|exact Rn.x1 rfl rfl|exact Rn.x2 rfl rfl|exact Rn.x3 rfl rfl|exact Rn.x4 rfl rfl|exact Rn.x5 rfl|exact Rn.x6 rfl|exact Rn.x7 rfl|(refine Rn.slot ?_ ?_;(first|rfl|(rw[Int.natCast_add];rfl));(first|rfl|(simp only[noRef,noRefs,Qaf,Bool.and_self,Bool.and_true,Bool.true_and,Qaa,Qan,Qab,Qau];done)))|(refine Rn.fn ?_ ?_<;>(repeat' (first|exact RnL.nil|refine RnL.cons ?_ ?_|exact Rn.same rfl|exact Rn.x6 rfl|exact Rn.x2 rfl rfl|exact Rn.x5 rfl|exact Rn.x1 rfl rfl))))))):p:=h
theorem events88 (F : List Nat) (hF : F.length = 5) (h256 : ∀ i, F.getD i 0 < 256) : PSpec Tryz.prog 89 [.agg (u8s F)] (.fsl (evP F 5) 5 5) := by
  refine PSpec.of_rn 64 ok89 rfl (by simp only[noRefs,noRef,Qau];rfl) (by simp only[noRef];exact Qcq _ _) ?_
  simp(disch:=first|omega|exact PairsOK.mk rfl|(simp only[lenW]<;>omega)) only[s89,wW,wV,simprocAttr]
  refine Qal 100 (fun i:Nat=>[(1,.ptr 64 0 0),(3,.sl 50 0 0 i 5),(4,.int .i64 i)]) (fun i=>[(50,.cells 0 (evP F i)),(64,.cells 0 (u8s F))]) (fun i=>i<=5) (fun i=>5-i) 0 ⟨[(50,.nil),(64,.blk 64 0)],rfl,au0,?_,au13⟩ (Nat.zero_le _) ?_
  · exact RB.newnil rfl rfl (RB.cells rfl rfl rfl (RnL.same (Qau _)) RB.nil)
  rintro i hi
  by_cases hlt:i<5
  · have hlt2 : (i : Int) < 5 := by omega
    have hu:(u8s F)[i]?=some (.int .u8 ((F.getD i 0:Nat):Int)):=QgB (by rw[List.getElem?_eq_getElem (by omega)];simp[List.getD,List.getElem?_eq_getElem (show i<F.length by omega)])
    have hb:=h256 i
    have hs:=@Qjt F i
    have hl:=@QgX F i
    generalize F.getD i 0=b at hu hb hs
    have e97:wr .u8 ((97:Int)+(i:Int))=((97+i:Nat):Int):=by rw[wr_u8 (by omega) (by omega)];omega
    simp(disch:=first|omega|exact PairsOK.mk rfl|(simp only[lenW]<;>omega)) only[hlt2,hu,hl,e97,Qnj,wW,wV,simprocAttr]
    refine convB1 gg ?_
    have k1:((97+i:Nat):Int)=((97+i:Nat):Int):=rfl
    by_cases h48:48<=b/\b<52
    · have k2 : (48 : Int) <= (b : Int) := by omega
      have k3:(b:Int)<52:=by omega
      have k4:(b:Int)-47=((b-47:Nat):Int):=by omega
      have ev:evP F i++[.str [UInt8.ofNat (97+i)],.bool false,.bool false,.bool false,.int .i64 ((b-47:Nat):Int)]=evP F (i+1):=by
        rw[hs];simp[evC,evOf,h48]
      simp(disch:=first|omega|exact PairsOK.mk rfl|(simp only[lenW]<;>omega)) only[hlt2,hu,hl,k2,k3,k4,wW,wV,simprocAttr]
      refine⟨i+1,by omega,by omega,?_⟩
      rw[ev]
      refine⟨[(50,.blk 50 1),(64,.blk 64 0)],rfl,au0,?_,au13⟩
      exact RB.cells rfl rfl gg (RnL.same (Qcq _ _)) (RB.cells rfl rfl gg (RnL.same (Qau _)) RB.nil)
    · have ev : evP F i ++ [.str [UInt8.ofNat (97 + i)], .bool (decide (b &&& 1 = 1)), .bool (decide (b &&& 2 = 2)), .bool (decide (b &&& 4 = 4)), .int .i64 0] = evP F (i + 1) := by
        rw[hs];simp[evC,evOf,h48]
      have d1:decide (((b&&&1:Nat):Int)=1)=decide (b&&&1=1):=decide_eq_decide.2 (by omega)
      have d2:decide (((b&&&2:Nat):Int)=2)=decide (b&&&2=2):=decide_eq_decide.2 (by omega)
      have d4:decide (((b&&&4:Nat):Int)=4)=decide (b&&&4=4):=decide_eq_decide.2 (by omega)
      have a1:=QmG hb
      have a2:=QmH hb
      have a4:=QmI hb
      by_cases h5:48<=b
      · have k3 : (48 : Int) <= (b : Int) := by omega
        have k4:¬(b:Int)<52:=by omega
        simp(disch:=first|omega|exact PairsOK.mk rfl|(simp only[lenW]<;>omega)) only[hlt2,hu,hl,k3,k4,a1,a2,a4,d1,d2,d4,wW,wV,simprocAttr]
        refine⟨i+1,by omega,by omega,?_⟩
        rw[ev]
        refine⟨[(50,.blk 50 1),(64,.blk 64 0)],rfl,au0,?_,au13⟩
        exact RB.cells rfl rfl gg (RnL.same (Qcq _ _)) (RB.cells rfl rfl gg (RnL.same (Qau _)) RB.nil)
      · have k3 : ¬ (48 : Int) <= (b : Int) := by omega
        simp(disch:=first|omega|exact PairsOK.mk rfl|(simp only[lenW]<;>omega)) only[hlt2,hu,hl,k3,a1,a2,a4,d1,d2,d4,wW,wV,simprocAttr]
        refine⟨i+1,by omega,by omega,?_⟩
        rw[ev]
        refine⟨[(50,.blk 50 1),(64,.blk 64 0)],rfl,au0,?_,au13⟩
        exact RB.cells rfl rfl gg (RnL.same (Qcq _ _)) (RB.cells rfl rfl gg (RnL.same (Qau _)) RB.nil)
  · have hlt2 : ¬ (i : Int) < 5 := by omega
    have e:i=5:=by omega
    subst e
    simp(disch:=first|omega|exact PairsOK.mk rfl|(simp only[lenW]<;>omega)) only[hlt2,wW,wV,simprocAttr]
    refine⟨.inr trivial,_,rfl,?_⟩
    exact Rn.fz0 rfl QgX (RnL.same (Qcq _ _))
end Go.AM.SO
namespace Go.AM.ST
open Go.Proofs Go.AM.SD
noncomputable section
def bitsL (s:Nat):List Nat:=(List.range 5).filter fun i=>s.testBit i
def isV (v:AV) (u:AV):Bool:=eqAV u v
theorem QmO {v:AV}:∀u,isV v u=true->u=v:=fun u h=>Qc3 _ _ h
def unionB (a b:Nat):Bool:=callR ansB noOrc SK.ft.get (exR ansB noOrc SK.ft.get 1000) (.c .pure) 91 [sliN (bitsL a),sliN (bitsL b)] .e 64 (fun u _ _=>isV (sliN (bitsL (a|||b))) u)
theorem QnF {a b:Nat} (h:unionB a b=true):PSpec Tryz.prog 91 [sliN (bitsL a),sliN (bitsL b)] (sliN (bitsL (a|||b))):=
 QbJ (t:=SK.ft) SK.ft_ok Qds (d:=1000) (isV _) QmO h
end
end Go.AM.ST
namespace Go.AM.ST
open Go.Proofs Go.AM.SD
noncomputable section
def rowB (a n:Nat):Bool:=@Nat.rec (fun _=>Bool) true (fun b ih=>ifB (unionB a b) ih false) n
theorem row_1:rowB 1 32=true:=by kernel_rfl
theorem row_2:rowB 2 32=true:=by kernel_rfl
theorem row_3:rowB 3 32=true:=by kernel_rfl
theorem row_4:rowB 4 32=true:=by kernel_rfl
theorem row_5:rowB 5 32=true:=by kernel_rfl
theorem row_6:rowB 6 32=true:=by kernel_rfl
theorem row_7:rowB 7 32=true:=by kernel_rfl
theorem row_8:rowB 8 32=true:=by kernel_rfl
theorem row_9:rowB 9 32=true:=by kernel_rfl
theorem Qo6:rowB 10 32=true:=by kernel_rfl
theorem Qo7:rowB 11 32=true:=by kernel_rfl
theorem Qo8:rowB 12 32=true:=by kernel_rfl
theorem Qo9:rowB 13 32=true:=by kernel_rfl
theorem Qpa:rowB 14 32=true:=by kernel_rfl
theorem Qpb:rowB 15 32=true:=by kernel_rfl
theorem Qpc:rowB 16 32=true:=by kernel_rfl
theorem Qpd:rowB 17 32=true:=by kernel_rfl
theorem Qpe:rowB 18 32=true:=by kernel_rfl
theorem Qpf:rowB 19 32=true:=by kernel_rfl
theorem Qpg:rowB 20 32=true:=by kernel_rfl
theorem Qph:rowB 21 32=true:=by kernel_rfl
theorem Qpi:rowB 22 32=true:=by kernel_rfl
theorem Qpj:rowB 23 32=true:=by kernel_rfl
theorem Qpk:rowB 24 32=true:=by kernel_rfl
theorem Qpl:rowB 25 32=true:=by kernel_rfl
theorem Qpm:rowB 26 32=true:=by kernel_rfl
theorem Qpn:rowB 27 32=true:=by kernel_rfl
theorem Qpo:rowB 28 32=true:=by kernel_rfl
theorem Qpp:rowB 29 32=true:=by kernel_rfl
theorem Qpq:rowB 30 32=true:=by kernel_rfl
theorem Qpr:rowB 31 32=true:=by kernel_rfl
theorem QmP {a:Nat}:∀{n b:Nat},rowB a n=true->b<n->unionB a b=true
 |0,_,_,h=>absurd h (Nat.not_lt_zero _)
 | n + 1, b, hr, hb => by
  have e:rowB a (n+1)=ifB (unionB a n) (rowB a n) false:=rfl
  rw[e,Qaq]at hr
  split at hr
  ·rename_i h
   rcases Nat.lt_succ_iff_lt_or_eq.1 hb with h1|rfl
   ·exact QmP hr h1
   ·exact h
  ·cases hr
theorem Qlx {a b:Nat} (ha:0<a) (ha2:a<32) (hb:b<32):PSpec Tryz.prog 91 [sliN (bitsL a),sliN (bitsL b)] (sliN (bitsL (a|||b))):=by
 have h:rowB a 32=true:=by
  have:a=1\/a=2\/a=3\/a=4\/a=5\/a=6\/a=7\/a=8\/a=9\/a=10\/a=11\/a=12\/a=13\/a=14\/a=15\/a=16\/a=17\/a=18\/a=19\/a=20\/a=21\/a=22\/a=23\/a=24\/a=25\/a=26\/a=27\/a=28\/a=29\/a=30\/a=31:=by omega
  rcases this with rfl|rfl|rfl|rfl|rfl|rfl|rfl|rfl|rfl|rfl|rfl|rfl|rfl|rfl|rfl|rfl|rfl|rfl|rfl|rfl|rfl|rfl|rfl|rfl|rfl|rfl|rfl|rfl|rfl|rfl|rfl
  ·exact row_1
  ·exact row_2
  ·exact row_3
  ·exact row_4
  ·exact row_5
  ·exact row_6
  ·exact row_7
  ·exact row_8
  ·exact row_9
  ·exact Qo6
  ·exact Qo7
  ·exact Qo8
  ·exact Qo9
  ·exact Qpa
  ·exact Qpb
  ·exact Qpc
  ·exact Qpd
  ·exact Qpe
  ·exact Qpf
  ·exact Qpg
  ·exact Qph
  ·exact Qpi
  ·exact Qpj
  ·exact Qpk
  ·exact Qpl
  ·exact Qpm
  ·exact Qpn
  ·exact Qpo
  ·exact Qpp
  ·exact Qpq
  ·exact Qpr
 exact QnF (QmP h hb)
end
end Go.AM.ST
namespace Go.AM.ST
open Go.Proofs Go.AM.SD Go.AM.SE
noncomputable section
def allV (a:Nat):AV:=if a=0 then .nilsl else sliN (bitsL a)
def unionN (b:Nat):Bool:=callR ansB noOrc SK.ft.get (exR ansB noOrc SK.ft.get 1000) (.c .pure) 91 [.nilsl,sliN (bitsL b)] .e 64 (fun u _ _=>isV (allV b) u)
theorem QmQ {b:Nat} (h:unionN b=true):PSpec Tryz.prog 91 [.nilsl,sliN (bitsL b)] (allV b):=
 QbJ (t:=SK.ft) SK.ft_ok Qds (d:=1000) (isV _) QmO h
def rowN (n:Nat):Bool:=@Nat.rec (fun _=>Bool) true (fun b ih=>ifB (unionN b) ih false) n
theorem QnG:rowN 32=true:=by kernel_rfl
theorem QkR:∀{n b:Nat},rowN n=true->b<n->unionN b=true
 |0,_,_,h=>absurd h (Nat.not_lt_zero _)
 | n + 1, b, hr, hb => by
  have e:rowN (n+1)=ifB (unionN n) (rowN n) false:=rfl
  rw[e,Qaq]at hr
  split at hr
  ·rename_i h
   rcases Nat.lt_succ_iff_lt_or_eq.1 hb with h1|rfl
   ·exact QkR hr h1
   ·exact h
  ·cases hr
theorem QmR (b:Nat):SD.part 5 b=bitsL (b % 32):=by
 unfold bitsL SD.part
 apply List.filter_congr
 intro x hx
 have:=List.mem_range.1 hx
 rw[show 32=2^5 from rfl,Nat.testBit_mod_two_pow]
 simp[this]
theorem union90 {a b:Nat} (ha:a<32):PSpec Tryz.prog 91 [allV a,sliN (SD.part 5 b)] (allV (a|||b % 32)):=by
 rw[QmR]
 have hb:b % 32<32:=Nat.mod_lt _ (by decide)
 by_cases h0:a=0
 ·subst h0
  rw[Nat.zero_or]
  exact QmQ (QkR QnG hb)
 ·have h1 : ¬ (a ||| b % 32) = 0 := fun e => h0 (Nat.or_eq_zero_iff.1 e).1
  unfold allV
  rw[if_neg h0,if_neg h1]
  exact Qlx (by omega) ha hb
end
end Go.AM.ST
namespace Go.AM.SU
open Go.Proofs Go.AM.SD Go.AM.SE Go.AM.SO
theorem Qci (l:List Nat):(u8s l).length=l.length:=by simp[u8s]
theorem graph91 (al:List Nat) (st mk:Nat) (T:List Nat) (hs:al.Pairwise (· < ·)) (h5:∀x∈al,x<5) (hst:st<256) (hmk:mk<256) (hT:T.length=25) (hT8:∀x∈T,x<256):
  PSpec Tryz.prog 92 [sliN al,grV st mk T,.int .i64 3] (aV (mkA al (st % 3) mk T)):=by
 refine PSpec.of_rn 40 ok92 rfl (by(try simp only[noRefs,Qaa,Qau,noRef,noRefs,Qab,QaL,Bool.and_self,Bool.and_true])<;>rfl) (QcD _) ?_
 have hM:=Make32 al (st % 3) mk T hs h5 (by omega) hmk hT hT8
 have hlu:(u8s T).length=25:=by rw[Qci,hT]
 have htk:(u8s T).take 25=u8s T:=by rw[<-hlu,List.take_length]
 have htm:(st:Int).tmod 3=((st % 3:Nat):Int):=by rw[Int.tmod_eq_emod_of_nonneg (Int.natCast_nonneg _)];norm_cast
 have hone:(u8s T).all AV.one=true:=by
  have:∀l:List Nat,(u8s l).all AV.one=true:=fun l=>by
   induction l with
   |nil=>rfl
   |cons x l ih=>show(AV.one _&&(u8s l).all AV.one)=true;rw[ih];rfl
  exact this T
 simp(disch:=first|omega|(simp only[lenW]<;>omega)) only[s92,hlu,htk,htm,hone,Bool.not_eq_true,wW,wV,simprocAttr]
 refine cp hM ?_
 generalize mkA al (st % 3) mk T=A at*
 simp(disch:=first|omega|(simp only[lenW]<;>omega)) only[hone,hlu,Bool.not_eq_true,wW,wV,simprocAttr]
 refine⟨.inr trivial,_,rfl,?_⟩
 exact Rn.same (QcD _)
theorem Qek {i:Nat} (hi:i<10):aConvS (.int .i32 (48+(i:Int)))=some (.str [UInt8.ofNat (48+i)]):=by
 have:i=0\/i=1\/i=2\/i=3\/i=4\/i=5\/i=6\/i=7\/i=8\/i=9:=by omega
 rcases this with rfl|rfl|rfl|rfl|rfl|rfl|rfl|rfl|rfl|rfl<;>rfl
theorem _root_.Go.AM.au14 {p:Prop} (h:p:=by repeat' (first|exact RB.nil|(refine RnL.same ?_;first|rfl|(simp only[noRef,noRefs,Qaf,Bool.and_self,Bool.and_true,Bool.true_and,Qaa,Qau,Qan,Qab,QaL];done))|exact RnM.keyM rfl|exact RnL.nil|exact(True.intro:RnM _ _ _ [] [])|refine RnL.cons ?_ ?_|(refine Rn.same ?_;first|rfl|(simp only[noRef,noRefs,Qaf,Bool.and_self,Bool.and_true,Bool.true_and,Qaa,Qau,Qan,Qab,QaL];done))|exact Rn.x1 rfl rfl|exact Rn.x2 rfl rfl|exact Rn.x3 rfl rfl|exact Rn.x4 rfl rfl|exact Rn.x5 rfl|exact Rn.x6 rfl|exact Rn.x7 rfl|refine RB.newnil rfl rfl ?_|refine RB.cells rfl rfl rfl ?_ ?_|refine RB.map rfl rfl rfl ?_ ?_|refine RB.cellsB rfl rfl ?_ ?_|refine RB.mapB rfl rfl ?_ ?_)):p:=h
theorem _root_.Go.AM.au15 {p:Prop} (h:p:=by repeat (first|exact RT.nil|(refine RT.cons ?_ ?_; · (first|exact Rn.any|exact Rn.x1 rfl rfl|exact Rn.x2 rfl rfl|exact Rn.x3 rfl rfl|exact Rn.x4 rfl rfl|exact Rn.x5 rfl|exact Rn.x6 rfl|exact Rn.x7 rfl|(refine Rn.slot ?_ ?_;(first|rfl|(rw[Int.natCast_add];rfl));(first|rfl|(simp only[noRef,noRefs,Qaf,Bool.and_self,Bool.and_true,Bool.true_and,Qaa,Qau,Qan,Qab,QaL];done)))|(refine Rn.fn ?_ ?_<;>(repeat' (first|exact RnL.nil|refine RnL.cons ?_ ?_|exact Rn.same rfl|exact Rn.x6 rfl|exact Rn.x2 rfl rfl|exact Rn.x5 rfl|exact Rn.x1 rfl rfl))))))):p:=h
theorem events89 (s:Nat) (hs:s<256):HSpec Tryz.prog 90 [.int .u8 s] .e (.sl 98 0 0 (SD.part 5 s).length 1) (hp [(98,.cells 0 (ints (nz (SD.part 5 s))))]):=by
  refine HSpec.QdT 64 ok90 rfl ?_
  simp(disch:=first|omega|(simp only[lenW]<;>omega)) only[s90,Bool.not_eq_true,wW,wV,simprocAttr]
  refine Qal 100 (fun i:Nat=>[(0,.int .u8 s),(3,.sl 50 0 0 (SD.part i s).length 1),(4,.int .i64 i)]) (fun i=>[(50,.cells 0 (ints (nz (SD.part i s))))]) (fun i=>i<=5) (fun i=>5-i) 0 ⟨[(50,.nil)],rfl,au0,au14,au15⟩ (Nat.zero_le _) ?_
  rintro i hi
  have hpl:=@QcE i s
  by_cases hlt:i<5
  · have hlt2 : (i : Int) < 5 := by omega
    by_cases h0:s.testBit i=true
    · have hb := Qc7.2 h0
      have hp:=QcT (n:=5) (b:=s) (i:=i)
      rw[if_pos h0]at hp
      simp(disch:=first|omega|(simp only[lenW]<;>omega)) only[hlt2,Qcf (k:= .u8) (show i<=8 by omega),Qcg,hb,Bool.not_eq_true,wW,wV,simprocAttr]
      refine⟨i+1,by omega,by omega,?_⟩
      rw[hp,QaK,QaD,List.length_append]
      exact⟨[(50,.blk 50 1)],rfl,au0,au14,au15⟩
    · have hb : ¬ ((s / 2 ^ i % 2 : Nat) : Int) = 1 := fun e => h0 (Qc7.1 e)
      have hp:=QcT (n:=5) (b:=s) (i:=i)
      rw[if_neg h0,List.append_nil]at hp
      simp(disch:=first|omega|(simp only[lenW]<;>omega)) only[hlt2,Qcf (k:= .u8) (show i<=8 by omega),Qcg,hb,Bool.not_eq_true,wW,wV,simprocAttr]
      refine⟨i+1,by omega,by omega,?_⟩
      rw[hp]
      exact⟨[(50,.blk 50 0)],rfl,au0,au14,au15⟩
  · have hlt2 : ¬ (i : Int) < 5 := by omega
    have e:i=5:=by omega
    subst e
    simp(disch:=first|omega|(simp only[lenW]<;>omega)) only[hlt2,Bool.not_eq_true,wW,wV,simprocAttr]
    refine⟨.inr trivial,_,rfl,?_⟩
    exact⟨[(98,.blk 50 0)],rfl,au0,au14,au15⟩
theorem del40F {A l:List Nat} {h:Heap} (hA:A.length<=1000000) (hl:l.length<=1000000) (h75:h.get 75=some (.cells 0 [sliN A])) (h98:h.get 98=some (.cells 0 (ints (nz l)))):
  HSpec Tryz.prog 93 [.sl 98 0 0 l.length 1,.fn 94 [] [.ptr 75 0 0]] h (sliN (fltN A l)) ((h.set 98 (.cells 0 (ints (nz (delL A l))))).set 98 (.dead 0)):=by
 have h1:=HSpec.frameB (del40 A l hA hl) (OnlyD.cons (OnlyD.sl (.inr rfl)) (OnlyD.cons (OnlyD.fn OnlyD.nil (OnlyD.cons (OnlyD.ptr (.inl rfl)) OnlyD.nil)) OnlyD.nil)) (OnlyD.sl (.inr rfl))
  (by simp only[noRefs,noRef,Qaa];rfl) (Qaa _) (Qaa _) h75 h98 (by decide) rfl rfl
 have hle:(fltN A l).length*1<=(ints (nz (delL A l))).length:=by simp[ints,delL]
 have h2:=HSpec.freeze (ds:=ints (nz (delL A l))) h1 (by rw[QaR (by decide)]) (Qmv _) hle rfl
 have e:(ints (nz (delL A l))).take ((fltN A l).length*1)=ints (nz (fltN A l)):=by
  rw[Nat.mul_one]
  unfold delL
  rw[QaK,QaD,List.take_append_of_le_length (by simp[ints]),List.take_of_length_le (by simp[ints])]
 rw[e]at h2
 exact h2
theorem Qov (l:List (Nat×Int)):flatVs (l.flatMap teC)=true:=by
 induction l with
 |nil=>rfl
 |cons x l ih=>rw[List.flatMap_cons];exact ih
theorem del93F {l:List (Nat×Int)} {h:Heap} (hl:l.length<=1000000) (h97:h.get 97=some (.cells 0 (l.flatMap teC))):
  HSpec Tryz.prog 96 [.sl 97 0 0 l.length 2,.fn 97 [] []] h (tes (flt0 l)) ((h.set 97 (.cells 0 ((delT l).flatMap teC))).set 97 (.dead 0)):=by
 have h1:=HSpec.frameA (del93 l hl) (OnlyD.cons (OnlyD.sl rfl) (OnlyD.cons (OnlyD.same rfl) OnlyD.nil)) (OnlyD.sl rfl) (QaL _) (QaL _) h97 rfl
 have hle:(flt0 l).length*2<=((delT l).flatMap teC).length:=by rw[QcU];simp[delT];omega
 have h2:=HSpec.freeze (ds:=(delT l).flatMap teC) h1 (by rw[QaR (by decide)]) (Qov _) hle rfl
 have e:((delT l).flatMap teC).take ((flt0 l).length*2)=(flt0 l).flatMap teC:=by
  rw[Qg0]
  unfold delT
  rw[List.take_left]
 rw[e]at h2
 exact h2
end Go.AM.SU
