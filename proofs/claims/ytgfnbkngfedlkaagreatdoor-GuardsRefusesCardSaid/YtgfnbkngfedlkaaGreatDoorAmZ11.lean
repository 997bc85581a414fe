/- A part of the proof of GuardsRefusesCardSaid: lemmas on the way (AnRi, AnRj, AnCyj, AnRk, AnRl, AnRn, AnQc, AnGj, AnQg, AnQd). Conditions: none of ours. -/
import Derived.Test.YtgfnbkngfedlkaaGreatDoorProg
import Derived.KernelRfl
import Derived.Test.YtgfnbkngfedlkaaGreatDoorAmZ10
set_option linter.unusedSectionVars false
set_option maxHeartbeats 32000000
set_option maxRecDepth 100000
set_option linter.unusedVariables false
set_option linter.unusedSimpArgs false
namespace Go.AM
theorem Rn.yldB {m b g:Nat} {π:Nat->Option Src} {h:Heap} (hm:Nat.ble (b+1) m=true):Rn m π h (.yld b g) (.yld b g):=fun _ c w v _ _ hv=>by
 have e:(nctx m π h c).ρ b g=c.ρ b g:=Qbd (Nat.le_of_ble_eq_true hm)
 simp only[VRel]at hv⊢
 rw[e];exact hv
theorem RB.loopB {m b g N:Nat} {π:Nat->Option Src} {h:Heap} {T:Tmps} {ps:List Nat} {asg body:LCode} {st:LSt} {r:HL} (hm:Nat.blt b m=true) (hg:h.get b=some (.loop g N T ps asg body st)) (hT:RT m π h T T) (hr:RB m π h r):RB m π h ((b,.loop g N T ps asg body st)::r):=
 ⟨.inl ⟨by simpa using hm,T,hg,hT⟩,hr⟩
end Go.AM
namespace Go.AM.SO
open Go.Proofs Go.AM.SD Go.AM.SE
abbrev nlA:SCode:=(.region [Zm 5 10 []] [] [9,10])
abbrev nlB:SCode:=(.block 1 (.seq (.region [Zm 11 5 [],
 Zl 12 2 [],
 Zb 13 .eql 11 12 [0,1]] [] [2,5,11,12])
 (.cond (.t 13)
 (.seq (.region [Zy (.store 1 (.t 4) (.c (.int .i64 8))) []] [] [13])
 .ret)
 .skip)))
abbrev nlT (f:Nat) (cap:List AV):Tmps:=[(2,.ptr 64 0 0),(4,.ptr 65 0 0),(9,.fn f [] cap)]
abbrev nlP (f:Nat) (cap:List AV) (st:LSt):Blk:= .loop 0 14 (nlT f cap) [10] (.s nlA) (.s nlB) st
abbrev nlH (s:List UInt8) (e:Int) (f:Nat) (cap:List AV) (st:LSt):HL:=[(150,nlP f cap st),(64,.cells 0 [.str s]),(65,.cells 0 [.int .i64 e])]
theorem QgO {a b:List UInt8}:aBin .eql (.str a) (.str b)=some (.bool (decide (a=b))):=rfl
theorem set2h {h:Heap} {k j:Nat} {a b:Blk} (hk:Nat.blt k 1099511627775=true) (hb:h.get k=some b):((h.set k a).set k b).get j=h.get j:=by
 have hk':k<1099511627775:=by simpa using hk
 by_cases e:j=k
 ·subst e;rw[QaL hk',hb]
 ·rw[QaK hk' e,QaK hk' e]
theorem set3h {h:Heap} {k k2 j:Nat} {a b c:Blk} (hk:(Nat.blt k 1099511627775&&Nat.blt k2 1099511627775)=true):(((h.set k a).set k2 b).set k c).get j=((h.set k2 b).set k c).get j:=by
 simp only[Bool.and_eq_true,Nat.blt_eq]at hk
 obtain⟨h1,h2⟩:=hk
 by_cases e:j=k
 ·subst e;rw[QaL h1,QaL h1]
 ·rw [QaK h1 e, QaK h1 e]
  by_cases e2:j=k2
  ·subst e2;rw[QaL h2,QaL h2]
  ·rw[QaK h2 e2,QaK h2 e2,QaK h1 e]
theorem Qdz {α:Type} {f:α->List AV} {k:Nat} (h:∀x,(f x).length=k):∀{l:List α} (i:Nat),(l.flatMap f).take (i*k)=(l.take i).flatMap f
 |[],i=>by simp
 |y::l,0=>by simp
 |y::l,i+1=>by
  rw[List.flatMap_cons,List.take_append,h,List.take_of_length_le (by rw[h,Nat.succ_mul];omega),List.take_succ_cons,List.flatMap_cons]
  have:(i+1)*k-k=i*k:=by rw[Nat.succ_mul];omega
  rw[this,Qdz h i]
theorem Qid {s t:List UInt8} {f:Nat} {cap:List AV} {h:Heap} (hne:t≠s) (h1:h.get 64=some (.cells 0 [.str s])) (h3:h.get 150=some (nlP f cap .ready)):
  RSpec Tryz.prog 150 0 [.str t] h (.bool true) h:=by
 refine RSpec.of_wS (n:=300) rfl h3 rfl rfl rfl ?_
 simp(disch:=first|omega|exact PairsOK.mk rfl|(simp only[lenW]<;>omega)) only[upsT,h1,h3,QgO,hne,wW,wV,simprocAttr]
 exact⟨rfl,fun x=>set2h rfl h3⟩
theorem QgP {s:List UInt8} {f:Nat} {cap:List AV} {h:Heap} (h1:h.get 64=some (.cells 0 [.str s])) (h2:h.get 65=some (.cells 0 [.int .i64 0])) (h3:h.get 150=some (nlP f cap .ready)):
  RSpec Tryz.prog 150 0 [.str s] h (.bool false) ((h.set 65 (.cells 0 [.int .i64 8])).set 150 (nlP f cap (.done .ret))):=by
 refine RSpec.of_wS (n:=300) rfl h3 rfl rfl rfl ?_
 simp(disch:=first|omega|exact PairsOK.mk rfl|(simp only[lenW]<;>omega)) only[upsT,h1,h2,h3,QgO,wW,wV,simprocAttr]
 exact⟨rfl,fun x=>set3h rfl⟩
def nmErr (s:List UInt8) (N:List (List UInt8)):Int:=if nmOk s=false then 7 else if s∈N then 8 else 0
theorem clos134 (s : List UInt8) (S K : AV) (xs : List Exn) (i : Nat) (hi : i <= xs.length) (hl : xs.length <= 1000) (hn : noRefs [S, exsZ xs, K] = true) (d : Bool) (hd : d = decide (s ∈ (xs.take i).map (·.1))) :
    HSpec Tryz.prog 134 [.yld 150 0,.fptr [S,exsZ xs,K],.fptr [.int .i64 (i:Int)]] (hp (nlH s 0 134 [.fptr [S,exsZ xs,K],.fptr [.int .i64 (i:Int)]] .ready)) (.tup [])
      (hp (nlH s (if d then 8 else 0) 134 [.fptr [S,exsZ xs,K],.fptr [.int .i64 (i:Int)]] (if d then .done .ret else .ready))):=by
  refine HSpec.QhU (m:=200) 1000 TX.ok134 rfl rfl rfl ?_
  have hln:=Qef xs
  have hil:(i:Int)<=(xs.length:Int):=by omega
  have htk:((xs.flatMap exZ).take (i*2))=(xs.take i).flatMap exZ:=Qdz (k:=2) (fun _=>rfl) i
  have hNl:(xs.take i).length=i:=by rw[List.length_take];omega
  simp(disch:=first|omega|exact PairsOK.mk rfl|(simp only[lenW]<;>omega)) only[TX.s134,hil,htk,wW,wV,simprocAttr]
  clear htk hil hln
  generalize hcp:[AV.fptr [S,exsZ xs,K],AV.fptr [.int .i64 (i:Int)]]=cap at*
  have hcn:noRef (.fn 134 [] cap)=true:=by
    have:noRefs cap=true:=by rw[<-hcp];simp only[noRefs,noRef]at hn⊢;rw[hn];rfl
    exact Qbz this
  clear hcp
  generalize xs.take i=N at*
  have hRT:∀{π:Nat->Option Src} {h:Heap},RT 200 π h (nlT 134 cap) (nlT 134 cap):=fun{π h}=>RT.cons (Rn.x6 rfl) (RT.cons (Rn.x6 rfl) (RT.cons (Rn.same hcn) RT.nil))
  have hRB:∀{π:Nat->Option Src} {h:Heap} {s:List UInt8} {e:Int} {st:LSt},h.get 64=some (.cells 0 [.str s])->h.get 65=some (.cells 0 [.int .i64 e])->h.get 150=some (nlP 134 cap st)->RB 200 π h (nlH s e 134 cap st):=fun{π h s e st} h1 h2 h3=>RB.loopB rfl h3 hRT (RB.cellsB rfl h1 (RnL.same rfl) (RB.cellsB rfl h2 (RnL.same rfl) RB.nil))
  subst hNl
  have hnN:=QbE N
  refine QaF 1100 (fun k:Nat=>[(0,.yld 150 0),(9,exsZ N),(10,.int .i64 N.length),(11,.int .i64 k)]) (fun _=>nlH s 0 134 cap .ready) (fun k=>k<=N.length/\∀(j:Nat) y,j<k->N[j]?=some y->y.1≠s) (fun k=>N.length-k) 0 0 1200 (fun _:Unit=>[]) (fun _=>nlH s 0 134 cap .ready) (fun _=>d=false) ?_ ⟨Nat.zero_le _,fun j y hj=>absurd hj (Nat.not_lt_zero _)⟩ ?_ ?_
  · refine⟨[(150,.nil),(64,.nil),(65,.nil)],rfl,au0,hRB gg gg gg,RT.cons (Rn.yldB rfl) (RT.cons (Rn.same hnN) au12)⟩
  · rintro k ⟨hk, hb⟩
    by_cases hlt:k<N.length
    · obtain ⟨x, hx⟩ := Qas hlt
      have hdr:=Qfe hx
      have hdl:2<=((N.flatMap exZ).drop (k*2)).length:=by rw[hdr];simp
      by_cases he:x.1=s
      · subst he
        have hm:decide (x.1∈N.map (·.1))=true:=decide_eq_true (List.mem_map.2 ⟨x,List.mem_of_getElem? hx,rfl⟩)
        rw[hm]at hd
        subst hd
        simp(disch:=first|omega|exact PairsOK.mk rfl|(simp only[lenW]<;>omega)) only[hlt,hdr,hdl,wW,wV,simprocAttr]
        refine cy (QgP (f:=134) (cap:=cap) gg gg gg) ?_
        simp(disch:=first|omega|exact PairsOK.mk rfl|(simp only[lenW]<;>omega)) only[wW,wV,simprocAttr]
        exact⟨.inr trivial,_,rfl,rfl,[(150,.nil),(64,.nil),(65,.nil)],rfl,au0,hRB gg gg gg,RT.nil⟩
      · simp (disch := first | omega | exact PairsOK.mk rfl | (simp only [lenW] <;> omega)) only [hlt, hdr, hdl, wW, wV, simprocAttr]
        refine cy (Qid (f:=134) (cap:=cap) he gg gg) ?_
        simp(disch:=first|omega|exact PairsOK.mk rfl|(simp only[lenW]<;>omega)) only[wW,wV,simprocAttr]
        refine⟨k+1,by omega,⟨by omega,fun j y hj hy=>?_⟩,[(150,.nil),(64,.nil),(65,.nil)],rfl,au0,hRB gg gg gg,RT.cons (Rn.yldB rfl) (RT.cons (Rn.same hnN) au12)⟩
        by_cases e:j=k
        · subst e;rw[hx]at hy;cases hy;exact he
        · exact hb j y (by omega) hy
    · have hm : s ∉ N.map (·.1) := fun h => by
        obtain⟨y,hy,e⟩:=List.mem_map.1 h
        obtain⟨j,hj,hjl⟩:=List.getElem_of_mem hy
        exact hb j y (by omega) (by rw[List.getElem?_eq_getElem hj,hjl]) e
      have hd2:d=false:=by rw[hd];exact decide_eq_false hm
      simp(disch:=first|omega|exact PairsOK.mk rfl|(simp only[lenW]<;>omega)) only[hlt,wW,wV,simprocAttr]
      exact⟨(),hd2,[(150,.nil),(64,.nil),(65,.nil)],rfl,au0,hRB gg gg gg,RT.nil⟩
  · rintro _ hd2
    subst hd2
    simp(disch:=first|omega|exact PairsOK.mk rfl|(simp only[lenW]<;>omega)) only[wW,wV,simprocAttr]
    exact⟨.inl trivial,_,rfl,rfl,[(150,.nil),(64,.nil),(65,.nil)],rfl,au0,hRB gg gg gg,RT.nil⟩
theorem name134 (s:List UInt8) (S K:AV) (xs:List Exn) (i:Nat) (hi:i<=xs.length) (hl:xs.length<=1000) (hsl:s.length<=9223372036854775807) (hn:noRefs [S,exsZ xs,K]=true):
  PSpec Tryz.prog 135 [.str s,.fn 134 [] [.fptr [S,exsZ xs,K],.fptr [.int .i64 (i:Int)]]] (.int .i64 (nmErr s ((xs.take i).map (·.1)))):=by
 have hcn:noRef (.fn 134 [] [AV.fptr [S,exsZ xs,K],AV.fptr [.int .i64 (i:Int)]])=true:=by
  refine Qbz ?_
  simp only[noRefs,noRef]at hn⊢;rw[hn];rfl
 refine PSpec.Qak 64 TX.ok135 rfl (by rw[noRefs,noRefs,hcn];rfl) rfl ?_
 have hc:=clos134 s S K xs i hi hl hn
 have hN:=name135 s hsl
 unfold nmErr
 generalize hcp:[AV.fptr [S,exsZ xs,K],AV.fptr [.int .i64 (i:Int)]]=cap at*
 simp(disch:=first|omega|exact PairsOK.mk rfl|(simp only[lenW]<;>omega)) only[TX.s135,wW,wV,simprocAttr]
 refine cp hN ?_
 cases ho:nmOk s with
 |false=>
  simp(disch:=first|omega|exact PairsOK.mk rfl|(simp only[lenW]<;>omega)) only[wW,wV,simprocAttr]
  exact⟨.inr trivial,_,rfl,rfl⟩
 | true =>
  simp(disch:=first|omega|exact PairsOK.mk rfl|(simp only[lenW]<;>omega)) only[wW,wV,simprocAttr]
  have hrec:Rec 0 (nlT 134 cap) [(64,.cells 0 [.str s]),(65,.cells 0 [.int .i64 0])] [(2,.ptr 64 0 0),(4,.ptr 65 0 0),(9,.fn 134 [] cap)] ((Tr.e.set 64 (.cells 0 [.str s])).set 65 (.cells 0 [.int .i64 0])):=by
   refine⟨[(64,.blk 64 0),(65,.blk 65 0)],rfl,RO.zero,RB.cells rfl rfl gg (RnL.same rfl) (RB.cells rfl rfl gg (RnL.same rfl) RB.nil),RT.cons (Rn.x2 rfl rfl) (RT.cons (Rn.x2 rfl rfl) (RT.cons (Rn.same hcn) RT.nil))⟩
  by_cases hm:s∈(xs.take i).map (·.1)
  ·have h1 := hc true (decide_eq_true hm).symm
   simp only[if_true]at h1
   refine QcV (n':=400) (b:=150) (st:= .done .ret) hrec rfl gg rfl h1 gg ?_
   unfold leftQ
   refine⟨rfl,?_⟩
   simp(disch:=first|omega|exact PairsOK.mk rfl|(simp only[lenW]<;>omega)) only[wW,wV,simprocAttr]
   exact⟨.inr trivial,_,rfl,by rw[if_pos hm];rfl⟩
  ·have h1 := hc false (decide_eq_false hm).symm
   simp only[Bool.false_eq_true,if_false]at h1
   refine QcV (n':=400) (b:=150) (st:= .ready) hrec rfl gg rfl h1 gg ?_
   unfold leftQ
   simp(disch:=first|omega|exact PairsOK.mk rfl|(simp only[lenW]<;>omega)) only[wW,wV,simprocAttr]
   exact⟨.inr trivial,_,rfl,by rw[if_neg hm];rfl⟩
theorem clos137 (s : List UInt8) (S K : AV) (xs : List Con) (i : Nat) (hi : i <= xs.length) (hl : xs.length <= 1000) (hn : noRefs [S, K, cosZ xs] = true) (d : Bool) (hd : d = decide (s ∈ (xs.take i).map (·.1))) :
    HSpec Tryz.prog 137 [.yld 150 0,.fptr [S,K,cosZ xs],.fptr [.int .i64 (i:Int)]] (hp (nlH s 0 137 [.fptr [S,K,cosZ xs],.fptr [.int .i64 (i:Int)]] .ready)) (.tup [])
      (hp (nlH s (if d then 8 else 0) 137 [.fptr [S,K,cosZ xs],.fptr [.int .i64 (i:Int)]] (if d then .done .ret else .ready))):=by
  refine HSpec.QhU (m:=200) 1000 TX.ok137 rfl rfl rfl ?_
  have hln:=Qeg xs
  have hil:(i:Int)<=(xs.length:Int):=by omega
  have htk:((xs.flatMap coZ).take (i*3))=(xs.take i).flatMap coZ:=Qdz (k:=3) (fun _=>rfl) i
  have hNl:(xs.take i).length=i:=by rw[List.length_take];omega
  simp(disch:=first|omega|exact PairsOK.mk rfl|(simp only[lenW]<;>omega)) only[TX.s137,hil,htk,wW,wV,simprocAttr]
  clear htk hil hln
  generalize hcp:[AV.fptr [S,K,cosZ xs],AV.fptr [.int .i64 (i:Int)]]=cap at*
  have hcn:noRef (.fn 137 [] cap)=true:=by
    have:noRefs cap=true:=by rw[<-hcp];simp only[noRefs,noRef]at hn⊢;rw[hn];rfl
    exact Qbz this
  clear hcp
  generalize xs.take i=N at*
  have hRT:∀{π:Nat->Option Src} {h:Heap},RT 200 π h (nlT 137 cap) (nlT 137 cap):=fun{π h}=>RT.cons (Rn.x6 rfl) (RT.cons (Rn.x6 rfl) (RT.cons (Rn.same hcn) RT.nil))
  have hRB:∀{π:Nat->Option Src} {h:Heap} {s:List UInt8} {e:Int} {st:LSt},h.get 64=some (.cells 0 [.str s])->h.get 65=some (.cells 0 [.int .i64 e])->h.get 150=some (nlP 137 cap st)->RB 200 π h (nlH s e 137 cap st):=fun{π h s e st} h1 h2 h3=>RB.loopB rfl h3 hRT (RB.cellsB rfl h1 (RnL.same rfl) (RB.cellsB rfl h2 (RnL.same rfl) RB.nil))
  subst hNl
  have hnN:=Qdy N
  refine QaF 1100 (fun k:Nat=>[(0,.yld 150 0),(9,cosZ N),(10,.int .i64 N.length),(11,.int .i64 k)]) (fun _=>nlH s 0 137 cap .ready) (fun k=>k<=N.length/\∀(j:Nat) y,j<k->N[j]?=some y->y.1≠s) (fun k=>N.length-k) 0 0 1200 (fun _:Unit=>[]) (fun _=>nlH s 0 137 cap .ready) (fun _=>d=false) ?_ ⟨Nat.zero_le _,fun j y hj=>absurd hj (Nat.not_lt_zero _)⟩ ?_ ?_
  · refine⟨[(150,.nil),(64,.nil),(65,.nil)],rfl,au0,hRB gg gg gg,RT.cons (Rn.yldB rfl) (RT.cons (Rn.same hnN) au12)⟩
  · rintro k ⟨hk, hb⟩
    by_cases hlt:k<N.length
    · obtain ⟨x, hx⟩ := Qas hlt
      have hdr:=Qff hx
      have hdl:3<=((N.flatMap coZ).drop (k*3)).length:=by rw[hdr];simp
      by_cases he:x.1=s
      · subst he
        have hm:decide (x.1∈N.map (·.1))=true:=decide_eq_true (List.mem_map.2 ⟨x,List.mem_of_getElem? hx,rfl⟩)
        rw[hm]at hd
        subst hd
        simp(disch:=first|omega|exact PairsOK.mk rfl|(simp only[lenW]<;>omega)) only[hlt,hdr,hdl,wW,wV,simprocAttr]
        refine cy (QgP (f:=137) (cap:=cap) gg gg gg) ?_
        simp(disch:=first|omega|exact PairsOK.mk rfl|(simp only[lenW]<;>omega)) only[wW,wV,simprocAttr]
        exact⟨.inr trivial,_,rfl,rfl,[(150,.nil),(64,.nil),(65,.nil)],rfl,au0,hRB gg gg gg,RT.nil⟩
      · simp (disch := first | omega | exact PairsOK.mk rfl | (simp only [lenW] <;> omega)) only [hlt, hdr, hdl, wW, wV, simprocAttr]
        refine cy (Qid (f:=137) (cap:=cap) he gg gg) ?_
        simp(disch:=first|omega|exact PairsOK.mk rfl|(simp only[lenW]<;>omega)) only[wW,wV,simprocAttr]
        refine⟨k+1,by omega,⟨by omega,fun j y hj hy=>?_⟩,[(150,.nil),(64,.nil),(65,.nil)],rfl,au0,hRB gg gg gg,RT.cons (Rn.yldB rfl) (RT.cons (Rn.same hnN) au12)⟩
        by_cases e:j=k
        · subst e;rw[hx]at hy;cases hy;exact he
        · exact hb j y (by omega) hy
    · have hm : s ∉ N.map (·.1) := fun h => by
        obtain⟨y,hy,e⟩:=List.mem_map.1 h
        obtain⟨j,hj,hjl⟩:=List.getElem_of_mem hy
        exact hb j y (by omega) (by rw[List.getElem?_eq_getElem hj,hjl]) e
      have hd2:d=false:=by rw[hd];exact decide_eq_false hm
      simp(disch:=first|omega|exact PairsOK.mk rfl|(simp only[lenW]<;>omega)) only[hlt,wW,wV,simprocAttr]
      exact⟨(),hd2,[(150,.nil),(64,.nil),(65,.nil)],rfl,au0,hRB gg gg gg,RT.nil⟩
  · rintro _ hd2
    subst hd2
    simp(disch:=first|omega|exact PairsOK.mk rfl|(simp only[lenW]<;>omega)) only[wW,wV,simprocAttr]
    exact⟨.inl trivial,_,rfl,rfl,[(150,.nil),(64,.nil),(65,.nil)],rfl,au0,hRB gg gg gg,RT.nil⟩
theorem name137 (s:List UInt8) (S K:AV) (xs:List Con) (i:Nat) (hi:i<=xs.length) (hl:xs.length<=1000) (hsl:s.length<=9223372036854775807) (hn:noRefs [S,K,cosZ xs]=true):
  PSpec Tryz.prog 135 [.str s,.fn 137 [] [.fptr [S,K,cosZ xs],.fptr [.int .i64 (i:Int)]]] (.int .i64 (nmErr s ((xs.take i).map (·.1)))):=by
 have hcn:noRef (.fn 137 [] [AV.fptr [S,K,cosZ xs],AV.fptr [.int .i64 (i:Int)]])=true:=by
  refine Qbz ?_
  simp only[noRefs,noRef]at hn⊢;rw[hn];rfl
 refine PSpec.Qak 64 TX.ok135 rfl (by rw[noRefs,noRefs,hcn];rfl) rfl ?_
 have hc:=clos137 s S K xs i hi hl hn
 have hN:=name135 s hsl
 unfold nmErr
 generalize hcp:[AV.fptr [S,K,cosZ xs],AV.fptr [.int .i64 (i:Int)]]=cap at*
 simp(disch:=first|omega|exact PairsOK.mk rfl|(simp only[lenW]<;>omega)) only[TX.s135,wW,wV,simprocAttr]
 refine cp hN ?_
 cases ho:nmOk s with
 |false=>
  simp(disch:=first|omega|exact PairsOK.mk rfl|(simp only[lenW]<;>omega)) only[wW,wV,simprocAttr]
  exact⟨.inr trivial,_,rfl,rfl⟩
 | true =>
  simp(disch:=first|omega|exact PairsOK.mk rfl|(simp only[lenW]<;>omega)) only[wW,wV,simprocAttr]
  have hrec:Rec 0 (nlT 137 cap) [(64,.cells 0 [.str s]),(65,.cells 0 [.int .i64 0])] [(2,.ptr 64 0 0),(4,.ptr 65 0 0),(9,.fn 137 [] cap)] ((Tr.e.set 64 (.cells 0 [.str s])).set 65 (.cells 0 [.int .i64 0])):=by
   refine⟨[(64,.blk 64 0),(65,.blk 65 0)],rfl,RO.zero,RB.cells rfl rfl gg (RnL.same rfl) (RB.cells rfl rfl gg (RnL.same rfl) RB.nil),RT.cons (Rn.x2 rfl rfl) (RT.cons (Rn.x2 rfl rfl) (RT.cons (Rn.same hcn) RT.nil))⟩
  by_cases hm:s∈(xs.take i).map (·.1)
  ·have h1 := hc true (decide_eq_true hm).symm
   simp only[if_true]at h1
   refine QcV (n':=400) (b:=150) (st:= .done .ret) hrec rfl gg rfl h1 gg ?_
   unfold leftQ
   refine⟨rfl,?_⟩
   simp(disch:=first|omega|exact PairsOK.mk rfl|(simp only[lenW]<;>omega)) only[wW,wV,simprocAttr]
   exact⟨.inr trivial,_,rfl,by rw[if_pos hm];rfl⟩
  ·have h1 := hc false (decide_eq_false hm).symm
   simp only[Bool.false_eq_true,if_false]at h1
   refine QcV (n':=400) (b:=150) (st:= .ready) hrec rfl gg rfl h1 gg ?_
   unfold leftQ
   simp(disch:=first|omega|exact PairsOK.mk rfl|(simp only[lenW]<;>omega)) only[wW,wV,simprocAttr]
   exact⟨.inr trivial,_,rfl,by rw[if_neg hm];rfl⟩
end Go.AM.SO
namespace Go.AM.SO
open Go.Proofs Go.AM.SD Go.AM.SE
def szE (S:List Int) (i:Nat):Int:=if S.getD i 0<1\/4096<S.getD i 0 then 2 else 0
def xsE (S:List Int) (xs:List Exn) (i:Nat):Int:=
 let x:=xs.getD i ([],[])
 if nmErr x.1 ((xs.take i).map (·.1))≠0 then nmErr x.1 ((xs.take i).map (·.1))else exErr S x.2
def ksE (S:List Int) (ks:List Con) (i:Nat):Int:=
 let x:=ks.getD i ([],[],0)
 if nmErr x.1 ((ks.take i).map (·.1))≠0 then nmErr x.1 ((ks.take i).map (·.1))else coErr S x.2.1 x.2.2
def cdErr (S:List Int) (xs:List Exn) (ks:List Con):Int:=
 if 8<S.length then 3 else if fe (szE S) S.length≠0 then fe (szE S) S.length else if 32<xs.length\/32<ks.length then 3
 else if fe (xsE S xs) xs.length≠0 then fe (xsE S xs) xs.length else fe (ksE S ks) ks.length
theorem Ql8 {S:List Int} {xs:List Exn} {i:Nat} {x:Exn} (h:xs[i]?=some x):xsE S xs i=if nmErr x.1 ((xs.take i).map (·.1))≠0 then nmErr x.1 ((xs.take i).map (·.1))else exErr S x.2:=by unfold xsE;rw[QaB h]
theorem Ql9 {S:List Int} {ks:List Con} {i:Nat} {x:Con} (h:ks[i]?=some x):ksE S ks i=if nmErr x.1 ((ks.take i).map (·.1))≠0 then nmErr x.1 ((ks.take i).map (·.1))else coErr S x.2.1 x.2.2:=by unfold ksE;rw[QaB h]
theorem QkU {S:List Int} {xs:List Exn} {ks:List Con} {e:Int} (h:fe (xsE S xs) xs.length=e) (h0:e≠0):(if fe (xsE S xs) xs.length≠0 then fe (xsE S xs) xs.length else fe (ksE S ks) ks.length)=e:=by rw[h,if_pos h0]
theorem QkV {S:List Int} {ks:List Con} {e:Int} (h:fe (ksE S ks) ks.length=e) (_:e≠0):fe (ksE S ks) ks.length=e:=h
theorem _root_.Go.AM.au13 {p:Prop} (h:p:=by repeat (first|exact RT.nil|(refine RT.cons ?_ ?_; · (first|exact Rn.any|exact Rn.x1 rfl rfl|exact Rn.x2 rfl rfl|exact Rn.x3 rfl rfl|exact Rn.x4 rfl rfl|exact Rn.x5 rfl|exact Rn.x6 rfl|exact Rn.x7 rfl|(refine Rn.slot ?_ ?_;(first|rfl|(rw[Int.natCast_add];rfl));(first|rfl|(simp only[noRef,noRefs,Qam,Bool.and_self,Bool.and_true,Bool.true_and,Qab,Qap,Qaj,Qbq,Qbr];done)))|(refine Rn.fn ?_ ?_<;>(repeat' (first|exact RnL.nil|refine RnL.cons ?_ ?_|exact Rn.same rfl|exact Rn.x6 rfl|exact Rn.x2 rfl rfl|exact Rn.x5 rfl|exact Rn.x1 rfl rfl))))))):p:=h
theorem conds32X (S : List Int) (xs : List Exn) (ks : List Con) (hS : S.length <= 1000) (hx2 : xs.length <= 1000) (hk1 : ks.length <= 1000) (hxl : ∀ x ∈ xs, x.1.length <= 9223372036854775807 /\ x.2.length <= 8796093021952) (hkl : ∀ x ∈ ks, x.1.length <= 9223372036854775807 /\ x.2.1.length <= 8796093021952) :
    PSpec Tryz.prog 76 [cdZ S xs ks] (.int .i64 (cdErr S xs ks)):=by
  have hnr:=@Qb1 S xs ks
  refine PSpec.Qak 64 SQ.ok76 rfl (by rw[noRefs,noRef,hnr];rfl) rfl ?_
  unfold cdErr
  by_cases g1:8<S.length
  · have g1' : (8 : Int) < (S.length : Int) := by omega
    simp(disch:=first|omega|exact PairsOK.mk rfl|(simp only[lenW]<;>omega)) only[SQ.s76,g1',wW,wV,simprocAttr]
    exact⟨.inr trivial,_,rfl,by rw[if_pos g1];rfl⟩
  rw[if_neg g1]
  have g1':¬(8:Int)<(S.length:Int):=by omega
  simp(disch:=first|omega|exact PairsOK.mk rfl|(simp only[lenW]<;>omega)) only[SQ.s76,g1',wW,wV,simprocAttr]
  refine QaF 100 (fun i:Nat=>[(1,.ptr 50 0 0),(20,sli S),(21,.int .i64 S.length),(22,.int .i64 i)]) (fun _=>[(50,.cells 0 (cdK S xs ks))]) (fun i=>i<=S.length/\∀j,j<i->szE S j=0) (fun i=>S.length-i) 0 0 140
    (fun _:Unit=>[(1,.ptr 50 0 0)]) (fun _=>[(50,.cells 0 (cdK S xs ks))]) (fun _=>fe (szE S) S.length=0) ⟨[(50,.blk 64 0)],rfl,au0,?_,au13⟩ ⟨Nat.zero_le _,fun j hj=>absurd hj (Nat.not_lt_zero _)⟩ ?_ ?_
  · exact RB.cells rfl rfl gg (RnL.same hnr) RB.nil
  · rintro i ⟨hi, hb⟩
    by_cases hlt:i<S.length
    · obtain ⟨s, hs⟩ := Qas hlt
      have hgs:S.getD i 0=s:=QaB hs
      by_cases q1:s<1
      · simp (disch := first | omega | exact PairsOK.mk rfl | (simp only [lenW] <;> omega)) only [hlt, Qaw hs, q1, wW, wV, simprocAttr]
        exact⟨.inr trivial,_,rfl,by rw[fe_at (e:=2) (by unfold szE;rw[hgs,if_pos (.inl q1)]) (by decide) hb hlt,if_pos (by decide)];rfl⟩
      by_cases q2:4096<s
      · simp (disch := first | omega | exact PairsOK.mk rfl | (simp only [lenW] <;> omega)) only [hlt, Qaw hs, q1, q2, wW, wV, simprocAttr]
        exact⟨.inr trivial,_,rfl,by rw[fe_at (e:=2) (by unfold szE;rw[hgs,if_pos (.inr q2)]) (by decide) hb hlt,if_pos (by decide)];rfl⟩
      simp(disch:=first|omega|exact PairsOK.mk rfl|(simp only[lenW]<;>omega)) only[hlt,Qaw hs,q1,q2,wW,wV,simprocAttr]
      refine⟨i+1,by omega,⟨by omega,fe_up hb (by unfold szE;rw[hgs,if_neg (by omega)])⟩,?_⟩
      refine⟨[(50,.blk 50 0)],rfl,au0,?_,au13⟩
      exact RB.cells rfl rfl gg (RnL.same hnr) RB.nil
    · simp (disch := first | omega | exact PairsOK.mk rfl | (simp only [lenW] <;> omega)) only [hlt, wW, wV, simprocAttr]
      refine⟨(),Qbb fun j hj=>hb j (by omega),?_⟩
      refine⟨[(50,.blk 50 0)],rfl,au0,?_,au13⟩
      exact RB.cells rfl rfl gg (RnL.same hnr) RB.nil
  rintro _ hz
  rw[if_neg (fun h=>h hz)]
  by_cases g2:32<xs.length
  · have g2' : (32 : Int) < (xs.length : Int) := by omega
    simp(disch:=first|omega|exact PairsOK.mk rfl|(simp only[lenW]<;>omega)) only[g2',wW,wV,simprocAttr]
    exact⟨.inr trivial,_,rfl,by rw[if_pos (.inl g2)];rfl⟩
  have g2':¬(32:Int)<(xs.length:Int):=by omega
  by_cases g3:32<ks.length
  · have g3' : (32 : Int) < (ks.length : Int) := by omega
    simp(disch:=first|omega|exact PairsOK.mk rfl|(simp only[lenW]<;>omega)) only[g2',g3',wW,wV,simprocAttr]
    exact⟨.inr trivial,_,rfl,by rw[if_pos (.inr g3)];rfl⟩
  have g3':¬(32:Int)<(ks.length:Int):=by omega
  rw[if_neg (by omega)]
  simp(disch:=first|omega|exact PairsOK.mk rfl|(simp only[lenW]<;>omega)) only[g2',g3',wW,wV,simprocAttr]
  refine QaF 200 (fun i:Nat=>[(1,.ptr 50 0 0),(44,exsZ xs),(45,.int .i64 xs.length),(46,.int .i64 i)]) (fun _=>[(50,.cells 0 (cdK S xs ks))]) (fun i=>i<=xs.length/\∀j,j<i->xsE S xs j=0) (fun i=>xs.length-i) 0 2 240
    (fun _:Unit=>[(1,.ptr 50 0 0)]) (fun _=>[(50,.cells 0 (cdK S xs ks))]) (fun _=>fe (xsE S xs) xs.length=0) ⟨[(50,.blk 50 0)],rfl,au0,?_,au13⟩ ⟨Nat.zero_le _,fun j hj=>absurd hj (Nat.not_lt_zero _)⟩ ?_ ?_
  · exact RB.cells rfl rfl gg (RnL.same hnr) RB.nil
  · skip
    rintro i ⟨hi,hb⟩
    by_cases hlt:i<xs.length
    · obtain ⟨x, hx⟩ := Qas hlt
      have hxm:=List.mem_of_getElem? hx
      have hdr:=Qfe hx
      have hdl:2<=((xs.flatMap exZ).drop (i*2)).length:=by rw[hdr];simp
      have hN:=name134 x.1 (sli S) (cosZ ks) xs i (by omega) (by omega) (hxl x hxm).1 hnr
      have hE:=excl103X S xs ks x (hxl x hxm).2
      have ke:=Ql8 (S:=S) hx
      have at0:∀e:Int,xsE S xs i=e->e≠0->fe (xsE S xs) xs.length=e:=fun e h h0=>fe_at h h0 hb hlt
      have up:xsE S xs i=0->∀j,j<i+1->xsE S xs j=0:=fe_up hb
      rw[ke]at at0 up
      clear ke
      generalize nmErr x.1 ((xs.take i).map (·.1))=e1 at*
      generalize exErr S x.2=e2 at*
      have hex:exZ x=[.str x.1,prs x.2]:=rfl
      rw[hex]at hE
      simp(disch:=first|omega|exact PairsOK.mk rfl|(simp only[lenW]<;>omega)) only[hlt,hdr,hdl,wW,wV,simprocAttr]
      refine SU.chc (HSpec.lend (FrzL.cons (FrzTo.same _) (FrzL.cons (FrzTo.fn FrzL.nil (FrzL.cons (FrzTo.ptr (g:=0) (cs:=cdK S xs ks) gg (FrzL.same _)) (FrzL.cons (FrzTo.ptr (g:=0) (cs:=[.int .i64 (i:Int)]) gg (FrzL.same _)) FrzL.nil))) FrzL.nil)) hN rfl) ?_
      by_cases q1:e1=0
      · simp (disch := first | omega | exact PairsOK.mk rfl | (simp only [lenW] <;> omega)) only [q1, wW, wV, simprocAttr]
        refine cp hE ?_
        by_cases q2:e2=0
        · simp (disch := first | omega | exact PairsOK.mk rfl | (simp only [lenW] <;> omega)) only [q2, wW, wV, simprocAttr]
          refine⟨i+1,by omega,⟨by omega,up (by rw[if_neg (fun h=>h q1)];exact q2)⟩,?_⟩
          refine⟨[(50,.blk 50 0)],rfl,au0,?_,au13⟩
          exact RB.cells rfl rfl gg (RnL.same hnr) RB.nil
        · simp (disch := first | omega | exact PairsOK.mk rfl | (simp only [lenW] <;> omega)) only [q2, wW, wV, simprocAttr]
          exact⟨.inr trivial,_,rfl,by rw[QkU (at0 e2 (by rw[if_neg (fun h=>h q1)]) q2) q2];rfl⟩
      · simp (disch := first | omega | exact PairsOK.mk rfl | (simp only [lenW] <;> omega)) only [q1, wW, wV, simprocAttr]
        exact⟨.inr trivial,_,rfl,by rw[QkU (at0 e1 (by rw[if_pos q1]) q1) q1];rfl⟩
    · simp (disch := first | omega | exact PairsOK.mk rfl | (simp only [lenW] <;> omega)) only [hlt, wW, wV, simprocAttr]
      refine⟨(),Qbb fun j hj=>hb j (by omega),?_⟩
      refine⟨[(50,.blk 50 0)],rfl,au0,?_,au13⟩
      exact RB.cells rfl rfl gg (RnL.same hnr) RB.nil
  rintro _ hz2
  rw[if_neg (fun h=>h hz2)]
  simp(disch:=first|omega|exact PairsOK.mk rfl|(simp only[lenW]<;>omega)) only[wW,wV,simprocAttr]
  refine Qa3 300 (fun i:Nat=>[(1,.ptr 50 0 0),(67,cosZ ks),(68,.int .i64 ks.length),(69,.int .i64 i)]) (fun _=>[(50,.cells 0 (cdK S xs ks))]) (fun i=>i<=ks.length/\∀j,j<i->ksE S ks j=0) (fun i=>ks.length-i) 0 ⟨[(50,.blk 50 0)],rfl,au0,?_,au13⟩ ⟨Nat.zero_le _,fun j hj=>absurd hj (Nat.not_lt_zero _)⟩ ?_
  · exact RB.cells rfl rfl gg (RnL.same hnr) RB.nil
  rintro i ⟨hi,hb⟩
  by_cases hlt:i<ks.length
  · obtain ⟨x, hx⟩ := Qas hlt
    have hxm:=List.mem_of_getElem? hx
    have hdr:=Qff hx
    have hdl:3<=((ks.flatMap coZ).drop (i*3)).length:=by rw[hdr];simp
    have hN:=name137 x.1 (sli S) (exsZ xs) ks i (by omega) (by omega) (hkl x hxm).1 hnr
    have hE:=cons105X S xs ks x (hkl x hxm).2
    have ke:=Ql9 (S:=S) hx
    have at0:∀e:Int,ksE S ks i=e->e≠0->fe (ksE S ks) ks.length=e:=fun e h h0=>fe_at h h0 hb hlt
    have up:ksE S ks i=0->∀j,j<i+1->ksE S ks j=0:=fe_up hb
    rw[ke]at at0 up
    clear ke
    generalize nmErr x.1 ((ks.take i).map (·.1))=e1 at*
    generalize coErr S x.2.1 x.2.2=e2 at*
    have hex:coZ x=[.str x.1,prs x.2.1,.int .i64 x.2.2]:=rfl
    rw[hex]at hE
    simp(disch:=first|omega|exact PairsOK.mk rfl|(simp only[lenW]<;>omega)) only[hlt,hdr,hdl,wW,wV,simprocAttr]
    refine SU.chc (HSpec.lend (FrzL.cons (FrzTo.same _) (FrzL.cons (FrzTo.fn FrzL.nil (FrzL.cons (FrzTo.ptr (g:=0) (cs:=cdK S xs ks) gg (FrzL.same _)) (FrzL.cons (FrzTo.ptr (g:=0) (cs:=[.int .i64 (i:Int)]) gg (FrzL.same _)) FrzL.nil))) FrzL.nil)) hN rfl) ?_
    by_cases q1:e1=0
    · simp (disch := first | omega | exact PairsOK.mk rfl | (simp only [lenW] <;> omega)) only [q1, wW, wV, simprocAttr]
      refine cp hE ?_
      by_cases q2:e2=0
      · simp (disch := first | omega | exact PairsOK.mk rfl | (simp only [lenW] <;> omega)) only [q2, wW, wV, simprocAttr]
        refine⟨i+1,by omega,⟨by omega,up (by rw[if_neg (fun h=>h q1)];exact q2)⟩,?_⟩
        refine⟨[(50,.blk 50 0)],rfl,au0,?_,au13⟩
        exact RB.cells rfl rfl gg (RnL.same hnr) RB.nil
      · simp (disch := first | omega | exact PairsOK.mk rfl | (simp only [lenW] <;> omega)) only [q2, wW, wV, simprocAttr]
        exact⟨.inr trivial,_,rfl,by rw[QkV (at0 e2 (by rw[if_neg (fun h=>h q1)]) q2) q2];rfl⟩
    · simp (disch := first | omega | exact PairsOK.mk rfl | (simp only [lenW] <;> omega)) only [q1, wW, wV, simprocAttr]
      exact⟨.inr trivial,_,rfl,by rw[QkV (at0 e1 (by rw[if_pos q1]) q1) q1];rfl⟩
  · simp (disch := first | omega | exact PairsOK.mk rfl | (simp only [lenW] <;> omega)) only [hlt, wW, wV, simprocAttr]
    exact⟨.inr trivial,_,rfl,by rw[Qbb fun j hj=>hb j (by omega)];rfl⟩
end Go.AM.SO
namespace Go.AM.SO
open Go.Proofs Go.AM.SD Go.AM.SE
theorem Qeh {m:Nat} {π:Nat->Option Src} {h:Heap}:RnM m π h (mapS yes []) []:=trivial
end Go.AM.SO
namespace Go.AM.SO
open Go.Proofs Go.AM.SD Go.AM.SE
def uZ (l:List Itn):List Nat:=l.foldl (fun out x=>mrg (fun a b=>a||b) out (natA x.2).al) []
theorem QkW:∀{l:List Itn} {out:List Nat},out.Pairwise (· < ·)->(∀e∈out,e<32)->(∀x∈l,(natA x.2).al.Pairwise (· < ·)/\∀e∈(natA x.2).al,e<32)->
  (l.foldl (fun out x=>mrg (fun a b=>a||b) out (natA x.2).al) out).Pairwise (· < ·)/\∀e∈l.foldl (fun out x=>mrg (fun a b=>a||b) out (natA x.2).al) out,e<32
 |[],out,h,h2,_=>⟨h,h2⟩
 |x::l,out,h,h2,hl=>by
  obtain⟨hx,hx2⟩:=hl x (by simp)
  rw[List.foldl_cons]
  refine QkW (QbD h hx) (fun e he=>?_) fun y hy=>hl y (by simp[hy])
  rw[Qbh h hx]at he
  obtain⟨h1,_⟩:=he
  simp only[Bool.or_eq_true,decide_eq_true_eq]at h1
  rcases h1 with h1|h1
  ·exact h2 e h1
  ·exact hx2 e h1
theorem Qma {l:List Itn} (h:∀x∈l,(natA x.2).al.Pairwise (· < ·)/\∀e∈(natA x.2).al,e<32):(uZ l).length<=32:=by
 obtain⟨h1,h2⟩:=QkW (l:=l) (out:=[]) (by simp) (by simp) h
 exact Qbp h1 h2
theorem QlT {l:List Itn} {i:Nat} {x:Itn} (h:l[i]?=some x):uZ (l.take (i+1))=mrg (fun a b=>a||b) (uZ (l.take i)) (natA x.2).al:=by
 unfold uZ
 rw[take_succ' h,List.foldl_append];rfl
theorem Qd7 {E:Int} {B:List Nat} {N:List (List UInt8)} {x:Itn} (hx:ItOk x) (h:itEr E B N x=0):itNs N x=N++[x.1]/\au (natA x.2)=x.2/\WfA (natA x.2):=by
 cases ho:nmOk x.1 with
 |false=>rw[(QkR ho).1]at h;cases h
 | true =>
  by_cases hm:x.1∈N
  ·rw[(QkS ho hm).1]at h;cases h
  ·obtain ⟨h1, h2⟩ := QkT (E := E) (B := B) ho hm
   rw[h1]at h
   unfold itE2 at h
   split at h
   ·rename_i q;exact absurd h q
   ·rename_i q
    exact⟨h2,Qfd (by simpa using q) hx.n⟩
abbrev nmZ (l:List Itn):List (List UInt8):=l.map (·.1)
theorem Qie {l:List Itn} {i:Nat} {x:Itn} (h:l[i]?=some x):nmZ (l.take (i+1))=nmZ (l.take i)++[x.1]:=by
 unfold nmZ;rw[take_succ' h,List.map_append];rfl
def it0:Itn:=([],⟨[],0,[],[]⟩)
def csE (c:CelN) (i:Nat):Int:=itEr c.ev.length (List.range c.ev.length) (nmZ (c.cs.take i)) (c.cs.getD i it0)
def rsE (c:CelN) (i:Nat):Int:=itEr c.ev.length (uZ c.cs) (nmZ c.cs++nmZ (c.rs.take i)) (c.rs.getD i it0)
def celErr (c:CelN):Int:=
 if evErr c.ev≠0 then evErr c.ev else if c.cs.length=0 then 12 else if 8<c.cs.length\/12<c.cs.length+c.rs.length then 3
 else if fe (csE c) c.cs.length≠0 then fe (csE c) c.cs.length else if fe (rsE c) c.rs.length≠0 then fe (rsE c) c.rs.length else cdErr (szZ c) c.xs c.ks
structure CelOk (c:CelN):Prop where
 el:c.ev.length<=9223372036854775807
 en:∀x∈c.ev,x.nm.length<=9223372036854775807
 cl:c.cs.length<=1000
 rl:c.rs.length<=1000
 xl:c.xs.length<=1000
 kl:c.ks.length<=1000
 ci:∀x∈c.cs,ItOk x
 ri:∀x∈c.rs,ItOk x
 xi:∀x∈c.xs,x.1.length<=9223372036854775807/\x.2.length<=8796093021952
 ki:∀x∈c.ks,x.1.length<=9223372036854775807/\x.2.1.length<=8796093021952
theorem QkX {l:List Evn} (h:evErr l=0):l.length<=32:=by
 unfold evErr at h
 split at h
 ·cases h
 ·omega
theorem check21X (c : CelN) (h : CelOk c) : PSpec Tryz.prog 21 [celZ c] (.int .i64 (celErr c)) := by
  have hnr:=QaC c
  refine PSpec.Qak 64 ok21 rfl (by rw[noRefs,celZ,noRef,hnr];rfl) rfl ?_
  have hE:=check82X c.ev h.el h.en
  have h3:=h.cl
  have h2:=h.rl
  have hdL:=conds85X c h.cl h.xl h.kl (fun x hx=>(h.xi x hx).2) (fun x hx=>(h.ki x hx).2)
  have hdC:=conds32X (szZ c) c.xs c.ks (by simp[szZ];omega) h.xl h.kl h.xi h.ki
  unfold celErr
  by_cases z0:¬evErr c.ev=0
  · simp (disch := first | omega | exact PairsOK.mk rfl | (simp only [lenW] <;> omega)) only [s21, wW, wV, simprocAttr]
    refine cp hE ?_
    simp(disch:=first|omega|exact PairsOK.mk rfl|(simp only[lenW]<;>omega)) only[z0,wW,wV,simprocAttr]
    exact⟨.inr trivial,_,rfl,rfl⟩
  replace z0:evErr c.ev=0:=Decidable.not_not.1 z0
  rw[z0]at hE
  have hE32:=QkX z0
  rw[if_neg (fun h=>h z0)]
  by_cases z1:c.cs.length=0
  · have g1 : (c.cs.length : Int) = 0 := by omega
    simp(disch:=first|omega|exact PairsOK.mk rfl|(simp only[lenW]<;>omega)) only[s21,wW,wV,simprocAttr]
    refine cp hE ?_
    simp(disch:=first|omega|exact PairsOK.mk rfl|(simp only[lenW]<;>omega)) only[g1,wW,wV,simprocAttr]
    exact⟨.inr trivial,_,rfl,by rw[if_pos z1];rfl⟩
  have g1:¬(c.cs.length:Int)=0:=by omega
  rw[if_neg z1]
  by_cases z2:8<c.cs.length
  · have g2 : (8 : Int) < (c.cs.length : Int) := by omega
    simp(disch:=first|omega|exact PairsOK.mk rfl|(simp only[lenW]<;>omega)) only[s21,wW,wV,simprocAttr]
    refine cp hE ?_
    simp(disch:=first|omega|exact PairsOK.mk rfl|(simp only[lenW]<;>omega)) only[g1,g2,wW,wV,simprocAttr]
    exact⟨.inr trivial,_,rfl,by rw[if_pos (.inl z2)];rfl⟩
  have g2:¬(8:Int)<(c.cs.length:Int):=by omega
  by_cases z3:12<c.cs.length+c.rs.length
  · have g3 : (12 : Int) < (c.cs.length : Int) + (c.rs.length : Int) := by omega
    simp(disch:=first|omega|exact PairsOK.mk rfl|(simp only[lenW]<;>omega)) only[s21,wW,wV,simprocAttr]
    refine cp hE ?_
    simp(disch:=first|omega|exact PairsOK.mk rfl|(simp only[lenW]<;>omega)) only[g1,g2,g3,wW,wV,simprocAttr]
    exact⟨.inr trivial,_,rfl,by rw[if_pos (.inr z3)];rfl⟩
  have g3:¬(12:Int)<(c.cs.length:Int)+(c.rs.length:Int):=by omega
  rw[if_neg (by omega)]
  simp(disch:=first|omega|exact PairsOK.mk rfl|(simp only[lenW]<;>omega)) only[s21,wW,wV,simprocAttr]
  refine cp hE ?_
  simp(disch:=first|omega|exact PairsOK.mk rfl|(simp only[lenW]<;>omega)) only[g1,g2,g3,wW,wV,simprocAttr]
  refine QaF 140 (fun i:Nat=>[(1,.ptr 50 0 0),(5,.map 68 0),(6,.sl 76 0 0 i 1),(7,.nilsl),(41,.int .i64 c.ev.length),(42,.int .i64 i)]) (fun i=>[(50,.cells 0 [evns c.ev,itsV c.cs,itsV c.rs,exsZ c.xs,cosZ c.ks]),(68,nmsB []),(76,.cells 0 (ints (nz (List.range i))))]) (fun i=>i<=c.ev.length) (fun i=>c.ev.length-i) 0 1 180
    (fun _:Unit=>[(1,.ptr 50 0 0),(5,.map 68 0),(6,sliN (List.range c.ev.length)),(7,sliN [])]) (fun _=>[(50,.cells 0 [evns c.ev,itsV c.cs,itsV c.rs,exsZ c.xs,cosZ c.ks]),(68,nmsB [])]) (fun _=>True) ?_ (Nat.zero_le _) ?_ ?_
  · refine ⟨[(50, .blk 64 0), (68, .blk 90 0), (76, .nil)], rfl, au0, ?_, au11⟩
    exact RB.cells rfl rfl gg (RnL.same hnr) (RB.map rfl rfl gg Qeh (RB.newnil rfl rfl RB.nil))
  · rintro i hi
    by_cases hlt:i<c.ev.length
    · have hrl : (ints (nz (List.range i))).length = i := by simp [ints]
      simp(disch:=first|omega|exact PairsOK.mk rfl|(simp only[lenW]<;>omega)) only[hlt,List.length_range,hrl,wW,wV,simprocAttr]
      refine⟨i+1,by omega,by omega,?_⟩
      rw[List.range_succ,Qbe,QaS]
      refine⟨[(50,.blk 50 0),(68,.blk 68 0),(76,.blk 76 1)],rfl,au0,?_,au11⟩
      exact RB.cells rfl rfl gg (RnL.same hnr) (RB.map rfl rfl gg Qeh (RB.cells rfl rfl gg (RnL.same (SU.Qcp (Qab _) rfl)) RB.nil))
    · have e : i = c.ev.length := by omega
      subst e
      simp(disch:=first|omega|exact PairsOK.mk rfl|(simp only[lenW]<;>omega)) only[hlt,wW,wV,simprocAttr]
      refine⟨(),[(50,.blk 50 0),(68,.blk 68 0)],rfl,RO.zero,?_,?_⟩
      · exact RB.cells rfl rfl gg (RnL.same hnr) (RB.map rfl rfl gg Qeh RB.nil)
      · exact RT.cons (Rn.x2 rfl rfl) (RT.cons (Rn.x3 rfl rfl) (RT.cons (Rn.fzm (b:=76) (g:=0) gg rfl rfl (by simp) (by simp[ints]) (RnL.same (Qab _))) (RT.cons Rn.nilK RT.nil)))
  rintro _ _
  simp(disch:=first|omega|exact PairsOK.mk rfl|(simp only[lenW]<;>omega)) only[wW,wV,simprocAttr]
  have hcsi:∀i,(∀j,j<i->csE c j=0)->∀x∈c.cs.take i,au (natA x.2)=x.2/\WfA (natA x.2):=fun i hb x hx=>by
    obtain⟨j,hj,rfl⟩:=List.getElem_of_mem hx
    rw[List.length_take]at hj
    have hjc:c.cs[j]?=some (c.cs.take i)[j]:=by rw[List.getElem_take];exact List.getElem?_eq_getElem (by omega)
    have h1:=hb j (by omega)
    unfold csE at h1
    rw[QaB hjc]at h1
    exact(Qd7 (h.ci _ (List.mem_of_getElem? hjc)) h1).2
  have hU:∀i,(∀j,j<i->csE c j=0)->(uZ (c.cs.take i)).length<=32:=fun i hb=>Qma fun x hx=>⟨(hcsi i hb x hx).2.al,(hcsi i hb x hx).2.al5⟩
  refine QaF 240 (fun i:Nat=>[(1,.ptr 50 0 0),(5,.map 68 0),(6,sliN (List.range c.ev.length)),(7,sliN (uZ (c.cs.take i))),(51,itsV c.cs),(52,.int .i64 c.cs.length),(53,.int .i64 i)]) (fun i=>[(50,.cells 0 [evns c.ev,itsV c.cs,itsV c.rs,exsZ c.xs,cosZ c.ks]),(68,nmsB (nmZ (c.cs.take i)))]) (fun i=>i<=c.cs.length/\∀j,j<i->csE c j=0) (fun i=>c.cs.length-i) 0 3 280
    (fun _:Unit=>[(1,.ptr 50 0 0),(5,.map 68 0),(7,sliN (uZ c.cs))]) (fun _=>[(50,.cells 0 [evns c.ev,itsV c.cs,itsV c.rs,exsZ c.xs,cosZ c.ks]),(68,nmsB (nmZ c.cs))]) (fun _=>∀j,j<c.cs.length->csE c j=0) ?_ ⟨Nat.zero_le _,fun j hj=>absurd hj (Nat.not_lt_zero _)⟩ ?_ ?_
  · refine ⟨[(50, .blk 50 0), (68, .blk 68 0)], rfl, au0, ?_, au11⟩
    exact RB.cells rfl rfl gg (RnL.same hnr) (RB.map rfl rfl gg Qeh RB.nil)
  · rintro i ⟨hi, hb⟩
    by_cases hlt:i<c.cs.length
    · obtain ⟨x, hx⟩ := Qas hlt
      have hxm:=List.mem_of_getElem? hx
      have hdr:=Qdx hx
      have hdl:5<=((c.cs.flatMap itV).drop (i*5)).length:=by rw[hdr];simp
      have hnl:(nmZ (c.cs.take i)).length<=100:=by simp[nmZ];omega
      have ke:csE c i=itEr c.ev.length (List.range c.ev.length) (nmZ (c.cs.take i)) x:=by unfold csE;rw[QaB hx]
      have hI:=fun{hh:Heap} (h68:hh.get 68=some (nmsB (nmZ (c.cs.take i))))=>item83XF x c.ev.length (List.range c.ev.length) (nmZ (c.cs.take i)) (h.ci x hxm) hnl (by simp;omega) h68
      rw[<-ke]at hI
      by_cases q:csE c i=0
      · obtain ⟨k1, k2, k3⟩ := Qd7 (h.ci x hxm) (ke ▸ q)
        rw[k1,q]at hI
        have hns:=Qie hx
        have hUi:=hU i hb
        have hal:=Qbp k3.al k3.al5
        have hUn:=union84 (uZ (c.cs.take i)) (natA x.2).al (by omega) (by omega)
        rw[<-QlT hx]at hUn
        have eal:sli x.2.al=sliN (natA x.2).al:=by rw[<-Qdc];exact congrArg (fun b=>sli b.al) k2.symm
        rw[<-eal]at hUn
        simp(disch:=first|omega|exact PairsOK.mk rfl|(simp only[lenW]<;>omega)) only[hlt,hdr,hdl,wW,wV,simprocAttr]
        refine SU.chc (hI gg) ?_
        simp(disch:=first|omega|exact PairsOK.mk rfl|(simp only[lenW]<;>omega)) only[wW,wV,simprocAttr]
        refine cp hUn ?_
        simp(disch:=first|omega|exact PairsOK.mk rfl|(simp only[lenW]<;>omega)) only[wW,wV,simprocAttr]
        refine⟨i+1,by omega,⟨by omega,fe_up hb q⟩,?_⟩
        rw[hns]
        refine⟨[(50,.blk 50 0),(68,.blk 68 0)],rfl,au0,?_,au11⟩
        exact RB.cells rfl rfl gg (RnL.same hnr) (RB.map rfl rfl gg (RnM.mapS fun _ _=>Rn.same rfl) RB.nil)
      · have hfe := fe_at (f := csE c) rfl q hb hlt
        simp(disch:=first|omega|exact PairsOK.mk rfl|(simp only[lenW]<;>omega)) only[hlt,hdr,hdl,wW,wV,simprocAttr]
        refine SU.chc (hI gg) ?_
        simp(disch:=first|omega|exact PairsOK.mk rfl|(simp only[lenW]<;>omega)) only[q,wW,wV,simprocAttr]
        exact⟨.inr trivial,_,rfl,by rw[hfe,if_pos q];rfl⟩
    · have e : i = c.cs.length := by omega
      subst e
      simp(disch:=first|omega|exact PairsOK.mk rfl|(simp only[lenW]<;>omega)) only[hlt,List.take_length,wW,wV,simprocAttr]
      refine⟨(),hb,?_⟩
      refine⟨[(50,.blk 50 0),(68,.blk 68 0)],rfl,au0,?_,au11⟩
      exact RB.cells rfl rfl gg (RnL.same hnr) (RB.map rfl rfl gg (RnM.mapS fun _ _=>Rn.same rfl) RB.nil)
  rintro _ hbc
  rw[if_neg (fun h=>h (Qbb hbc))]
  have hUc:(uZ c.cs).length<=32:=by
    have:=hU c.cs.length hbc
    rwa [List.take_length]at this
  simp(disch:=first|omega|exact PairsOK.mk rfl|(simp only[lenW]<;>omega)) only[wW,wV,simprocAttr]
  refine QaF 340 (fun i:Nat=>[(1,.ptr 50 0 0),(5,.map 68 0),(7,sliN (uZ c.cs)),(74,itsV c.rs),(75,.int .i64 c.rs.length),(76,.int .i64 i)]) (fun i=>[(50,.cells 0 [evns c.ev,itsV c.cs,itsV c.rs,exsZ c.xs,cosZ c.ks]),(68,nmsB (nmZ c.cs++nmZ (c.rs.take i)))]) (fun i=>i<=c.rs.length/\∀j,j<i->rsE c j=0) (fun i=>c.rs.length-i) 0 5 380
    (fun _:Unit=>[(1,.ptr 50 0 0)]) (fun _=>[(50,.cells 0 [evns c.ev,itsV c.cs,itsV c.rs,exsZ c.xs,cosZ c.ks])]) (fun _=>fe (rsE c) c.rs.length=0) ?_ ⟨Nat.zero_le _,fun j hj=>absurd hj (Nat.not_lt_zero _)⟩ ?_ ?_
  · rw [show nmZ c.cs ++ nmZ (c.rs.take 0) = nmZ c.cs by simp [nmZ]]
    refine⟨[(50,.blk 50 0),(68,.blk 68 0)],rfl,au0,?_,au11⟩
    exact RB.cells rfl rfl gg (RnL.same hnr) (RB.map rfl rfl gg (RnM.mapS fun _ _=>Rn.same rfl) RB.nil)
  · rintro i ⟨hi, hb⟩
    by_cases hlt:i<c.rs.length
    · obtain ⟨x, hx⟩ := Qas hlt
      have hxm:=List.mem_of_getElem? hx
      have hdr:=Qdx hx
      have hdl:5<=((c.rs.flatMap itV).drop (i*5)).length:=by rw[hdr];simp
      have hnl:(nmZ c.cs++nmZ (c.rs.take i)).length<=100:=by simp[nmZ];omega
      have ke:rsE c i=itEr c.ev.length (uZ c.cs) (nmZ c.cs++nmZ (c.rs.take i)) x:=by unfold rsE;rw[QaB hx]
      have hI:=fun{hh:Heap} (h68:hh.get 68=some (nmsB (nmZ c.cs++nmZ (c.rs.take i))))=>item83XF x c.ev.length (uZ c.cs) (nmZ c.cs++nmZ (c.rs.take i)) (h.ri x hxm) hnl (by omega) h68
      rw[<-ke]at hI
      by_cases q:rsE c i=0
      · obtain ⟨k1, _, _⟩ := Qd7 (h.ri x hxm) (ke ▸ q)
        rw[k1,q]at hI
        have hns:=Qie hx
        simp(disch:=first|omega|exact PairsOK.mk rfl|(simp only[lenW]<;>omega)) only[hlt,hdr,hdl,wW,wV,simprocAttr]
        refine SU.chc (hI gg) ?_
        simp(disch:=first|omega|exact PairsOK.mk rfl|(simp only[lenW]<;>omega)) only[wW,wV,simprocAttr]
        refine⟨i+1,by omega,⟨by omega,fe_up hb q⟩,?_⟩
        rw[hns,<-List.append_assoc]
        refine⟨[(50,.blk 50 0),(68,.blk 68 0)],rfl,au0,?_,au11⟩
        exact RB.cells rfl rfl gg (RnL.same hnr) (RB.map rfl rfl gg (RnM.mapS fun _ _=>Rn.same rfl) RB.nil)
      · have hfe := fe_at (f := rsE c) rfl q hb hlt
        simp(disch:=first|omega|exact PairsOK.mk rfl|(simp only[lenW]<;>omega)) only[hlt,hdr,hdl,wW,wV,simprocAttr]
        refine SU.chc (hI gg) ?_
        simp(disch:=first|omega|exact PairsOK.mk rfl|(simp only[lenW]<;>omega)) only[q,wW,wV,simprocAttr]
        exact⟨.inr trivial,_,rfl,by rw[hfe,if_pos q];rfl⟩
    · simp (disch := first | omega | exact PairsOK.mk rfl | (simp only [lenW] <;> omega)) only [hlt, wW, wV, simprocAttr]
      refine⟨(),Qbb fun j hj=>hb j (by omega),?_⟩
      refine⟨[(50,.blk 50 0)],rfl,au0,?_,au11⟩
      exact RB.cells rfl rfl gg (RnL.same hnr) RB.nil
  rintro _ hbr
  rw[if_neg (fun h=>h hbr)]
  simp(disch:=first|omega|exact PairsOK.mk rfl|(simp only[lenW]<;>omega)) only[wW,wV,simprocAttr]
  refine cp hdL ?_
  simp(disch:=first|omega|exact PairsOK.mk rfl|(simp only[lenW]<;>omega)) only[wW,wV,simprocAttr]
  refine cp hdC ?_
  simp(disch:=first|omega|exact PairsOK.mk rfl|(simp only[lenW]<;>omega)) only[wW,wV,simprocAttr]
  exact⟨.inr trivial,_,rfl,rfl⟩
end Go.AM.SO
namespace Go.AM.SO
open Go.Proofs Go.AM.SD Go.AM.SE
structure CelR (c:CelN):Prop where
 el:c.ev.length<=9223372036854775807
 en:∀x∈c.ev,x.nm.length<=9223372036854775807
 cl:c.cs.length<=9223372036854775807
 rl:c.rs.length<=9223372036854775807
 xl:c.xs.length<=9223372036854775807
 kl:c.ks.length<=9223372036854775807
 ci:∀x∈c.cs++c.rs,x.1.length<=9223372036854775807/\x.2.al.length<=9223372036854775807/\x.2.ms.length<=9223372036854775807/\x.2.es.length<=9223372036854775807
 xi:∀x∈c.xs,x.1.length<=9223372036854775807/\x.2.length<=8796093021952
 ki:∀x∈c.ks,x.1.length<=9223372036854775807/\x.2.1.length<=8796093021952
theorem CelR.ok {c:CelN} (h:CelR c) (h1:c.cs.length<=4) (h2:c.rs.length<=4) (h3:c.xs.length<=4) (h4:c.ks.length<=4) (hi:∀x∈c.cs++c.rs,x.2.n<=4/\x.2.es.length<=12):CelOk c:=by
 have hI:∀x∈c.cs++c.rs,ItOk x:=fun x hx=>by
  obtain⟨a1,a2,a3,a4⟩:=h.ci x hx
  obtain⟨b1,b2⟩:=hi x hx
  exact⟨a1,a2,a3,by omega,by omega⟩
 exact⟨h.el,h.en,by omega,by omega,by omega,by omega,fun x hx=>hI x (List.mem_append_left _ hx),fun x hx=>hI x (List.mem_append_right _ hx),h.xi,h.ki⟩
end Go.AM.SO
namespace Go.AM.SO
open Go.Proofs Go.AM.SD Go.AM.SE
abbrev tyI:Ty:= .int .i64
abbrev tyEv:Ty:= .st (.pair .str (.pair .bool (.pair .bool (.pair .bool (.pair tyI .unit)))))
abbrev tyEg:Ty:= .st (.pair tyI (.pair tyI (.pair tyI .unit)))
abbrev tyAu:Ty:= .st (.pair (.sl tyI) (.pair tyI (.pair (.sl tyI) (.pair (.sl tyEg) .unit))))
abbrev tyIt:Ty:= .st (.pair .str (.pair tyAu .unit))
abbrev tyPr:Ty:= .st (.pair tyI (.pair tyI .unit))
abbrev tyEx:Ty:= .st (.pair .str (.pair (.sl tyPr) .unit))
abbrev tyCo:Ty:= .st (.pair .str (.pair (.sl tyPr) (.pair tyI .unit)))
abbrev tyCel:Ty:= .st (.pair (.sl tyEv) (.pair (.sl tyIt) (.pair (.sl tyIt) (.pair (.sl tyEx) (.pair (.sl tyCo) .unit)))))
def inEv (d:tyEv.D):Evn:=⟨d.1,d.2.1,d.2.2.1,d.2.2.2.1,d.2.2.2.2.1⟩
def inEg (d:tyEg.D):Eg:=⟨d.1,d.2.1,d.2.2.1⟩
def inAu (d:tyAu.D):Au:=⟨d.1,d.2.1,d.2.2.1,(show List tyEg.D from d.2.2.2.1).map inEg⟩
def inIt (d:tyIt.D):Itn:=(d.1,inAu d.2.1)
def inPr (d:tyPr.D):Int×Int:=(d.1,d.2.1)
def inEx (d:tyEx.D):Exn:=(d.1,(show List tyPr.D from d.2.1).map inPr)
def inCo (d:tyCo.D):Con:=(d.1,(show List tyPr.D from d.2.1).map inPr,d.2.2.1)
def inCel (d:tyCel.D):CelN:=⟨(show List tyEv.D from d.1).map inEv,(show List tyIt.D from d.2.1).map inIt,(show List tyIt.D from d.2.2.1).map inIt,(show List tyEx.D from d.2.2.2.1).map inEx,(show List tyCo.D from d.2.2.2.2.1).map inCo⟩
theorem rowV {t:Ty} {α:Type} {f:t.D->α} {g:α->List AV} (h:∀x,t.cells x=g (f x)) (l:List t.D):l.flatMap t.cells=(l.map f).flatMap g:=by
 rw[List.flatMap_map]
 have:t.cells=fun x=>g (f x):=funext h
 rw[this]
theorem slV {t:Ty} {α:Type} {f:t.D->α} {g:α->List AV} (h:∀x,t.cells x=g (f x)) (l:List t.D):Ty.cells (.sl t) l=[.fsl ((l.map f).flatMap g) (l.map f).length t.sz]:=by
 show[AV.fsl (l.flatMap t.cells) l.length t.sz]=_
 rw[rowV h,List.length_map]
theorem slI (l:List Int):Ty.cells (.sl tyI) l=[sli l]:=by
 show[AV.fsl (l.flatMap fun n=>[.int .i64 n]) l.length 1]=_
 have:(l.flatMap fun n=>[AV.int .i64 n])=ints l:=by
  induction l with
  |nil=>rfl
  |cons x l ih=>rw[List.flatMap_cons,ih];rfl
 rw[this]
theorem cAu (d:tyAu.D):tyAu.cells d=[sli (inAu d).al,.int .i64 (inAu d).n,sli (inAu d).ms,egs (inAu d).es]:=by
 show Ty.cells (.sl tyI) d.1++([.int .i64 d.2.1]++(Ty.cells (.sl tyI) d.2.2.1++(Ty.cells (.sl tyEg) d.2.2.2.1++[])))=_
 rw[slI,slI,slV (t:=tyEg) (f:=inEg) (g:=egC) (fun _=>rfl)]
 rfl
theorem cIt (d:tyIt.D):tyIt.cells d=itV (inIt d):=by
 show[AV.str d.1]++(tyAu.cells d.2.1++[])=_
 rw[cAu];rfl
theorem cPr (d:tyPr.D):tyPr.cells d=prZ (inPr d):=rfl
theorem cEx (d:tyEx.D):tyEx.cells d=exZ (inEx d):=by
 show[AV.str d.1]++(Ty.cells (.sl tyPr) d.2.1++[])=_
 rw[slV (t:=tyPr) (f:=inPr) (g:=prZ) cPr];rfl
theorem cCo (d:tyCo.D):tyCo.cells d=coZ (inCo d):=by
 show[AV.str d.1]++(Ty.cells (.sl tyPr) d.2.1++([.int .i64 d.2.2.1]++[]))=_
 rw[slV (t:=tyPr) (f:=inPr) (g:=prZ) cPr];rfl
theorem cCel (d:tyCel.D):tyCel.val d=celZ (inCel d):=by
 show AV.agg (Ty.cells (.sl tyEv) d.1++(Ty.cells (.sl tyIt) d.2.1++(Ty.cells (.sl tyIt) d.2.2.1++(Ty.cells (.sl tyEx) d.2.2.2.1++(Ty.cells (.sl tyCo) d.2.2.2.2.1++[])))))=_
 rw[slV (t:=tyEv) (f:=inEv) (g:=evnC) (fun _=>rfl),slV (t:=tyIt) (f:=inIt) (g:=itV) cIt,slV (t:=tyIt) (f:=inIt) (g:=itV) cIt,slV (t:=tyEx) (f:=inEx) (g:=exZ) cEx,slV (t:=tyCo) (f:=inCo) (g:=coZ) cCo]
 rfl
theorem Qjk {ts:List TypeId} {u b:Nat} (h:(eltT Tryz.prog ts==[u]&&Tryz.prog.bytesOf u==b)=true) {n:Nat} (hn:∀e∈eltT Tryz.prog ts,n*Tryz.prog.bytesOf e<=reachBytes):n*b<=140737488351232:=by
 simp only[Bool.and_eq_true,beq_iff_eq]at h
 have:=hn u (by rw[h.1];simp)
 rw[h.2]at this
 exact this
theorem Qmc {d:tyCel.D} (h:tyCel.wf d) (hz:tyCel.sized Tryz.prog [28] d):CelR (inCel d):=by
 obtain⟨⟨e1,e2⟩,⟨c1,c2⟩,⟨r1,r2⟩,⟨x1,x2⟩,⟨k1,k2⟩,_⟩:=h
 obtain⟨_,_,_,⟨_,zx⟩,⟨_,zk⟩,_⟩:=hz
 have it:∀x:tyIt.D,tyIt.wf x->(inIt x).1.length<=9223372036854775807/\(inIt x).2.al.length<=9223372036854775807/\(inIt x).2.ms.length<=9223372036854775807/\(inIt x).2.es.length<=9223372036854775807:=fun x hx=>by
  obtain⟨n1,⟨a1,a2,a3,a4,_⟩,_⟩:=hx
  exact⟨n1,a1.1,a3.1,by show(List.map _ _).length<=_;rw[List.length_map];exact a4.1⟩
 refine⟨?_,fun x hx=>?_,?_,?_,?_,?_,fun x hx=>?_,fun x hx=>?_,fun x hx=>?_⟩
 ·show(List.map _ _).length<=_;rw[List.length_map];exact e1
 ·obtain ⟨y, hy, rfl⟩ := List.mem_map.1 hx
  exact(e2 y hy).1
 ·show(List.map _ _).length<=_;rw[List.length_map];exact c1
 ·show(List.map _ _).length<=_;rw[List.length_map];exact r1
 ·show(List.map _ _).length<=_;rw[List.length_map];exact x1
 ·show(List.map _ _).length<=_;rw[List.length_map];exact k1
 ·rcases List.mem_append.1 hx with hx | hx
  ·obtain ⟨y, hy, rfl⟩ := List.mem_map.1 hx
   exact it y (c2 y hy)
  ·obtain ⟨y, hy, rfl⟩ := List.mem_map.1 hx
   exact it y (r2 y hy)
 ·obtain ⟨y, hy, rfl⟩ := List.mem_map.1 hx
  obtain⟨_,⟨zl,_⟩,_⟩:=zx y hy
  have:=Qjk (u:=141) (b:=16) (by kernel_rfl) zl
  refine⟨(x2 y hy).1,?_⟩
  show(List.map inPr y.2.1).length<=_
  rw[List.length_map]
  exact Nat.le_of_mul_le_mul_right (Nat.le_trans this (by decide)) (show 0<16 by decide)
 ·obtain ⟨y, hy, rfl⟩ := List.mem_map.1 hx
  obtain⟨_,⟨zl,_⟩,_⟩:=zk y hy
  have:=Qjk (u:=146) (b:=16) (by kernel_rfl) zl
  refine⟨(k2 y hy).1,?_⟩
  show(List.map inPr y.2.1).length<=_
  rw[List.length_map]
  exact Nat.le_of_mul_le_mul_right (Nat.le_trans this (by decide)) (show 0<16 by decide)
end Go.AM.SO
namespace Go.AM.QC
open Go.Proofs
set_option maxHeartbeats 4000000
noncomputable section
def cf:YA.Cf:={most:= .pure,always:=[87].map fun k=>(k,.heap)}
def s13:SFn:=by
 refine(?f:YA.Yt Tryz.prog cf 13 [[0,2],[21,22,23,24,25,26,27,28,29,30,31,32,33,34,35,36,37,38,39,40,41,42,43,44,45,46,47,48,49,50,51],[1,52,53],[2,52,54,55,56,57,58,59,60],[],[61,62,63],[64,67,68,69,70,71,72,73,74],[1,3,4,82,81,80,79,78,77,75,76,199,197,198,194,192,193,189,188,185,183,184,180,179,176,174,175,173,170,168,169,165,164,161,163,162,160,157,155,156,152,151,148,146,147,145,142,140,141,137,136,135,132,130,131,83],[2,83,65,66],[3,4,82,81,80,79,78,77,75,76,84,85],[86],[1,199,197,198,194,192,193,189,188,185,183,184,180,179,176,174,175,173,170,168,169,165,164,161,163,162,160,157,155,156,152,151,148,146,147,145,142,140,141,137,136,135,132,130,131,5,87],[2,87,89,90,88,91,92],[94,95,93,96,97],[99,100,101,98,102,103],[105,106,104,107,108,109],[111,112,110,113,114],[116,117,115,118,119],[121,122,123,120,124,125,19],[1,199,197,198,194,192,193,189,188,185,183,184,180,179,176,174,175,173,170,168,169,165,164,161,163,162,160,157,155,156,152,151,148,146,147,145,142,140,141,137,136,135,132,130,131,5,6,7,8,9,10,11,12,13,14,15,16,17,18,20,126,127,128,129,133,134,138,139,143,144,149,150,153,154,158,159,166,167,171,172,177,178,181,182,186,187,190,191,195,196,200]] [(16,[(0,2),(0,5),(3,5)])]) ?s ?h
 case h=>exact YA.rr
 exact fun s _=>s
def s30:SFn:=by
 refine(?f:YA.Yt Tryz.prog cf 30 [[0,2,3],[1,4,5,6,7]]) ?s ?h
 case h=>exact YA.rr
 exact fun s _=>s
def s31:SFn:=by
 refine(?f:YA.Yt Tryz.prog cf 31 [[0,4],[1,2,8,9,10,7,11,12,5],[6,13]]) ?s ?h
 case h=>exact YA.rr
 exact fun s _=>s
def s49:SFn:=by
 refine(?f:YA.Yt Tryz.prog cf 49 [[0,2,3],[28,29,27,30,31],[32],[1,4,5,33,34],[2,3,33,36,37,35,38,39,40],[41],[1,4,5,6,7,42,43],[2,3,5,42,44,45,46],[1,4,6,7,47],[2,3,47,49,50,48,51,52,53,9],[54],[1,4,6,7,8,5,55,56],[2,3,5,55],[],[],[60,61,62],[12,63,64,65,66,67],[68],[8,57,58,59,69,70,71,72,73],[1,75,76,77,74,78,79,16],[],[15],[],[83,84,85],[86,87,88,89],[90],[],[94,95,96,97],[98,99,100,101,102],[23,103,104,105,106,107,108,109,110,111,112,113],[22,24,114,115,116,117,118,119,120],[121],[20,21,91,92,93,123,124,125,126,122,127,128],[129],[4,6,7,10,13,14,17,80,81,82,19,25,26,130,131],[2,3,19,25,26,130,132,133,134,135,136,137],[138],[4,6,7,10,13,14,17,80,81,82,139]]) ?s ?h
 case h=>exact YA.rr
 exact fun s _=>s
def s50:SFn:=by
 refine(?f:YA.Yt Tryz.prog cf 50 [[0,1,6,7],[3,11,12,13,14,10,15,16],[17],[2,4,8,9,18,19],[6,7,8,9,18,20,21,22],[2,4,23],[2,4,23,24,25,26]]) ?s ?h
 case h=>exact YA.rr
 exact fun s _=>s
def s51:SFn:=by
 refine(?f:YA.Yt Tryz.prog cf 51 [[0,5,6],[8,9,10],[11],[1,2,12,13,14],[5,12,16,17,15,18,19],[20],[1,2,7,21,22,23],[6,1,2,7,21,25,26,27,28,24,29,30],[31,32]]) ?s ?h
 case h=>exact YA.rr
 exact fun s _=>s
def s52:SFn:=by
 refine(?f:YA.Yt Tryz.prog cf 52 [[0,4,5],[14,15,16,13,17,18],[19],[1,2,6,7,20,21],[4,5,7,20],[1],[],[25,26,27],[29,30,31,32,28,33,34],[35],[2,6,8,22,23,24,10,11,12,36,37],[4,5,10,11,12,36,38,39,40,41,42,43,44,45,46,47,48,49],[50],[2,6,8,22,23,24,51]]) ?s ?h
 case h=>exact YA.rr
 exact fun s _=>s
def s53:SFn:=by
 refine(?f:YA.Yt Tryz.prog cf 53 [[0,4,5],[2,14,15,16,13,17,18],[19],[1,6,7,20,21],[4,5,7,20],[1],[],[25,26,27],[10,29,30,31,32,28,33,34],[35],[6,8,22,23,24,11,12,36,37],[4,5,11,12,36,38,39,40],[41],[6,8,22,23,24,42]]) ?s ?h
 case h=>exact YA.rr
 exact fun s _=>s
def s54:SFn:=by
 refine(?f:YA.Yt Tryz.prog cf 54 [[0,1,5],[2,9,10,11,12,8,13,14],[15],[3,6,7,16,17,18],[3,6,7,16,19,20,21,22,23,24]]) ?s ?h
 case h=>exact YA.rr
 exact fun s _=>s
def s55:SFn:=by
 refine(?f:YA.Yt Tryz.prog cf 55 [[0,4],[19,20,21],[22],[1,2,5,23,24],[4,5,23,26,27,25,28,29,30],[31],[1,2,6,7,8,32,33],[4,8,32,34,35,36],[1,2,6,7,37],[4,37,39,40,38,41,42,43,10],[44],[1,2,6,7,9,8,45,46],[4,2,8,45,48,49,50,51,47,52,53],[7,11,54,55,56,57],[1,6,9,12,58],[4,9,58,59,60,61,62,63],[12],[],[67,68,69],[],[],[73,74,75],[18,76,77,78,79,80,81,82,83,84,85,92,93],[1,6,13,14,64,65,66,98,94,97,95,96,91,90,86,87,89,88,16,70,71,72,99],[4,99,100],[16,70,71,72,101],[1,6,13,14,64,65,66,98,94,97,95,96,91,90,86,87,89,88]]) ?s ?h
 case h=>exact YA.rr
 exact fun s _=>s
def s86:SFn:=by
 refine(?f:YA.Yt Tryz.prog cf 86 [[0,2,3],[9,10],[11],[1,4,12,13],[2,3,1,4,12,14,15],[],[],[],[19,20,21],[8,22,23,24,25,26],[27],[5,6,16,17,18,28],[2,3,28,29],[5,6,16,17,18,30]]) ?s ?h
 case h=>exact YA.rr
 exact fun s _=>s
def s87:SFn:=by
 refine(?f:YA.Yt Tryz.prog cf 87 [[0,4,5],[12,13,11,14,15],[16],[1,2,6,7,17,18],[4,5,7,17],[],[22,23,24,25],[27,28,29,30,37],[1,2,6,19,20,21,59,52,58,57,56,53,55,54,51,36,32,35,34,33,31,9,8,26],[26,39,40,41,42,43,44,45,46],[1,2,6,19,20,21,59,52,58,57,56,53,55,54,51,36,32,35,34,33,31,9,8,38],[8,38,48,49,50,60],[1,2,6,19,20,21,59,52,58,57,56,53,55,54,51,36,32,35,34,33,31,9,47],[4,5,9,47,61,62,63,64],[65],[1,2,6,19,20,21,59,52,58,57,56,53,55,54,51,36,32,35,34,33,31,10,66,67],[4,5,10,66,68],[1,2,6,19,20,21,59,52,58,57,56,53,55,54,51,36,32,35,34,33,31,69]]) ?s ?h
 case h=>exact YA.rr
 exact fun s _=>s
theorem ok13:okFn Tryz.prog 13 s13=true:=by kernel_rfl
theorem ok30:okFn Tryz.prog 30 s30=true:=by kernel_rfl
theorem ok31:okFn Tryz.prog 31 s31=true:=by kernel_rfl
theorem ok49:okFn Tryz.prog 49 s49=true:=by kernel_rfl
theorem ok50:okFn Tryz.prog 50 s50=true:=by kernel_rfl
theorem ok51:okFn Tryz.prog 51 s51=true:=by kernel_rfl
theorem ok52:okFn Tryz.prog 52 s52=true:=by kernel_rfl
theorem ok53:okFn Tryz.prog 53 s53=true:=by kernel_rfl
theorem ok54:okFn Tryz.prog 54 s54=true:=by kernel_rfl
theorem ok55:okFn Tryz.prog 55 s55=true:=by kernel_rfl
theorem ok86:okFn Tryz.prog 86 s86=true:=by kernel_rfl
theorem ok87:okFn Tryz.prog 87 s87=true:=by kernel_rfl
end
end Go.AM.QC
namespace Go.AM.GJ
open Go.Proofs
set_option maxHeartbeats 4000000
noncomputable section
def cf:YA.Cf:={}
noncomputable def ft:FT2:=YA.tre Tryz.prog cf 20 [16,17,21,29,31,36,39,41,46,48,49,52,55,58,59,60,61,62,63,64,73,74,75,76,77,85,86,87,89,90,91,96,97,98,99,100,101,102,103,105,106,107,108,109,112,113,114,115,116,117,118,119,120,121,122,123,124,125,128,129,130,131,132,133,134,135,136,137,138,139,140,142,143,149,150,151,160,161,162,171,174,175,176,177,178,179,180,181,182,183,184,185,186,187,188,189,190,191,192,193,194,196,197,198,199,200,201,202,203,204,205,214,215,216,218,219,223,227,228,229,230,231,232,234,235,238,239,240,241,242,249,250,251,252,253,254,255,256,257,261,262,263,264,267,270,271,272,274,275,276,277,278,279,280,281,282,283,287,288,289,290,291,297,298,299,300,301,302,303,304,305,306,307,308,312,313,314,315,316,317,318,319,320,321]
theorem ft_ok:ft.OK Tryz.prog:=YA.QhN _ _ (YA.QhM (by kernel_rfl))
end
end Go.AM.GJ
namespace Go.AM.GJ
open Go.Proofs
noncomputable section
def isT:AV->Bool| .bool true=>true|_=>false
theorem Qmb:∀u,isT u=true->u= .bool true:=by
 intro u h
 unfold isT at h
 split at h
 ·rfl
 ·cases h
theorem known29:PSpec Tryz.prog 29 [] (.bool true):=
 QgY (t:=ft) ft_ok Qlb (d:=100000) isT Qmb (by kernel_rfl)
end
end Go.AM.GJ
namespace Go.AM.SO
open Go.Proofs Go.AM.SD Go.AM.SE
theorem first86X (c:CelN) (h:CelOk c) (h0:celErr c≠0):PSpec Tryz.prog 86 [celZ c] (.tup [.nilsl,.int .i64 (celErr c)]):=by
 have hnr:=QaC c
 have hC:=check21X c h
 refine PSpec.Qak 64 QC.ok86 rfl (by rw[noRefs,celZ,noRef,hnr];rfl) rfl ?_
 generalize celErr c=e at*
 simp(disch:=first|omega|exact PairsOK.mk rfl|(simp only[lenW]<;>omega)) only[QC.s86,wW,wV,simprocAttr]
 refine cp hC ?_
 simp(disch:=first|omega|exact PairsOK.mk rfl|(simp only[lenW]<;>omega)) only[h0,wW,wV,simprocAttr]
 exact⟨.inr trivial,_,rfl,rfl⟩
theorem vars30X (c:CelN) (h:CelOk c) (h0:celErr c≠0):PSpec Tryz.prog 30 [celZ c] (.tup [.nilsl,.int .i64 (celErr c)]):=by
 have hnr:=QaC c
 have hC:=first86X c h h0
 refine PSpec.Qak 64 QC.ok30 rfl (by rw[noRefs,celZ,noRef,hnr];rfl) rfl ?_
 generalize celErr c=e at*
 simp(disch:=first|omega|exact PairsOK.mk rfl|(simp only[lenW]<;>omega)) only[QC.s30,wW,wV,simprocAttr]
 refine cp hC ?_
 simp(disch:=first|omega|exact PairsOK.mk rfl|(simp only[lenW]<;>omega)) only[h0,wW,wV,simprocAttr]
 exact⟨.inr trivial,_,rfl,rfl⟩
theorem checked87X (c:CelN) (h:CelOk c) (h0:celErr c≠0) (g:AV) (hg:noRef g=true):PSpec Tryz.prog 87 [celZ c,g] (.tup [.nilsl,.int .i64 (celErr c)]):=by
 have hnr:=QaC c
 have hC:=first86X c h h0
 refine PSpec.Qak 64 QC.ok87 rfl (by rw[noRefs,celZ,noRef,hnr,noRefs,hg];rfl) rfl ?_
 generalize celErr c=e at*
 simp(disch:=first|omega|exact PairsOK.mk rfl|(simp only[lenW]<;>omega)) only[QC.s87,wW,wV,simprocAttr]
 refine cp hC ?_
 simp(disch:=first|omega|exact PairsOK.mk rfl|(simp only[lenW]<;>omega)) only[h0,wW,wV,simprocAttr]
 exact⟨.inr trivial,_,rfl,rfl⟩
theorem check31X (c:CelN) (h:CelOk c) (h0:celErr c≠0):PSpec Tryz.prog 31 [celZ c,.nilsl] (.int .i64 (celErr c)):=by
 have hnr:=QaC c
 have hC:=checked87X c h h0 .nilsl rfl
 refine PSpec.Qak 64 QC.ok31 rfl (by rw[noRefs,celZ,noRef,hnr];rfl) rfl ?_
 generalize celErr c=e at*
 simp(disch:=first|omega|exact PairsOK.mk rfl|(simp only[lenW]<;>omega)) only[QC.s31,wW,wV,simprocAttr]
 refine ch (HSpec.lend (FrzL.same _) hC rfl) ?_
 simp(disch:=first|omega|exact PairsOK.mk rfl|(simp only[lenW]<;>omega)) only[h0,wW,wV,simprocAttr]
 exact⟨.inr trivial,_,rfl,rfl⟩
theorem guards49X (c:CelN) (h:CelOk c) (h0:celErr c≠0):PSpec Tryz.prog 49 [celZ c] (.tup [.nilsl,.int .i64 (celErr c)]):=by
 have hnr:=QaC c
 have hC:=first86X c h h0
 refine PSpec.Qak 64 QC.ok49 rfl (by rw[noRefs,celZ,noRef,hnr];rfl) rfl ?_
 generalize celErr c=e at*
 simp(disch:=first|omega|exact PairsOK.mk rfl|(simp only[lenW]<;>omega)) only[QC.s49,wW,wV,simprocAttr]
 refine cp hC ?_
 simp(disch:=first|omega|exact PairsOK.mk rfl|(simp only[lenW]<;>omega)) only[h0,wW,wV,simprocAttr]
 exact⟨.inr trivial,_,rfl,rfl⟩
theorem permits50X (c:CelN) (h:CelOk c) (h0:celErr c≠0):PSpec Tryz.prog 50 [celZ c,.agg [.int .i64 0,.nilsl],.nilsl] (.tup [.bool false,.int .i64 (celErr c)]):=by
 have hnr:=QaC c
 have hC:=checked87X c h h0 (.fsl [.int .i64 0,.nilsl] 1 2) rfl
 refine PSpec.Qak 64 QC.ok50 rfl (by rw[noRefs,celZ,noRef,hnr];rfl) rfl ?_
 generalize celErr c=e at*
 simp(disch:=first|omega|exact PairsOK.mk rfl|(simp only[lenW]<;>omega)) only[QC.s50,wW,wV,simprocAttr]
 refine ch (HSpec.lend (FrzL.cons (FrzTo.same _) (FrzL.cons (FrzTo.all gg rfl) FrzL.nil)) hC rfl) ?_
 simp(disch:=first|omega|exact PairsOK.mk rfl|(simp only[lenW]<;>omega)) only[h0,wW,wV,simprocAttr]
 exact⟨.inr trivial,_,rfl,rfl⟩
theorem loop51X (c:CelN) (h:CelOk c) (h0:celErr c≠0):PSpec Tryz.prog 51 [celZ c,.nilsl] (.tup [.agg [.nilsl,.int .i64 0,.nilsl,.nilsl],.nilsl,.int .i64 (celErr c)]):=by
 have hnr:=QaC c
 have hC:=check31X c h h0
 refine PSpec.Qak 64 QC.ok51 rfl (by rw[noRefs,celZ,noRef,hnr];rfl) rfl ?_
 generalize celErr c=e at*
 simp(disch:=first|omega|exact PairsOK.mk rfl|(simp only[lenW]<;>omega)) only[QC.s51,wW,wV,simprocAttr]
 refine cp hC ?_
 simp(disch:=first|omega|exact PairsOK.mk rfl|(simp only[lenW]<;>omega)) only[h0,wW,wV,simprocAttr]
 exact⟨.inr trivial,_,rfl,rfl⟩
theorem gtext52X (c:CelN) (h:CelOk c) (h0:celErr c≠0):PSpec Tryz.prog 52 [celZ c,.nilsl] (.tup [.str [],.int .i64 (celErr c)]):=by
 have hnr:=QaC c
 have hC:=checked87X c h h0 .nilsl rfl
 refine PSpec.Qak 64 QC.ok52 rfl (by rw[noRefs,celZ,noRef,hnr];rfl) rfl ?_
 generalize celErr c=e at*
 simp(disch:=first|omega|exact PairsOK.mk rfl|(simp only[lenW]<;>omega)) only[QC.s52,wW,wV,simprocAttr]
 refine ch (HSpec.lend (FrzL.same _) hC rfl) ?_
 simp(disch:=first|omega|exact PairsOK.mk rfl|(simp only[lenW]<;>omega)) only[h0,wW,wV,simprocAttr]
 exact⟨.inr trivial,_,rfl,rfl⟩
theorem lits53X (c:CelN) (h:CelOk c) (h0:celErr c≠0):PSpec Tryz.prog 53 [celZ c,.nilsl] (.tup [.int .i64 0,.int .i64 (celErr c)]):=by
 have hnr:=QaC c
 have hC:=checked87X c h h0 .nilsl rfl
 refine PSpec.Qak 64 QC.ok53 rfl (by rw[noRefs,celZ,noRef,hnr];rfl) rfl ?_
 generalize celErr c=e at*
 simp(disch:=first|omega|exact PairsOK.mk rfl|(simp only[lenW]<;>omega)) only[QC.s53,wW,wV,simprocAttr]
 refine ch (HSpec.lend (FrzL.same _) hC rfl) ?_
 simp(disch:=first|omega|exact PairsOK.mk rfl|(simp only[lenW]<;>omega)) only[h0,wW,wV,simprocAttr]
 exact⟨.inr trivial,_,rfl,rfl⟩
theorem expr54X (c:CelN) (h:CelOk c) (h0:celErr c≠0):PSpec Tryz.prog 54 [celZ c,.agg [.int .i64 0,.nilsl]] (.tup [.agg [.int .i64 0,.int .i64 0,.int .i64 0,.nilsl],.int .i64 (celErr c)]):=by
 have hnr:=QaC c
 have hC:=checked87X c h h0 (.fsl [.int .i64 0,.nilsl] 1 2) rfl
 refine PSpec.Qak 64 QC.ok54 rfl (by rw[noRefs,celZ,noRef,hnr];rfl) rfl ?_
 generalize celErr c=e at*
 simp(disch:=first|omega|exact PairsOK.mk rfl|(simp only[lenW]<;>omega)) only[QC.s54,wW,wV,simprocAttr]
 refine ch (HSpec.lend (FrzL.cons (FrzTo.same _) (FrzL.cons (FrzTo.all gg rfl) FrzL.nil)) hC rfl) ?_
 simp(disch:=first|omega|exact PairsOK.mk rfl|(simp only[lenW]<;>omega)) only[h0,wW,wV,simprocAttr]
 exact⟨.inr trivial,_,rfl,rfl⟩
theorem verify55X (c:CelN) (h:CelOk c) (h0:celErr c≠0):PSpec Tryz.prog 55 [celZ c,.nilsl] (.int .i64 (celErr c)):=by
 have hnr:=QaC c
 have hC:=check31X c h h0
 refine PSpec.Qak 64 QC.ok55 rfl (by rw[noRefs,celZ,noRef,hnr];rfl) rfl ?_
 generalize celErr c=e at*
 simp(disch:=first|omega|exact PairsOK.mk rfl|(simp only[lenW]<;>omega)) only[QC.s55,wW,wV,simprocAttr]
 refine cp hC ?_
 simp(disch:=first|omega|exact PairsOK.mk rfl|(simp only[lenW]<;>omega)) only[h0,wW,wV,simprocAttr]
 exact⟨.inr trivial,_,rfl,rfl⟩
theorem glaw13 (c : CelN) (h : CelR c) :
    W2 Tryz.prog ⟨QC.s13.n,0⟩ QC.s13.body (fun e B=>(e= .normal\/e= .ret)/\resV B.T B.h QC.s13.res=some [.bool true]) ⟨argT 0 [celZ c],.e⟩:=by
  refine(wpC.toW (n:=40) (Q:=fun e T h _=>(e= .normal\/e= .ret)/\resV T h QC.s13.res=some [.bool true]) (show wS Tryz.prog ⟨QC.s13.n,0⟩ QC.s13.body [] 40 _ _ _ from ?_)).mono fun e B ⟨_,h⟩=>h
  have hnr:=QaC c
  have hkn:=GJ.known29
  have hA:(4<c.cs.length\/4<c.rs.length\/6<c.ev.length\/4<c.xs.length\/4<c.ks.length)\/¬(4<c.cs.length\/4<c.rs.length\/6<c.ev.length\/4<c.xs.length\/4<c.ks.length):=Decidable.em _
  have hlc:=Qee c.cs
  have hlr:=Qee c.rs
  have hoc:(c.cs.flatMap itV).all AV.one=true:=QcQ (fun _=>rfl) _
  have hor:(c.rs.flatMap itV).all AV.one=true:=QcQ (fun _=>rfl) _
  by_cases a1:(4:Int)<(c.cs.length:Int)
  · simp (disch := first | omega | exact PairsOK.mk rfl | (simp only [lenW] <;> omega)) only [QC.s13, a1, wW, wV, simprocAttr]
    refine cp hkn ?_
    simp(disch:=first|omega|exact PairsOK.mk rfl|(simp only[lenW]<;>omega)) only[a1,wW,wV,simprocAttr]
    refine cp hkn ?_
    simp(disch:=first|omega|exact PairsOK.mk rfl|(simp only[lenW]<;>omega)) only[wW,wV,simprocAttr]
    exact⟨.inr trivial,rfl⟩
  by_cases a2:(4:Int)<(c.rs.length:Int)
  · simp (disch := first | omega | exact PairsOK.mk rfl | (simp only [lenW] <;> omega)) only [QC.s13, a1, a2, wW, wV, simprocAttr]
    refine cp hkn ?_
    simp(disch:=first|omega|exact PairsOK.mk rfl|(simp only[lenW]<;>omega)) only[a1,a2,wW,wV,simprocAttr]
    refine cp hkn ?_
    simp(disch:=first|omega|exact PairsOK.mk rfl|(simp only[lenW]<;>omega)) only[wW,wV,simprocAttr]
    exact⟨.inr trivial,rfl⟩
  by_cases a3:(6:Int)<(c.ev.length:Int)
  · simp (disch := first | omega | exact PairsOK.mk rfl | (simp only [lenW] <;> omega)) only [QC.s13, a1, a2, a3, wW, wV, simprocAttr]
    refine cp hkn ?_
    simp(disch:=first|omega|exact PairsOK.mk rfl|(simp only[lenW]<;>omega)) only[a1,a2,a3,wW,wV,simprocAttr]
    refine cp hkn ?_
    simp(disch:=first|omega|exact PairsOK.mk rfl|(simp only[lenW]<;>omega)) only[wW,wV,simprocAttr]
    exact⟨.inr trivial,rfl⟩
  by_cases a4:(4:Int)<(c.xs.length:Int)
  · simp (disch := first | omega | exact PairsOK.mk rfl | (simp only [lenW] <;> omega)) only [QC.s13, a1, a2, a3, a4, wW, wV, simprocAttr]
    refine cp hkn ?_
    simp(disch:=first|omega|exact PairsOK.mk rfl|(simp only[lenW]<;>omega)) only[a1,a2,a3,a4,wW,wV,simprocAttr]
    refine cp hkn ?_
    simp(disch:=first|omega|exact PairsOK.mk rfl|(simp only[lenW]<;>omega)) only[wW,wV,simprocAttr]
    exact⟨.inr trivial,rfl⟩
  by_cases a5:(4:Int)<(c.ks.length:Int)
  · simp (disch := first | omega | exact PairsOK.mk rfl | (simp only [lenW] <;> omega)) only [QC.s13, a1, a2, a3, a4, a5, wW, wV, simprocAttr]
    refine cp hkn ?_
    simp(disch:=first|omega|exact PairsOK.mk rfl|(simp only[lenW]<;>omega)) only[a1,a2,a3,a4,a5,wW,wV,simprocAttr]
    refine cp hkn ?_
    simp(disch:=first|omega|exact PairsOK.mk rfl|(simp only[lenW]<;>omega)) only[wW,wV,simprocAttr]
    exact⟨.inr trivial,rfl⟩
  simp(disch:=first|omega|exact PairsOK.mk rfl|(simp only[lenW]<;>omega)) only[QC.s13,a1,a2,a3,a4,a5,wW,wV,simprocAttr]
  refine cp hkn ?_
  simp(disch:=first|omega|exact PairsOK.mk rfl|(simp only[lenW]<;>omega)) only[a1,a2,a3,a4,a5,wW,wV,simprocAttr]
  refine QjI [(56,[]),(59,[])] rfl rfl ?_
  simp(disch:=first|omega|exact PairsOK.mk rfl|(simp only[lenW]<;>omega)) only[hoc,hor,hlc,hlr,wW,wV,simprocAttr]
  refine⟨⟨⟨[],rfl,fun b hb=>hb⟩,⟨[],rfl,fun b hb=>hb⟩,trivial⟩,?_⟩
  have hci:=h.ci
  have hLl:(c.cs++c.rs).length=c.cs.length+c.rs.length:=List.length_append
  have hLf:c.cs.flatMap itV++c.rs.flatMap itV=(c.cs++c.rs).flatMap itV:=by rw[List.flatMap_append]
  have hL8:(c.cs++c.rs).length<=8:=by omega
  have hno:=Qdw (c.cs++c.rs)
  have hnl:=QbH (c.cs++c.rs)
  have hok:=fun hi=>check21X c (h.ok (by omega) (by omega) (by omega) (by omega) hi)
  have h30:=fun hi h0=>vars30X c (h.ok (by omega) (by omega) (by omega) (by omega) hi) h0
  have h49:=fun hi h0=>guards49X c (h.ok (by omega) (by omega) (by omega) (by omega) hi) h0
  have h50:=fun hi h0=>permits50X c (h.ok (by omega) (by omega) (by omega) (by omega) hi) h0
  have h51:=fun hi h0=>loop51X c (h.ok (by omega) (by omega) (by omega) (by omega) hi) h0
  have h52:=fun hi h0=>gtext52X c (h.ok (by omega) (by omega) (by omega) (by omega) hi) h0
  have h53:=fun hi h0=>lits53X c (h.ok (by omega) (by omega) (by omega) (by omega) hi) h0
  have h54:=fun hi h0=>expr54X c (h.ok (by omega) (by omega) (by omega) (by omega) hi) h0
  have h31:=fun hi h0=>check31X c (h.ok (by omega) (by omega) (by omega) (by omega) hi) h0
  have h55:=fun hi h0=>verify55X c (h.ok (by omega) (by omega) (by omega) (by omega) hi) h0
  generalize celErr c=e at*
  rw[hLf,<-hLl]
  generalize c.cs++c.rs=L at*
  have hLn:=Qee L
  refine QaF 200 (fun i:Nat=>[(1,.ptr 50 0 0),(3,itsV L),(4,.int .i64 i)]) (fun _=>[(50,.cells 0 [evns c.ev,itsV c.cs,itsV c.rs,exsZ c.xs,cosZ c.ks])]) (fun i=>i<=L.length/\∀(j:Nat) y,j<i->L[j]?=some y->y.2.n<=4/\y.2.es.length<=12) (fun i=>L.length-i) 0 0 300
    (fun _:Unit=>[(1,.ptr 50 0 0)]) (fun _=>[(50,.cells 0 [evns c.ev,itsV c.cs,itsV c.rs,exsZ c.xs,cosZ c.ks])]) (fun _=>∀x∈L,x.2.n<=4/\x.2.es.length<=12) ?_ ⟨Nat.zero_le _,fun j y hj=>absurd hj (Nat.not_lt_zero _)⟩ ?_ ?_
  · refine⟨[(50,.blk 40 0)],rfl,RO.zero,RB.cells rfl rfl gg (RnL.same hnr) RB.nil,RT.cons (Rn.x2 rfl rfl) (RT.cons (Rn.fzm (b:=74) (g:=2) gg rfl rfl rfl hLn (RnL.same hnl)) au11)⟩
  · rintro i ⟨hi, hb⟩
    by_cases hlt:i<L.length
    · obtain ⟨x, hx⟩ := Qas hlt
      have hdr:=Qdx hx
      have hdl:5<=((L.flatMap itV).drop (i*5)).length:=by rw[hdr];simp
      by_cases q1:4<x.2.n
      · simp (disch := first | omega | exact PairsOK.mk rfl | (simp only [lenW] <;> omega)) only [hlt, hdr, hdl, q1, wW, wV, simprocAttr]
        exact⟨.inr trivial,rfl⟩
      by_cases q2:12<(x.2.es.length:Int)
      · simp (disch := first | omega | exact PairsOK.mk rfl | (simp only [lenW] <;> omega)) only [hlt, hdr, hdl, q1, q2, wW, wV, simprocAttr]
        exact⟨.inr trivial,rfl⟩
      simp(disch:=first|omega|exact PairsOK.mk rfl|(simp only[lenW]<;>omega)) only[hlt,hdr,hdl,q1,q2,wW,wV,simprocAttr]
      refine⟨i+1,by omega,⟨by omega,fun j y hj hy=>?_⟩,?_⟩
      · by_cases ej : j = i
        · subst ej;rw[hx]at hy;cases hy;omega
        · exact hb j y (by omega) hy
      · refine⟨[(50,.blk 50 0)],rfl,RO.zero,RB.cells rfl rfl gg (RnL.same hnr) RB.nil,RT.cons (Rn.x2 rfl rfl) (RT.cons (Rn.same hno) au11)⟩
    · simp (disch := first | omega | exact PairsOK.mk rfl | (simp only [lenW] <;> omega)) only [hlt, wW, wV, simprocAttr]
      refine⟨(),fun x hx=>?_,?_⟩
      · obtain ⟨j, hj, rfl⟩ := List.getElem_of_mem hx
        exact hb j _ (by omega) (List.getElem?_eq_getElem hj)
      · exact⟨[(50,.blk 50 0)],rfl,RO.zero,RB.cells rfl rfl gg (RnL.same hnr) RB.nil,RT.cons (Rn.x2 rfl rfl) RT.nil⟩
  rintro _ hall
  have hC:=hok hall
  simp(disch:=first|omega|exact PairsOK.mk rfl|(simp only[lenW]<;>omega)) only[wW,wV,simprocAttr]
  refine cp hC ?_
  by_cases h0:e=0
  · simp (disch := first | omega | exact PairsOK.mk rfl | (simp only [lenW] <;> omega)) only [h0, wW, wV, simprocAttr]
    exact⟨.inr trivial,rfl⟩
  simp(disch:=first|omega|exact PairsOK.mk rfl|(simp only[lenW]<;>omega)) only[h0,wW,wV,simprocAttr]
  refine cp (h30 hall h0) ?_
  simp(disch:=first|omega|exact PairsOK.mk rfl|(simp only[lenW]<;>omega)) only[wW,wV,simprocAttr]
  refine cp (h49 hall h0) ?_
  simp(disch:=first|omega|exact PairsOK.mk rfl|(simp only[lenW]<;>omega)) only[wW,wV,simprocAttr]
  refine cp (h50 hall h0) ?_
  simp(disch:=first|omega|exact PairsOK.mk rfl|(simp only[lenW]<;>omega)) only[wW,wV,simprocAttr]
  refine cp (h51 hall h0) ?_
  simp(disch:=first|omega|exact PairsOK.mk rfl|(simp only[lenW]<;>omega)) only[wW,wV,simprocAttr]
  refine cp (h52 hall h0) ?_
  simp(disch:=first|omega|exact PairsOK.mk rfl|(simp only[lenW]<;>omega)) only[wW,wV,simprocAttr]
  refine cp (h53 hall h0) ?_
  simp(disch:=first|omega|exact PairsOK.mk rfl|(simp only[lenW]<;>omega)) only[wW,wV,simprocAttr]
  refine cp (h54 hall h0) ?_
  simp(disch:=first|omega|exact PairsOK.mk rfl|(simp only[lenW]<;>omega)) only[wW,wV,simprocAttr]
  refine cp (h31 hall h0) ?_
  simp(disch:=first|omega|exact PairsOK.mk rfl|(simp only[lenW]<;>omega)) only[wW,wV,simprocAttr]
  refine cp (h55 hall h0) ?_
  have hs:aBin BinOp.eql (.str []) (.str [])=some (.bool true):=rfl
  simp(disch:=first|omega|exact PairsOK.mk rfl|(simp only[lenW]<;>omega)) only[hs,wW,wV,simprocAttr]
  exact⟨.inr trivial,rfl⟩
theorem okg13:okFn Tryz.prog 13 QC.s13=true:=QC.ok13
theorem glaw13_in (d0:tyCel.D) (h0:tyCel.wf d0) (z0:tyCel.sized Tryz.prog [28] d0):
  W2 Tryz.prog ⟨QC.s13.n,0⟩ QC.s13.body (fun e B=>(e= .normal\/e= .ret)/\resV B.T B.h QC.s13.res=some [.bool true]) ⟨argT 0 [tyCel.val d0],.e⟩:=by
 rw[cCel]
 exact glaw13 _ (Qmc h0 z0)
end Go.AM.SO
