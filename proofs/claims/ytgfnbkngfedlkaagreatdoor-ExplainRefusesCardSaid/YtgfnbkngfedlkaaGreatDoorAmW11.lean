/- A part of the proof of ExplainRefusesCardSaid: lemmas on the way (AnRi, AnRj, AnCyj, AnRk, AnRy, AnGa, AnGm, AnGo, AnRl, AnRn, AnEa, AmTm, AnEb, AnEm). Conditions: none of ours. -/
import Derived.Test.YtgfnbkngfedlkaaGreatDoorProg
import Derived.KernelRfl
import Derived.Test.YtgfnbkngfedlkaaGreatDoorAmW10
set_option linter.unusedSectionVars false
set_option maxHeartbeats 32000000
set_option maxRecDepth 100000
set_option linter.unusedVariables false
set_option linter.unusedSimpArgs false
namespace Go.AM
theorem Rn.yldB {m b g:Nat} {π:Nat->Option Src} {h:Heap} (hm:Nat.ble (b+1) m=true):Rn m π h (.yld b g) (.yld b g):=fun _ c w v _ _ hv=>by
 have e:(nctx m π h c).ρ b g=c.ρ b g:=Qbd (Nat.le_of_ble_eq_true hm)
 simp only[VRel]at hv⊢
 rw[e];exact hv
theorem RB.loopB {m b g N:Nat} {π:Nat->Option Src} {h:Heap} {T:Tmps} {ps:List Nat} {asg body:LCode} {st:LSt} {r:HL} (hm:Nat.blt b m=true) (hg:h.get b=some (.loop g N T ps asg body st)) (hT:RT m π h T T) (hr:RB m π h r):RB m π h ((b,.loop g N T ps asg body st)::r):=
 ⟨.inl ⟨by simpa using hm,T,hg,hT⟩,hr⟩
end Go.AM
namespace Go.AM.SO
open Go.Proofs Go.AM.SD Go.AM.SE
abbrev nlA:SCode:=(.region [Zm 5 10 []] [] [9,10])
abbrev nlB:SCode:=(.block 1 (.seq (.region [Zm 11 5 [],
 Zl 12 2 [],
 Zb 13 .eql 11 12 [0,1]] [] [2,5,11,12])
 (.cond (.t 13)
 (.seq (.region [Zy (.store 1 (.t 4) (.c (.int .i64 8))) []] [] [13])
 .ret)
 .skip)))
abbrev nlT (f:Nat) (cap:List AV):Tmps:=[(2,.ptr 64 0 0),(4,.ptr 65 0 0),(9,.fn f [] cap)]
abbrev nlP (f:Nat) (cap:List AV) (st:LSt):Blk:= .loop 0 14 (nlT f cap) [10] (.s nlA) (.s nlB) st
abbrev nlH (s:List UInt8) (e:Int) (f:Nat) (cap:List AV) (st:LSt):HL:=[(150,nlP f cap st),(64,.cells 0 [.str s]),(65,.cells 0 [.int .i64 e])]
theorem QgU {a b:List UInt8}:aBin .eql (.str a) (.str b)=some (.bool (decide (a=b))):=rfl
theorem set2h {h:Heap} {k j:Nat} {a b:Blk} (hk:Nat.blt k 1099511627775=true) (hb:h.get k=some b):((h.set k a).set k b).get j=h.get j:=by
 have hk':k<1099511627775:=by simpa using hk
 by_cases e:j=k
 ·subst e;rw[QaL hk',hb]
 ·rw[QaK hk' e,QaK hk' e]
theorem set3h {h:Heap} {k k2 j:Nat} {a b c:Blk} (hk:(Nat.blt k 1099511627775&&Nat.blt k2 1099511627775)=true):(((h.set k a).set k2 b).set k c).get j=((h.set k2 b).set k c).get j:=by
 simp only[Bool.and_eq_true,Nat.blt_eq]at hk
 obtain⟨h1,h2⟩:=hk
 by_cases e:j=k
 ·subst e;rw[QaL h1,QaL h1]
 ·rw [QaK h1 e, QaK h1 e]
  by_cases e2:j=k2
  ·subst e2;rw[QaL h2,QaL h2]
  ·rw[QaK h2 e2,QaK h2 e2,QaK h1 e]
theorem QdB {α:Type} {f:α->List AV} {k:Nat} (h:∀x,(f x).length=k):∀{l:List α} (i:Nat),(l.flatMap f).take (i*k)=(l.take i).flatMap f
 |[],i=>by simp
 |y::l,0=>by simp
 |y::l,i+1=>by
  rw[List.flatMap_cons,List.take_append,h,List.take_of_length_le (by rw[h,Nat.succ_mul];omega),List.take_succ_cons,List.flatMap_cons]
  have:(i+1)*k-k=i*k:=by rw[Nat.succ_mul];omega
  rw[this,QdB h i]
theorem Qih {s t:List UInt8} {f:Nat} {cap:List AV} {h:Heap} (hne:t≠s) (h1:h.get 64=some (.cells 0 [.str s])) (h3:h.get 150=some (nlP f cap .ready)):
  RSpec Tryz.prog 150 0 [.str t] h (.bool true) h:=by
 refine RSpec.of_wS (n:=300) rfl h3 rfl rfl rfl ?_
 simp(disch:=first|omega|exact PairsOK.mk rfl|(simp only[lenW]<;>omega)) only[upsT,h1,h3,QgU,hne,wW,wV,simprocAttr]
 exact⟨rfl,fun x=>set2h rfl h3⟩
theorem QgV {s:List UInt8} {f:Nat} {cap:List AV} {h:Heap} (h1:h.get 64=some (.cells 0 [.str s])) (h2:h.get 65=some (.cells 0 [.int .i64 0])) (h3:h.get 150=some (nlP f cap .ready)):
  RSpec Tryz.prog 150 0 [.str s] h (.bool false) ((h.set 65 (.cells 0 [.int .i64 8])).set 150 (nlP f cap (.done .ret))):=by
 refine RSpec.of_wS (n:=300) rfl h3 rfl rfl rfl ?_
 simp(disch:=first|omega|exact PairsOK.mk rfl|(simp only[lenW]<;>omega)) only[upsT,h1,h2,h3,QgU,wW,wV,simprocAttr]
 exact⟨rfl,fun x=>set3h rfl⟩
def nmErr (s:List UInt8) (N:List (List UInt8)):Int:=if nmOk s=false then 7 else if s∈N then 8 else 0
theorem clos134 (s : List UInt8) (S K : AV) (xs : List Exn) (i : Nat) (hi : i <= xs.length) (hl : xs.length <= 1000) (hn : noRefs [S, exsZ xs, K] = true) (d : Bool) (hd : d = decide (s ∈ (xs.take i).map (·.1))) :
    HSpec Tryz.prog 134 [.yld 150 0,.fptr [S,exsZ xs,K],.fptr [.int .i64 (i:Int)]] (hp (nlH s 0 134 [.fptr [S,exsZ xs,K],.fptr [.int .i64 (i:Int)]] .ready)) (.tup [])
      (hp (nlH s (if d then 8 else 0) 134 [.fptr [S,exsZ xs,K],.fptr [.int .i64 (i:Int)]] (if d then .done .ret else .ready))):=by
  refine HSpec.Qh1 (m:=200) 1000 TX.ok134 rfl rfl rfl ?_
  have hln:=Qeh xs
  have hil:(i:Int)<=(xs.length:Int):=by omega
  have htk:((xs.flatMap exZ).take (i*2))=(xs.take i).flatMap exZ:=QdB (k:=2) (fun _=>rfl) i
  have hNl:(xs.take i).length=i:=by rw[List.length_take];omega
  simp(disch:=first|omega|exact PairsOK.mk rfl|(simp only[lenW]<;>omega)) only[TX.s134,hil,htk,wW,wV,simprocAttr]
  clear htk hil hln
  generalize hcp:[AV.fptr [S,exsZ xs,K],AV.fptr [.int .i64 (i:Int)]]=cap at*
  have hcn:noRef (.fn 134 [] cap)=true:=by
    have:noRefs cap=true:=by rw[<-hcp];simp only[noRefs,noRef]at hn⊢;rw[hn];rfl
    exact QbC this
  clear hcp
  generalize xs.take i=N at*
  have hRT:∀{π:Nat->Option Src} {h:Heap},RT 200 π h (nlT 134 cap) (nlT 134 cap):=fun{π h}=>RT.cons (Rn.x6 rfl) (RT.cons (Rn.x6 rfl) (RT.cons (Rn.same hcn) RT.nil))
  have hRB:∀{π:Nat->Option Src} {h:Heap} {s:List UInt8} {e:Int} {st:LSt},h.get 64=some (.cells 0 [.str s])->h.get 65=some (.cells 0 [.int .i64 e])->h.get 150=some (nlP 134 cap st)->RB 200 π h (nlH s e 134 cap st):=fun{π h s e st} h1 h2 h3=>RB.loopB rfl h3 hRT (RB.cellsB rfl h1 (RnL.same rfl) (RB.cellsB rfl h2 (RnL.same rfl) RB.nil))
  subst hNl
  have hnN:=QbI N
  refine QaG 1100 (fun k:Nat=>[(0,.yld 150 0),(9,exsZ N),(10,.int .i64 N.length),(11,.int .i64 k)]) (fun _=>nlH s 0 134 cap .ready) (fun k=>k<=N.length/\∀(j:Nat) y,j<k->N[j]?=some y->y.1≠s) (fun k=>N.length-k) 0 0 1200 (fun _:Unit=>[]) (fun _=>nlH s 0 134 cap .ready) (fun _=>d=false) ?_ ⟨Nat.zero_le _,fun j y hj=>absurd hj (Nat.not_lt_zero _)⟩ ?_ ?_
  · refine⟨[(150,.nil),(64,.nil),(65,.nil)],rfl,au0,hRB gg gg gg,RT.cons (Rn.yldB rfl) (RT.cons (Rn.same hnN) au12)⟩
  · rintro k ⟨hk, hb⟩
    by_cases hlt:k<N.length
    · obtain ⟨x, hx⟩ := Qas hlt
      have hdr:=Qfj hx
      have hdl:2<=((N.flatMap exZ).drop (k*2)).length:=by rw[hdr];simp
      by_cases he:x.1=s
      · subst he
        have hm:decide (x.1∈N.map (·.1))=true:=decide_eq_true (List.mem_map.2 ⟨x,List.mem_of_getElem? hx,rfl⟩)
        rw[hm]at hd
        subst hd
        simp(disch:=first|omega|exact PairsOK.mk rfl|(simp only[lenW]<;>omega)) only[hlt,hdr,hdl,wW,wV,simprocAttr]
        refine cy (QgV (f:=134) (cap:=cap) gg gg gg) ?_
        simp(disch:=first|omega|exact PairsOK.mk rfl|(simp only[lenW]<;>omega)) only[wW,wV,simprocAttr]
        exact⟨.inr trivial,_,rfl,rfl,[(150,.nil),(64,.nil),(65,.nil)],rfl,au0,hRB gg gg gg,RT.nil⟩
      · simp (disch := first | omega | exact PairsOK.mk rfl | (simp only [lenW] <;> omega)) only [hlt, hdr, hdl, wW, wV, simprocAttr]
        refine cy (Qih (f:=134) (cap:=cap) he gg gg) ?_
        simp(disch:=first|omega|exact PairsOK.mk rfl|(simp only[lenW]<;>omega)) only[wW,wV,simprocAttr]
        refine⟨k+1,by omega,⟨by omega,fun j y hj hy=>?_⟩,[(150,.nil),(64,.nil),(65,.nil)],rfl,au0,hRB gg gg gg,RT.cons (Rn.yldB rfl) (RT.cons (Rn.same hnN) au12)⟩
        by_cases e:j=k
        · subst e;rw[hx]at hy;cases hy;exact he
        · exact hb j y (by omega) hy
    · have hm : s ∉ N.map (·.1) := fun h => by
        obtain⟨y,hy,e⟩:=List.mem_map.1 h
        obtain⟨j,hj,hjl⟩:=List.getElem_of_mem hy
        exact hb j y (by omega) (by rw[List.getElem?_eq_getElem hj,hjl]) e
      have hd2:d=false:=by rw[hd];exact decide_eq_false hm
      simp(disch:=first|omega|exact PairsOK.mk rfl|(simp only[lenW]<;>omega)) only[hlt,wW,wV,simprocAttr]
      exact⟨(),hd2,[(150,.nil),(64,.nil),(65,.nil)],rfl,au0,hRB gg gg gg,RT.nil⟩
  · rintro _ hd2
    subst hd2
    simp(disch:=first|omega|exact PairsOK.mk rfl|(simp only[lenW]<;>omega)) only[wW,wV,simprocAttr]
    exact⟨.inl trivial,_,rfl,rfl,[(150,.nil),(64,.nil),(65,.nil)],rfl,au0,hRB gg gg gg,RT.nil⟩
theorem name134 (s:List UInt8) (S K:AV) (xs:List Exn) (i:Nat) (hi:i<=xs.length) (hl:xs.length<=1000) (hsl:s.length<=9223372036854775807) (hn:noRefs [S,exsZ xs,K]=true):
  PSpec Tryz.prog 135 [.str s,.fn 134 [] [.fptr [S,exsZ xs,K],.fptr [.int .i64 (i:Int)]]] (.int .i64 (nmErr s ((xs.take i).map (·.1)))):=by
 have hcn:noRef (.fn 134 [] [AV.fptr [S,exsZ xs,K],AV.fptr [.int .i64 (i:Int)]])=true:=by
  refine QbC ?_
  simp only[noRefs,noRef]at hn⊢;rw[hn];rfl
 refine PSpec.Qad 64 TX.ok135 rfl (by rw[noRefs,noRefs,hcn];rfl) rfl ?_
 have hc:=clos134 s S K xs i hi hl hn
 have hN:=name135 s hsl
 unfold nmErr
 generalize hcp:[AV.fptr [S,exsZ xs,K],AV.fptr [.int .i64 (i:Int)]]=cap at*
 simp(disch:=first|omega|exact PairsOK.mk rfl|(simp only[lenW]<;>omega)) only[TX.s135,wW,wV,simprocAttr]
 refine cp hN ?_
 cases ho:nmOk s with
 |false=>
  simp(disch:=first|omega|exact PairsOK.mk rfl|(simp only[lenW]<;>omega)) only[wW,wV,simprocAttr]
  exact⟨.inr trivial,_,rfl,rfl⟩
 | true =>
  simp(disch:=first|omega|exact PairsOK.mk rfl|(simp only[lenW]<;>omega)) only[wW,wV,simprocAttr]
  have hrec:Rec 0 (nlT 134 cap) [(64,.cells 0 [.str s]),(65,.cells 0 [.int .i64 0])] [(2,.ptr 64 0 0),(4,.ptr 65 0 0),(9,.fn 134 [] cap)] ((Tr.e.set 64 (.cells 0 [.str s])).set 65 (.cells 0 [.int .i64 0])):=by
   refine⟨[(64,.blk 64 0),(65,.blk 65 0)],rfl,RO.zero,RB.cells rfl rfl gg (RnL.same rfl) (RB.cells rfl rfl gg (RnL.same rfl) RB.nil),RT.cons (Rn.x2 rfl rfl) (RT.cons (Rn.x2 rfl rfl) (RT.cons (Rn.same hcn) RT.nil))⟩
  by_cases hm:s∈(xs.take i).map (·.1)
  ·have h1 := hc true (decide_eq_true hm).symm
   simp only[if_true]at h1
   refine QcZ (n':=400) (b:=150) (st:= .done .ret) hrec rfl gg rfl h1 gg ?_
   unfold leftQ
   refine⟨rfl,?_⟩
   simp(disch:=first|omega|exact PairsOK.mk rfl|(simp only[lenW]<;>omega)) only[wW,wV,simprocAttr]
   exact⟨.inr trivial,_,rfl,by rw[if_pos hm];rfl⟩
  ·have h1 := hc false (decide_eq_false hm).symm
   simp only[Bool.false_eq_true,if_false]at h1
   refine QcZ (n':=400) (b:=150) (st:= .ready) hrec rfl gg rfl h1 gg ?_
   unfold leftQ
   simp(disch:=first|omega|exact PairsOK.mk rfl|(simp only[lenW]<;>omega)) only[wW,wV,simprocAttr]
   exact⟨.inr trivial,_,rfl,by rw[if_neg hm];rfl⟩
theorem clos137 (s : List UInt8) (S K : AV) (xs : List Con) (i : Nat) (hi : i <= xs.length) (hl : xs.length <= 1000) (hn : noRefs [S, K, cosZ xs] = true) (d : Bool) (hd : d = decide (s ∈ (xs.take i).map (·.1))) :
    HSpec Tryz.prog 137 [.yld 150 0,.fptr [S,K,cosZ xs],.fptr [.int .i64 (i:Int)]] (hp (nlH s 0 137 [.fptr [S,K,cosZ xs],.fptr [.int .i64 (i:Int)]] .ready)) (.tup [])
      (hp (nlH s (if d then 8 else 0) 137 [.fptr [S,K,cosZ xs],.fptr [.int .i64 (i:Int)]] (if d then .done .ret else .ready))):=by
  refine HSpec.Qh1 (m:=200) 1000 TX.ok137 rfl rfl rfl ?_
  have hln:=Qei xs
  have hil:(i:Int)<=(xs.length:Int):=by omega
  have htk:((xs.flatMap coZ).take (i*3))=(xs.take i).flatMap coZ:=QdB (k:=3) (fun _=>rfl) i
  have hNl:(xs.take i).length=i:=by rw[List.length_take];omega
  simp(disch:=first|omega|exact PairsOK.mk rfl|(simp only[lenW]<;>omega)) only[TX.s137,hil,htk,wW,wV,simprocAttr]
  clear htk hil hln
  generalize hcp:[AV.fptr [S,K,cosZ xs],AV.fptr [.int .i64 (i:Int)]]=cap at*
  have hcn:noRef (.fn 137 [] cap)=true:=by
    have:noRefs cap=true:=by rw[<-hcp];simp only[noRefs,noRef]at hn⊢;rw[hn];rfl
    exact QbC this
  clear hcp
  generalize xs.take i=N at*
  have hRT:∀{π:Nat->Option Src} {h:Heap},RT 200 π h (nlT 137 cap) (nlT 137 cap):=fun{π h}=>RT.cons (Rn.x6 rfl) (RT.cons (Rn.x6 rfl) (RT.cons (Rn.same hcn) RT.nil))
  have hRB:∀{π:Nat->Option Src} {h:Heap} {s:List UInt8} {e:Int} {st:LSt},h.get 64=some (.cells 0 [.str s])->h.get 65=some (.cells 0 [.int .i64 e])->h.get 150=some (nlP 137 cap st)->RB 200 π h (nlH s e 137 cap st):=fun{π h s e st} h1 h2 h3=>RB.loopB rfl h3 hRT (RB.cellsB rfl h1 (RnL.same rfl) (RB.cellsB rfl h2 (RnL.same rfl) RB.nil))
  subst hNl
  have hnN:=QdA N
  refine QaG 1100 (fun k:Nat=>[(0,.yld 150 0),(9,cosZ N),(10,.int .i64 N.length),(11,.int .i64 k)]) (fun _=>nlH s 0 137 cap .ready) (fun k=>k<=N.length/\∀(j:Nat) y,j<k->N[j]?=some y->y.1≠s) (fun k=>N.length-k) 0 0 1200 (fun _:Unit=>[]) (fun _=>nlH s 0 137 cap .ready) (fun _=>d=false) ?_ ⟨Nat.zero_le _,fun j y hj=>absurd hj (Nat.not_lt_zero _)⟩ ?_ ?_
  · refine⟨[(150,.nil),(64,.nil),(65,.nil)],rfl,au0,hRB gg gg gg,RT.cons (Rn.yldB rfl) (RT.cons (Rn.same hnN) au12)⟩
  · rintro k ⟨hk, hb⟩
    by_cases hlt:k<N.length
    · obtain ⟨x, hx⟩ := Qas hlt
      have hdr:=Qfk hx
      have hdl:3<=((N.flatMap coZ).drop (k*3)).length:=by rw[hdr];simp
      by_cases he:x.1=s
      · subst he
        have hm:decide (x.1∈N.map (·.1))=true:=decide_eq_true (List.mem_map.2 ⟨x,List.mem_of_getElem? hx,rfl⟩)
        rw[hm]at hd
        subst hd
        simp(disch:=first|omega|exact PairsOK.mk rfl|(simp only[lenW]<;>omega)) only[hlt,hdr,hdl,wW,wV,simprocAttr]
        refine cy (QgV (f:=137) (cap:=cap) gg gg gg) ?_
        simp(disch:=first|omega|exact PairsOK.mk rfl|(simp only[lenW]<;>omega)) only[wW,wV,simprocAttr]
        exact⟨.inr trivial,_,rfl,rfl,[(150,.nil),(64,.nil),(65,.nil)],rfl,au0,hRB gg gg gg,RT.nil⟩
      · simp (disch := first | omega | exact PairsOK.mk rfl | (simp only [lenW] <;> omega)) only [hlt, hdr, hdl, wW, wV, simprocAttr]
        refine cy (Qih (f:=137) (cap:=cap) he gg gg) ?_
        simp(disch:=first|omega|exact PairsOK.mk rfl|(simp only[lenW]<;>omega)) only[wW,wV,simprocAttr]
        refine⟨k+1,by omega,⟨by omega,fun j y hj hy=>?_⟩,[(150,.nil),(64,.nil),(65,.nil)],rfl,au0,hRB gg gg gg,RT.cons (Rn.yldB rfl) (RT.cons (Rn.same hnN) au12)⟩
        by_cases e:j=k
        · subst e;rw[hx]at hy;cases hy;exact he
        · exact hb j y (by omega) hy
    · have hm : s ∉ N.map (·.1) := fun h => by
        obtain⟨y,hy,e⟩:=List.mem_map.1 h
        obtain⟨j,hj,hjl⟩:=List.getElem_of_mem hy
        exact hb j y (by omega) (by rw[List.getElem?_eq_getElem hj,hjl]) e
      have hd2:d=false:=by rw[hd];exact decide_eq_false hm
      simp(disch:=first|omega|exact PairsOK.mk rfl|(simp only[lenW]<;>omega)) only[hlt,wW,wV,simprocAttr]
      exact⟨(),hd2,[(150,.nil),(64,.nil),(65,.nil)],rfl,au0,hRB gg gg gg,RT.nil⟩
  · rintro _ hd2
    subst hd2
    simp(disch:=first|omega|exact PairsOK.mk rfl|(simp only[lenW]<;>omega)) only[wW,wV,simprocAttr]
    exact⟨.inl trivial,_,rfl,rfl,[(150,.nil),(64,.nil),(65,.nil)],rfl,au0,hRB gg gg gg,RT.nil⟩
theorem name137 (s:List UInt8) (S K:AV) (xs:List Con) (i:Nat) (hi:i<=xs.length) (hl:xs.length<=1000) (hsl:s.length<=9223372036854775807) (hn:noRefs [S,K,cosZ xs]=true):
  PSpec Tryz.prog 135 [.str s,.fn 137 [] [.fptr [S,K,cosZ xs],.fptr [.int .i64 (i:Int)]]] (.int .i64 (nmErr s ((xs.take i).map (·.1)))):=by
 have hcn:noRef (.fn 137 [] [AV.fptr [S,K,cosZ xs],AV.fptr [.int .i64 (i:Int)]])=true:=by
  refine QbC ?_
  simp only[noRefs,noRef]at hn⊢;rw[hn];rfl
 refine PSpec.Qad 64 TX.ok135 rfl (by rw[noRefs,noRefs,hcn];rfl) rfl ?_
 have hc:=clos137 s S K xs i hi hl hn
 have hN:=name135 s hsl
 unfold nmErr
 generalize hcp:[AV.fptr [S,K,cosZ xs],AV.fptr [.int .i64 (i:Int)]]=cap at*
 simp(disch:=first|omega|exact PairsOK.mk rfl|(simp only[lenW]<;>omega)) only[TX.s135,wW,wV,simprocAttr]
 refine cp hN ?_
 cases ho:nmOk s with
 |false=>
  simp(disch:=first|omega|exact PairsOK.mk rfl|(simp only[lenW]<;>omega)) only[wW,wV,simprocAttr]
  exact⟨.inr trivial,_,rfl,rfl⟩
 | true =>
  simp(disch:=first|omega|exact PairsOK.mk rfl|(simp only[lenW]<;>omega)) only[wW,wV,simprocAttr]
  have hrec:Rec 0 (nlT 137 cap) [(64,.cells 0 [.str s]),(65,.cells 0 [.int .i64 0])] [(2,.ptr 64 0 0),(4,.ptr 65 0 0),(9,.fn 137 [] cap)] ((Tr.e.set 64 (.cells 0 [.str s])).set 65 (.cells 0 [.int .i64 0])):=by
   refine⟨[(64,.blk 64 0),(65,.blk 65 0)],rfl,RO.zero,RB.cells rfl rfl gg (RnL.same rfl) (RB.cells rfl rfl gg (RnL.same rfl) RB.nil),RT.cons (Rn.x2 rfl rfl) (RT.cons (Rn.x2 rfl rfl) (RT.cons (Rn.same hcn) RT.nil))⟩
  by_cases hm:s∈(xs.take i).map (·.1)
  ·have h1 := hc true (decide_eq_true hm).symm
   simp only[if_true]at h1
   refine QcZ (n':=400) (b:=150) (st:= .done .ret) hrec rfl gg rfl h1 gg ?_
   unfold leftQ
   refine⟨rfl,?_⟩
   simp(disch:=first|omega|exact PairsOK.mk rfl|(simp only[lenW]<;>omega)) only[wW,wV,simprocAttr]
   exact⟨.inr trivial,_,rfl,by rw[if_pos hm];rfl⟩
  ·have h1 := hc false (decide_eq_false hm).symm
   simp only[Bool.false_eq_true,if_false]at h1
   refine QcZ (n':=400) (b:=150) (st:= .ready) hrec rfl gg rfl h1 gg ?_
   unfold leftQ
   simp(disch:=first|omega|exact PairsOK.mk rfl|(simp only[lenW]<;>omega)) only[wW,wV,simprocAttr]
   exact⟨.inr trivial,_,rfl,by rw[if_neg hm];rfl⟩
end Go.AM.SO
namespace Go.AM.SO
open Go.Proofs Go.AM.SD Go.AM.SE
def szE (S:List Int) (i:Nat):Int:=if S.getD i 0<1\/4096<S.getD i 0 then 2 else 0
def xsE (S:List Int) (xs:List Exn) (i:Nat):Int:=
 let x:=xs.getD i ([],[])
 if nmErr x.1 ((xs.take i).map (·.1))≠0 then nmErr x.1 ((xs.take i).map (·.1))else exErr S x.2
def ksE (S:List Int) (ks:List Con) (i:Nat):Int:=
 let x:=ks.getD i ([],[],0)
 if nmErr x.1 ((ks.take i).map (·.1))≠0 then nmErr x.1 ((ks.take i).map (·.1))else coErr S x.2.1 x.2.2
def cdErr (S:List Int) (xs:List Exn) (ks:List Con):Int:=
 if 8<S.length then 3 else if fe (szE S) S.length≠0 then fe (szE S) S.length else if 32<xs.length\/32<ks.length then 3
 else if fe (xsE S xs) xs.length≠0 then fe (xsE S xs) xs.length else fe (ksE S ks) ks.length
theorem Qml {S:List Int} {xs:List Exn} {i:Nat} {x:Exn} (h:xs[i]?=some x):xsE S xs i=if nmErr x.1 ((xs.take i).map (·.1))≠0 then nmErr x.1 ((xs.take i).map (·.1))else exErr S x.2:=by unfold xsE;rw[QaD h]
theorem Qmm {S:List Int} {ks:List Con} {i:Nat} {x:Con} (h:ks[i]?=some x):ksE S ks i=if nmErr x.1 ((ks.take i).map (·.1))≠0 then nmErr x.1 ((ks.take i).map (·.1))else coErr S x.2.1 x.2.2:=by unfold ksE;rw[QaD h]
theorem Qk4 {S:List Int} {xs:List Exn} {ks:List Con} {e:Int} (h:fe (xsE S xs) xs.length=e) (h0:e≠0):(if fe (xsE S xs) xs.length≠0 then fe (xsE S xs) xs.length else fe (ksE S ks) ks.length)=e:=by rw[h,if_pos h0]
theorem Qk5 {S:List Int} {ks:List Con} {e:Int} (h:fe (ksE S ks) ks.length=e) (_:e≠0):fe (ksE S ks) ks.length=e:=h
theorem _root_.Go.AM.au13 {p:Prop} (h:p:=by repeat (first|exact RT.nil|(refine RT.cons ?_ ?_; · (first|exact Rn.any|exact Rn.x1 rfl rfl|exact Rn.x2 rfl rfl|exact Rn.x3 rfl rfl|exact Rn.x4 rfl rfl|exact Rn.x5 rfl|exact Rn.x6 rfl|exact Rn.x7 rfl|(refine Rn.slot ?_ ?_;(first|rfl|(rw[Int.natCast_add];rfl));(first|rfl|(simp only[noRef,noRefs,Qam,Bool.and_self,Bool.and_true,Bool.true_and,Qab,Qap,Qak,Qbq,Qbr];done)))|(refine Rn.fn ?_ ?_<;>(repeat' (first|exact RnL.nil|refine RnL.cons ?_ ?_|exact Rn.same rfl|exact Rn.x6 rfl|exact Rn.x2 rfl rfl|exact Rn.x5 rfl|exact Rn.x1 rfl rfl))))))):p:=h
theorem conds32X (S : List Int) (xs : List Exn) (ks : List Con) (hS : S.length <= 1000) (hx2 : xs.length <= 1000) (hk1 : ks.length <= 1000) (hxl : ∀ x ∈ xs, x.1.length <= 9223372036854775807 /\ x.2.length <= 8796093021952) (hkl : ∀ x ∈ ks, x.1.length <= 9223372036854775807 /\ x.2.1.length <= 8796093021952) :
    PSpec Tryz.prog 76 [cdZ S xs ks] (.int .i64 (cdErr S xs ks)):=by
  have hnr:=@Qb3 S xs ks
  refine PSpec.Qad 64 SQ.ok76 rfl (by rw[noRefs,noRef,hnr];rfl) rfl ?_
  unfold cdErr
  by_cases g1:8<S.length
  · have g1' : (8 : Int) < (S.length : Int) := by omega
    simp(disch:=first|omega|exact PairsOK.mk rfl|(simp only[lenW]<;>omega)) only[SQ.s76,g1',wW,wV,simprocAttr]
    exact⟨.inr trivial,_,rfl,by rw[if_pos g1];rfl⟩
  rw[if_neg g1]
  have g1':¬(8:Int)<(S.length:Int):=by omega
  simp(disch:=first|omega|exact PairsOK.mk rfl|(simp only[lenW]<;>omega)) only[SQ.s76,g1',wW,wV,simprocAttr]
  refine QaG 100 (fun i:Nat=>[(1,.ptr 50 0 0),(20,sli S),(21,.int .i64 S.length),(22,.int .i64 i)]) (fun _=>[(50,.cells 0 (cdK S xs ks))]) (fun i=>i<=S.length/\∀j,j<i->szE S j=0) (fun i=>S.length-i) 0 0 140
    (fun _:Unit=>[(1,.ptr 50 0 0)]) (fun _=>[(50,.cells 0 (cdK S xs ks))]) (fun _=>fe (szE S) S.length=0) ⟨[(50,.blk 64 0)],rfl,au0,?_,au13⟩ ⟨Nat.zero_le _,fun j hj=>absurd hj (Nat.not_lt_zero _)⟩ ?_ ?_
  · exact RB.cells rfl rfl gg (RnL.same hnr) RB.nil
  · rintro i ⟨hi, hb⟩
    by_cases hlt:i<S.length
    · obtain ⟨s, hs⟩ := Qas hlt
      have hgs:S.getD i 0=s:=QaD hs
      by_cases q1:s<1
      · simp (disch := first | omega | exact PairsOK.mk rfl | (simp only [lenW] <;> omega)) only [hlt, Qaw hs, q1, wW, wV, simprocAttr]
        exact⟨.inr trivial,_,rfl,by rw[fe_at (e:=2) (by unfold szE;rw[hgs,if_pos (.inl q1)]) (by decide) hb hlt,if_pos (by decide)];rfl⟩
      by_cases q2:4096<s
      · simp (disch := first | omega | exact PairsOK.mk rfl | (simp only [lenW] <;> omega)) only [hlt, Qaw hs, q1, q2, wW, wV, simprocAttr]
        exact⟨.inr trivial,_,rfl,by rw[fe_at (e:=2) (by unfold szE;rw[hgs,if_pos (.inr q2)]) (by decide) hb hlt,if_pos (by decide)];rfl⟩
      simp(disch:=first|omega|exact PairsOK.mk rfl|(simp only[lenW]<;>omega)) only[hlt,Qaw hs,q1,q2,wW,wV,simprocAttr]
      refine⟨i+1,by omega,⟨by omega,fe_up hb (by unfold szE;rw[hgs,if_neg (by omega)])⟩,?_⟩
      refine⟨[(50,.blk 50 0)],rfl,au0,?_,au13⟩
      exact RB.cells rfl rfl gg (RnL.same hnr) RB.nil
    · simp (disch := first | omega | exact PairsOK.mk rfl | (simp only [lenW] <;> omega)) only [hlt, wW, wV, simprocAttr]
      refine⟨(),Qbb fun j hj=>hb j (by omega),?_⟩
      refine⟨[(50,.blk 50 0)],rfl,au0,?_,au13⟩
      exact RB.cells rfl rfl gg (RnL.same hnr) RB.nil
  rintro _ hz
  rw[if_neg (fun h=>h hz)]
  by_cases g2:32<xs.length
  · have g2' : (32 : Int) < (xs.length : Int) := by omega
    simp(disch:=first|omega|exact PairsOK.mk rfl|(simp only[lenW]<;>omega)) only[g2',wW,wV,simprocAttr]
    exact⟨.inr trivial,_,rfl,by rw[if_pos (.inl g2)];rfl⟩
  have g2':¬(32:Int)<(xs.length:Int):=by omega
  by_cases g3:32<ks.length
  · have g3' : (32 : Int) < (ks.length : Int) := by omega
    simp(disch:=first|omega|exact PairsOK.mk rfl|(simp only[lenW]<;>omega)) only[g2',g3',wW,wV,simprocAttr]
    exact⟨.inr trivial,_,rfl,by rw[if_pos (.inr g3)];rfl⟩
  have g3':¬(32:Int)<(ks.length:Int):=by omega
  rw[if_neg (by omega)]
  simp(disch:=first|omega|exact PairsOK.mk rfl|(simp only[lenW]<;>omega)) only[g2',g3',wW,wV,simprocAttr]
  refine QaG 200 (fun i:Nat=>[(1,.ptr 50 0 0),(44,exsZ xs),(45,.int .i64 xs.length),(46,.int .i64 i)]) (fun _=>[(50,.cells 0 (cdK S xs ks))]) (fun i=>i<=xs.length/\∀j,j<i->xsE S xs j=0) (fun i=>xs.length-i) 0 2 240
    (fun _:Unit=>[(1,.ptr 50 0 0)]) (fun _=>[(50,.cells 0 (cdK S xs ks))]) (fun _=>fe (xsE S xs) xs.length=0) ⟨[(50,.blk 50 0)],rfl,au0,?_,au13⟩ ⟨Nat.zero_le _,fun j hj=>absurd hj (Nat.not_lt_zero _)⟩ ?_ ?_
  · exact RB.cells rfl rfl gg (RnL.same hnr) RB.nil
  · skip
    rintro i ⟨hi,hb⟩
    by_cases hlt:i<xs.length
    · obtain ⟨x, hx⟩ := Qas hlt
      have hxm:=List.mem_of_getElem? hx
      have hdr:=Qfj hx
      have hdl:2<=((xs.flatMap exZ).drop (i*2)).length:=by rw[hdr];simp
      have hN:=name134 x.1 (sli S) (cosZ ks) xs i (by omega) (by omega) (hxl x hxm).1 hnr
      have hE:=excl103X S xs ks x (hxl x hxm).2
      have ke:=Qml (S:=S) hx
      have at0:∀e:Int,xsE S xs i=e->e≠0->fe (xsE S xs) xs.length=e:=fun e h h0=>fe_at h h0 hb hlt
      have up:xsE S xs i=0->∀j,j<i+1->xsE S xs j=0:=fe_up hb
      rw[ke]at at0 up
      clear ke
      generalize nmErr x.1 ((xs.take i).map (·.1))=e1 at*
      generalize exErr S x.2=e2 at*
      have hex:exZ x=[.str x.1,prs x.2]:=rfl
      rw[hex]at hE
      simp(disch:=first|omega|exact PairsOK.mk rfl|(simp only[lenW]<;>omega)) only[hlt,hdr,hdl,wW,wV,simprocAttr]
      refine SU.chc (HSpec.lend (FrzL.cons (FrzTo.same _) (FrzL.cons (FrzTo.fn FrzL.nil (FrzL.cons (FrzTo.ptr (g:=0) (cs:=cdK S xs ks) gg (FrzL.same _)) (FrzL.cons (FrzTo.ptr (g:=0) (cs:=[.int .i64 (i:Int)]) gg (FrzL.same _)) FrzL.nil))) FrzL.nil)) hN rfl) ?_
      by_cases q1:e1=0
      · simp (disch := first | omega | exact PairsOK.mk rfl | (simp only [lenW] <;> omega)) only [q1, wW, wV, simprocAttr]
        refine cp hE ?_
        by_cases q2:e2=0
        · simp (disch := first | omega | exact PairsOK.mk rfl | (simp only [lenW] <;> omega)) only [q2, wW, wV, simprocAttr]
          refine⟨i+1,by omega,⟨by omega,up (by rw[if_neg (fun h=>h q1)];exact q2)⟩,?_⟩
          refine⟨[(50,.blk 50 0)],rfl,au0,?_,au13⟩
          exact RB.cells rfl rfl gg (RnL.same hnr) RB.nil
        · simp (disch := first | omega | exact PairsOK.mk rfl | (simp only [lenW] <;> omega)) only [q2, wW, wV, simprocAttr]
          exact⟨.inr trivial,_,rfl,by rw[Qk4 (at0 e2 (by rw[if_neg (fun h=>h q1)]) q2) q2];rfl⟩
      · simp (disch := first | omega | exact PairsOK.mk rfl | (simp only [lenW] <;> omega)) only [q1, wW, wV, simprocAttr]
        exact⟨.inr trivial,_,rfl,by rw[Qk4 (at0 e1 (by rw[if_pos q1]) q1) q1];rfl⟩
    · simp (disch := first | omega | exact PairsOK.mk rfl | (simp only [lenW] <;> omega)) only [hlt, wW, wV, simprocAttr]
      refine⟨(),Qbb fun j hj=>hb j (by omega),?_⟩
      refine⟨[(50,.blk 50 0)],rfl,au0,?_,au13⟩
      exact RB.cells rfl rfl gg (RnL.same hnr) RB.nil
  rintro _ hz2
  rw[if_neg (fun h=>h hz2)]
  simp(disch:=first|omega|exact PairsOK.mk rfl|(simp only[lenW]<;>omega)) only[wW,wV,simprocAttr]
  refine QaU 300 (fun i:Nat=>[(1,.ptr 50 0 0),(67,cosZ ks),(68,.int .i64 ks.length),(69,.int .i64 i)]) (fun _=>[(50,.cells 0 (cdK S xs ks))]) (fun i=>i<=ks.length/\∀j,j<i->ksE S ks j=0) (fun i=>ks.length-i) 0 ⟨[(50,.blk 50 0)],rfl,au0,?_,au13⟩ ⟨Nat.zero_le _,fun j hj=>absurd hj (Nat.not_lt_zero _)⟩ ?_
  · exact RB.cells rfl rfl gg (RnL.same hnr) RB.nil
  rintro i ⟨hi,hb⟩
  by_cases hlt:i<ks.length
  · obtain ⟨x, hx⟩ := Qas hlt
    have hxm:=List.mem_of_getElem? hx
    have hdr:=Qfk hx
    have hdl:3<=((ks.flatMap coZ).drop (i*3)).length:=by rw[hdr];simp
    have hN:=name137 x.1 (sli S) (exsZ xs) ks i (by omega) (by omega) (hkl x hxm).1 hnr
    have hE:=cons105X S xs ks x (hkl x hxm).2
    have ke:=Qmm (S:=S) hx
    have at0:∀e:Int,ksE S ks i=e->e≠0->fe (ksE S ks) ks.length=e:=fun e h h0=>fe_at h h0 hb hlt
    have up:ksE S ks i=0->∀j,j<i+1->ksE S ks j=0:=fe_up hb
    rw[ke]at at0 up
    clear ke
    generalize nmErr x.1 ((ks.take i).map (·.1))=e1 at*
    generalize coErr S x.2.1 x.2.2=e2 at*
    have hex:coZ x=[.str x.1,prs x.2.1,.int .i64 x.2.2]:=rfl
    rw[hex]at hE
    simp(disch:=first|omega|exact PairsOK.mk rfl|(simp only[lenW]<;>omega)) only[hlt,hdr,hdl,wW,wV,simprocAttr]
    refine SU.chc (HSpec.lend (FrzL.cons (FrzTo.same _) (FrzL.cons (FrzTo.fn FrzL.nil (FrzL.cons (FrzTo.ptr (g:=0) (cs:=cdK S xs ks) gg (FrzL.same _)) (FrzL.cons (FrzTo.ptr (g:=0) (cs:=[.int .i64 (i:Int)]) gg (FrzL.same _)) FrzL.nil))) FrzL.nil)) hN rfl) ?_
    by_cases q1:e1=0
    · simp (disch := first | omega | exact PairsOK.mk rfl | (simp only [lenW] <;> omega)) only [q1, wW, wV, simprocAttr]
      refine cp hE ?_
      by_cases q2:e2=0
      · simp (disch := first | omega | exact PairsOK.mk rfl | (simp only [lenW] <;> omega)) only [q2, wW, wV, simprocAttr]
        refine⟨i+1,by omega,⟨by omega,up (by rw[if_neg (fun h=>h q1)];exact q2)⟩,?_⟩
        refine⟨[(50,.blk 50 0)],rfl,au0,?_,au13⟩
        exact RB.cells rfl rfl gg (RnL.same hnr) RB.nil
      · simp (disch := first | omega | exact PairsOK.mk rfl | (simp only [lenW] <;> omega)) only [q2, wW, wV, simprocAttr]
        exact⟨.inr trivial,_,rfl,by rw[Qk5 (at0 e2 (by rw[if_neg (fun h=>h q1)]) q2) q2];rfl⟩
    · simp (disch := first | omega | exact PairsOK.mk rfl | (simp only [lenW] <;> omega)) only [q1, wW, wV, simprocAttr]
      exact⟨.inr trivial,_,rfl,by rw[Qk5 (at0 e1 (by rw[if_pos q1]) q1) q1];rfl⟩
  · simp (disch := first | omega | exact PairsOK.mk rfl | (simp only [lenW] <;> omega)) only [hlt, wW, wV, simprocAttr]
    exact⟨.inr trivial,_,rfl,by rw[Qbb fun j hj=>hb j (by omega)];rfl⟩
end Go.AM.SO
namespace Go.AM.SO
open Go.Proofs Go.AM.SD Go.AM.SE
theorem Qej {m:Nat} {π:Nat->Option Src} {h:Heap}:RnM m π h (mapS yes []) []:=trivial
end Go.AM.SO
namespace Go.AM.SO
open Go.Proofs Go.AM.SD Go.AM.SE
def uZ (l:List Itn):List Nat:=l.foldl (fun out x=>mrg (fun a b=>a||b) out (natA x.2).al) []
theorem Qk6:∀{l:List Itn} {out:List Nat},out.Pairwise (· < ·)->(∀e∈out,e<32)->(∀x∈l,(natA x.2).al.Pairwise (· < ·)/\∀e∈(natA x.2).al,e<32)->
  (l.foldl (fun out x=>mrg (fun a b=>a||b) out (natA x.2).al) out).Pairwise (· < ·)/\∀e∈l.foldl (fun out x=>mrg (fun a b=>a||b) out (natA x.2).al) out,e<32
 |[],out,h,h2,_=>⟨h,h2⟩
 |x::l,out,h,h2,hl=>by
  obtain⟨hx,hx2⟩:=hl x (by simp)
  rw[List.foldl_cons]
  refine Qk6 (QbG h hx) (fun e he=>?_) fun y hy=>hl y (by simp[hy])
  rw[Qbh h hx]at he
  obtain⟨h1,_⟩:=he
  simp only[Bool.or_eq_true,decide_eq_true_eq]at h1
  rcases h1 with h1|h1
  ·exact h2 e h1
  ·exact hx2 e h1
theorem Qmn {l:List Itn} (h:∀x∈l,(natA x.2).al.Pairwise (· < ·)/\∀e∈(natA x.2).al,e<32):(uZ l).length<=32:=by
 obtain⟨h1,h2⟩:=Qk6 (l:=l) (out:=[]) (by simp) (by simp) h
 exact Qbp h1 h2
theorem Ql2 {l:List Itn} {i:Nat} {x:Itn} (h:l[i]?=some x):uZ (l.take (i+1))=mrg (fun a b=>a||b) (uZ (l.take i)) (natA x.2).al:=by
 unfold uZ
 rw[take_succ' h,List.foldl_append];rfl
theorem Qd9 {E:Int} {B:List Nat} {N:List (List UInt8)} {x:Itn} (hx:ItOk x) (h:itEr E B N x=0):itNs N x=N++[x.1]/\au (natA x.2)=x.2/\WfA (natA x.2):=by
 cases ho:nmOk x.1 with
 |false=>rw[(Qk1 ho).1]at h;cases h
 | true =>
  by_cases hm:x.1∈N
  ·rw[(Qk2 ho hm).1]at h;cases h
  ·obtain ⟨h1, h2⟩ := Qk3 (E := E) (B := B) ho hm
   rw[h1]at h
   unfold itE2 at h
   split at h
   ·rename_i q;exact absurd h q
   ·rename_i q
    exact⟨h2,Qfg (by simpa using q) hx.n⟩
abbrev nmZ (l:List Itn):List (List UInt8):=l.map (·.1)
theorem Qii {l:List Itn} {i:Nat} {x:Itn} (h:l[i]?=some x):nmZ (l.take (i+1))=nmZ (l.take i)++[x.1]:=by
 unfold nmZ;rw[take_succ' h,List.map_append];rfl
def it0:Itn:=([],⟨[],0,[],[]⟩)
def csE (c:CelN) (i:Nat):Int:=itEr c.ev.length (List.range c.ev.length) (nmZ (c.cs.take i)) (c.cs.getD i it0)
def rsE (c:CelN) (i:Nat):Int:=itEr c.ev.length (uZ c.cs) (nmZ c.cs++nmZ (c.rs.take i)) (c.rs.getD i it0)
def celErr (c:CelN):Int:=
 if evErr c.ev≠0 then evErr c.ev else if c.cs.length=0 then 12 else if 8<c.cs.length\/12<c.cs.length+c.rs.length then 3
 else if fe (csE c) c.cs.length≠0 then fe (csE c) c.cs.length else if fe (rsE c) c.rs.length≠0 then fe (rsE c) c.rs.length else cdErr (szZ c) c.xs c.ks
structure CelOk (c:CelN):Prop where
 el:c.ev.length<=9223372036854775807
 en:∀x∈c.ev,x.nm.length<=9223372036854775807
 cl:c.cs.length<=1000
 rl:c.rs.length<=1000
 xl:c.xs.length<=1000
 kl:c.ks.length<=1000
 ci:∀x∈c.cs,ItOk x
 ri:∀x∈c.rs,ItOk x
 xi:∀x∈c.xs,x.1.length<=9223372036854775807/\x.2.length<=8796093021952
 ki:∀x∈c.ks,x.1.length<=9223372036854775807/\x.2.1.length<=8796093021952
theorem Qk7 {l:List Evn} (h:evErr l=0):l.length<=32:=by
 unfold evErr at h
 split at h
 ·cases h
 ·omega
theorem check21X (c : CelN) (h : CelOk c) : PSpec Tryz.prog 21 [celZ c] (.int .i64 (celErr c)) := by
  have hnr:=Qax c
  refine PSpec.Qad 64 ok21 rfl (by rw[noRefs,celZ,noRef,hnr];rfl) rfl ?_
  have hE:=check82X c.ev h.el h.en
  have h3:=h.cl
  have h2:=h.rl
  have hdL:=conds85X c h.cl h.xl h.kl (fun x hx=>(h.xi x hx).2) (fun x hx=>(h.ki x hx).2)
  have hdC:=conds32X (szZ c) c.xs c.ks (by simp[szZ];omega) h.xl h.kl h.xi h.ki
  unfold celErr
  by_cases z0:¬evErr c.ev=0
  · simp (disch := first | omega | exact PairsOK.mk rfl | (simp only [lenW] <;> omega)) only [s21, wW, wV, simprocAttr]
    refine cp hE ?_
    simp(disch:=first|omega|exact PairsOK.mk rfl|(simp only[lenW]<;>omega)) only[z0,wW,wV,simprocAttr]
    exact⟨.inr trivial,_,rfl,rfl⟩
  replace z0:evErr c.ev=0:=Decidable.not_not.1 z0
  rw[z0]at hE
  have hE32:=Qk7 z0
  rw[if_neg (fun h=>h z0)]
  by_cases z1:c.cs.length=0
  · have g1 : (c.cs.length : Int) = 0 := by omega
    simp(disch:=first|omega|exact PairsOK.mk rfl|(simp only[lenW]<;>omega)) only[s21,wW,wV,simprocAttr]
    refine cp hE ?_
    simp(disch:=first|omega|exact PairsOK.mk rfl|(simp only[lenW]<;>omega)) only[g1,wW,wV,simprocAttr]
    exact⟨.inr trivial,_,rfl,by rw[if_pos z1];rfl⟩
  have g1:¬(c.cs.length:Int)=0:=by omega
  rw[if_neg z1]
  by_cases z2:8<c.cs.length
  · have g2 : (8 : Int) < (c.cs.length : Int) := by omega
    simp(disch:=first|omega|exact PairsOK.mk rfl|(simp only[lenW]<;>omega)) only[s21,wW,wV,simprocAttr]
    refine cp hE ?_
    simp(disch:=first|omega|exact PairsOK.mk rfl|(simp only[lenW]<;>omega)) only[g1,g2,wW,wV,simprocAttr]
    exact⟨.inr trivial,_,rfl,by rw[if_pos (.inl z2)];rfl⟩
  have g2:¬(8:Int)<(c.cs.length:Int):=by omega
  by_cases z3:12<c.cs.length+c.rs.length
  · have g3 : (12 : Int) < (c.cs.length : Int) + (c.rs.length : Int) := by omega
    simp(disch:=first|omega|exact PairsOK.mk rfl|(simp only[lenW]<;>omega)) only[s21,wW,wV,simprocAttr]
    refine cp hE ?_
    simp(disch:=first|omega|exact PairsOK.mk rfl|(simp only[lenW]<;>omega)) only[g1,g2,g3,wW,wV,simprocAttr]
    exact⟨.inr trivial,_,rfl,by rw[if_pos (.inr z3)];rfl⟩
  have g3:¬(12:Int)<(c.cs.length:Int)+(c.rs.length:Int):=by omega
  rw[if_neg (by omega)]
  simp(disch:=first|omega|exact PairsOK.mk rfl|(simp only[lenW]<;>omega)) only[s21,wW,wV,simprocAttr]
  refine cp hE ?_
  simp(disch:=first|omega|exact PairsOK.mk rfl|(simp only[lenW]<;>omega)) only[g1,g2,g3,wW,wV,simprocAttr]
  refine QaG 140 (fun i:Nat=>[(1,.ptr 50 0 0),(5,.map 68 0),(6,.sl 76 0 0 i 1),(7,.nilsl),(41,.int .i64 c.ev.length),(42,.int .i64 i)]) (fun i=>[(50,.cells 0 [evns c.ev,itsV c.cs,itsV c.rs,exsZ c.xs,cosZ c.ks]),(68,nmsB []),(76,.cells 0 (ints (nz (List.range i))))]) (fun i=>i<=c.ev.length) (fun i=>c.ev.length-i) 0 1 180
    (fun _:Unit=>[(1,.ptr 50 0 0),(5,.map 68 0),(6,sliN (List.range c.ev.length)),(7,sliN [])]) (fun _=>[(50,.cells 0 [evns c.ev,itsV c.cs,itsV c.rs,exsZ c.xs,cosZ c.ks]),(68,nmsB [])]) (fun _=>True) ?_ (Nat.zero_le _) ?_ ?_
  · refine ⟨[(50, .blk 64 0), (68, .blk 90 0), (76, .nil)], rfl, au0, ?_, au11⟩
    exact RB.cells rfl rfl gg (RnL.same hnr) (RB.map rfl rfl gg Qej (RB.newnil rfl rfl RB.nil))
  · rintro i hi
    by_cases hlt:i<c.ev.length
    · have hrl : (ints (nz (List.range i))).length = i := by simp [ints]
      simp(disch:=first|omega|exact PairsOK.mk rfl|(simp only[lenW]<;>omega)) only[hlt,List.length_range,hrl,wW,wV,simprocAttr]
      refine⟨i+1,by omega,by omega,?_⟩
      rw[List.range_succ,Qbe,QaS]
      refine⟨[(50,.blk 50 0),(68,.blk 68 0),(76,.blk 76 1)],rfl,au0,?_,au11⟩
      exact RB.cells rfl rfl gg (RnL.same hnr) (RB.map rfl rfl gg Qej (RB.cells rfl rfl gg (RnL.same (SU.Qcs (Qab _) rfl)) RB.nil))
    · have e : i = c.ev.length := by omega
      subst e
      simp(disch:=first|omega|exact PairsOK.mk rfl|(simp only[lenW]<;>omega)) only[hlt,wW,wV,simprocAttr]
      refine⟨(),[(50,.blk 50 0),(68,.blk 68 0)],rfl,RO.zero,?_,?_⟩
      · exact RB.cells rfl rfl gg (RnL.same hnr) (RB.map rfl rfl gg Qej RB.nil)
      · exact RT.cons (Rn.x2 rfl rfl) (RT.cons (Rn.x3 rfl rfl) (RT.cons (Rn.fzm (b:=76) (g:=0) gg rfl rfl (by simp) (by simp[ints]) (RnL.same (Qab _))) (RT.cons Rn.nilK RT.nil)))
  rintro _ _
  simp(disch:=first|omega|exact PairsOK.mk rfl|(simp only[lenW]<;>omega)) only[wW,wV,simprocAttr]
  have hcsi:∀i,(∀j,j<i->csE c j=0)->∀x∈c.cs.take i,au (natA x.2)=x.2/\WfA (natA x.2):=fun i hb x hx=>by
    obtain⟨j,hj,rfl⟩:=List.getElem_of_mem hx
    rw[List.length_take]at hj
    have hjc:c.cs[j]?=some (c.cs.take i)[j]:=by rw[List.getElem_take];exact List.getElem?_eq_getElem (by omega)
    have h1:=hb j (by omega)
    unfold csE at h1
    rw[QaD hjc]at h1
    exact(Qd9 (h.ci _ (List.mem_of_getElem? hjc)) h1).2
  have hU:∀i,(∀j,j<i->csE c j=0)->(uZ (c.cs.take i)).length<=32:=fun i hb=>Qmn fun x hx=>⟨(hcsi i hb x hx).2.al,(hcsi i hb x hx).2.al5⟩
  refine QaG 240 (fun i:Nat=>[(1,.ptr 50 0 0),(5,.map 68 0),(6,sliN (List.range c.ev.length)),(7,sliN (uZ (c.cs.take i))),(51,itsV c.cs),(52,.int .i64 c.cs.length),(53,.int .i64 i)]) (fun i=>[(50,.cells 0 [evns c.ev,itsV c.cs,itsV c.rs,exsZ c.xs,cosZ c.ks]),(68,nmsB (nmZ (c.cs.take i)))]) (fun i=>i<=c.cs.length/\∀j,j<i->csE c j=0) (fun i=>c.cs.length-i) 0 3 280
    (fun _:Unit=>[(1,.ptr 50 0 0),(5,.map 68 0),(7,sliN (uZ c.cs))]) (fun _=>[(50,.cells 0 [evns c.ev,itsV c.cs,itsV c.rs,exsZ c.xs,cosZ c.ks]),(68,nmsB (nmZ c.cs))]) (fun _=>∀j,j<c.cs.length->csE c j=0) ?_ ⟨Nat.zero_le _,fun j hj=>absurd hj (Nat.not_lt_zero _)⟩ ?_ ?_
  · refine ⟨[(50, .blk 50 0), (68, .blk 68 0)], rfl, au0, ?_, au11⟩
    exact RB.cells rfl rfl gg (RnL.same hnr) (RB.map rfl rfl gg Qej RB.nil)
  · rintro i ⟨hi, hb⟩
    by_cases hlt:i<c.cs.length
    · obtain ⟨x, hx⟩ := Qas hlt
      have hxm:=List.mem_of_getElem? hx
      have hdr:=Qdz hx
      have hdl:5<=((c.cs.flatMap itV).drop (i*5)).length:=by rw[hdr];simp
      have hnl:(nmZ (c.cs.take i)).length<=100:=by simp[nmZ];omega
      have ke:csE c i=itEr c.ev.length (List.range c.ev.length) (nmZ (c.cs.take i)) x:=by unfold csE;rw[QaD hx]
      have hI:=fun{hh:Heap} (h68:hh.get 68=some (nmsB (nmZ (c.cs.take i))))=>item83XF x c.ev.length (List.range c.ev.length) (nmZ (c.cs.take i)) (h.ci x hxm) hnl (by simp;omega) h68
      rw[<-ke]at hI
      by_cases q:csE c i=0
      · obtain ⟨k1, k2, k3⟩ := Qd9 (h.ci x hxm) (ke ▸ q)
        rw[k1,q]at hI
        have hns:=Qii hx
        have hUi:=hU i hb
        have hal:=Qbp k3.al k3.al5
        have hUn:=union84 (uZ (c.cs.take i)) (natA x.2).al (by omega) (by omega)
        rw[<-Ql2 hx]at hUn
        have eal:sli x.2.al=sliN (natA x.2).al:=by rw[<-Qdf];exact congrArg (fun b=>sli b.al) k2.symm
        rw[<-eal]at hUn
        simp(disch:=first|omega|exact PairsOK.mk rfl|(simp only[lenW]<;>omega)) only[hlt,hdr,hdl,wW,wV,simprocAttr]
        refine SU.chc (hI gg) ?_
        simp(disch:=first|omega|exact PairsOK.mk rfl|(simp only[lenW]<;>omega)) only[wW,wV,simprocAttr]
        refine cp hUn ?_
        simp(disch:=first|omega|exact PairsOK.mk rfl|(simp only[lenW]<;>omega)) only[wW,wV,simprocAttr]
        refine⟨i+1,by omega,⟨by omega,fe_up hb q⟩,?_⟩
        rw[hns]
        refine⟨[(50,.blk 50 0),(68,.blk 68 0)],rfl,au0,?_,au11⟩
        exact RB.cells rfl rfl gg (RnL.same hnr) (RB.map rfl rfl gg (RnM.mapS fun _ _=>Rn.same rfl) RB.nil)
      · have hfe := fe_at (f := csE c) rfl q hb hlt
        simp(disch:=first|omega|exact PairsOK.mk rfl|(simp only[lenW]<;>omega)) only[hlt,hdr,hdl,wW,wV,simprocAttr]
        refine SU.chc (hI gg) ?_
        simp(disch:=first|omega|exact PairsOK.mk rfl|(simp only[lenW]<;>omega)) only[q,wW,wV,simprocAttr]
        exact⟨.inr trivial,_,rfl,by rw[hfe,if_pos q];rfl⟩
    · have e : i = c.cs.length := by omega
      subst e
      simp(disch:=first|omega|exact PairsOK.mk rfl|(simp only[lenW]<;>omega)) only[hlt,List.take_length,wW,wV,simprocAttr]
      refine⟨(),hb,?_⟩
      refine⟨[(50,.blk 50 0),(68,.blk 68 0)],rfl,au0,?_,au11⟩
      exact RB.cells rfl rfl gg (RnL.same hnr) (RB.map rfl rfl gg (RnM.mapS fun _ _=>Rn.same rfl) RB.nil)
  rintro _ hbc
  rw[if_neg (fun h=>h (Qbb hbc))]
  have hUc:(uZ c.cs).length<=32:=by
    have:=hU c.cs.length hbc
    rwa [List.take_length]at this
  simp(disch:=first|omega|exact PairsOK.mk rfl|(simp only[lenW]<;>omega)) only[wW,wV,simprocAttr]
  refine QaG 340 (fun i:Nat=>[(1,.ptr 50 0 0),(5,.map 68 0),(7,sliN (uZ c.cs)),(74,itsV c.rs),(75,.int .i64 c.rs.length),(76,.int .i64 i)]) (fun i=>[(50,.cells 0 [evns c.ev,itsV c.cs,itsV c.rs,exsZ c.xs,cosZ c.ks]),(68,nmsB (nmZ c.cs++nmZ (c.rs.take i)))]) (fun i=>i<=c.rs.length/\∀j,j<i->rsE c j=0) (fun i=>c.rs.length-i) 0 5 380
    (fun _:Unit=>[(1,.ptr 50 0 0)]) (fun _=>[(50,.cells 0 [evns c.ev,itsV c.cs,itsV c.rs,exsZ c.xs,cosZ c.ks])]) (fun _=>fe (rsE c) c.rs.length=0) ?_ ⟨Nat.zero_le _,fun j hj=>absurd hj (Nat.not_lt_zero _)⟩ ?_ ?_
  · rw [show nmZ c.cs ++ nmZ (c.rs.take 0) = nmZ c.cs by simp [nmZ]]
    refine⟨[(50,.blk 50 0),(68,.blk 68 0)],rfl,au0,?_,au11⟩
    exact RB.cells rfl rfl gg (RnL.same hnr) (RB.map rfl rfl gg (RnM.mapS fun _ _=>Rn.same rfl) RB.nil)
  · rintro i ⟨hi, hb⟩
    by_cases hlt:i<c.rs.length
    · obtain ⟨x, hx⟩ := Qas hlt
      have hxm:=List.mem_of_getElem? hx
      have hdr:=Qdz hx
      have hdl:5<=((c.rs.flatMap itV).drop (i*5)).length:=by rw[hdr];simp
      have hnl:(nmZ c.cs++nmZ (c.rs.take i)).length<=100:=by simp[nmZ];omega
      have ke:rsE c i=itEr c.ev.length (uZ c.cs) (nmZ c.cs++nmZ (c.rs.take i)) x:=by unfold rsE;rw[QaD hx]
      have hI:=fun{hh:Heap} (h68:hh.get 68=some (nmsB (nmZ c.cs++nmZ (c.rs.take i))))=>item83XF x c.ev.length (uZ c.cs) (nmZ c.cs++nmZ (c.rs.take i)) (h.ri x hxm) hnl (by omega) h68
      rw[<-ke]at hI
      by_cases q:rsE c i=0
      · obtain ⟨k1, _, _⟩ := Qd9 (h.ri x hxm) (ke ▸ q)
        rw[k1,q]at hI
        have hns:=Qii hx
        simp(disch:=first|omega|exact PairsOK.mk rfl|(simp only[lenW]<;>omega)) only[hlt,hdr,hdl,wW,wV,simprocAttr]
        refine SU.chc (hI gg) ?_
        simp(disch:=first|omega|exact PairsOK.mk rfl|(simp only[lenW]<;>omega)) only[wW,wV,simprocAttr]
        refine⟨i+1,by omega,⟨by omega,fe_up hb q⟩,?_⟩
        rw[hns,<-List.append_assoc]
        refine⟨[(50,.blk 50 0),(68,.blk 68 0)],rfl,au0,?_,au11⟩
        exact RB.cells rfl rfl gg (RnL.same hnr) (RB.map rfl rfl gg (RnM.mapS fun _ _=>Rn.same rfl) RB.nil)
      · have hfe := fe_at (f := rsE c) rfl q hb hlt
        simp(disch:=first|omega|exact PairsOK.mk rfl|(simp only[lenW]<;>omega)) only[hlt,hdr,hdl,wW,wV,simprocAttr]
        refine SU.chc (hI gg) ?_
        simp(disch:=first|omega|exact PairsOK.mk rfl|(simp only[lenW]<;>omega)) only[q,wW,wV,simprocAttr]
        exact⟨.inr trivial,_,rfl,by rw[hfe,if_pos q];rfl⟩
    · simp (disch := first | omega | exact PairsOK.mk rfl | (simp only [lenW] <;> omega)) only [hlt, wW, wV, simprocAttr]
      refine⟨(),Qbb fun j hj=>hb j (by omega),?_⟩
      refine⟨[(50,.blk 50 0)],rfl,au0,?_,au11⟩
      exact RB.cells rfl rfl gg (RnL.same hnr) RB.nil
  rintro _ hbr
  rw[if_neg (fun h=>h hbr)]
  simp(disch:=first|omega|exact PairsOK.mk rfl|(simp only[lenW]<;>omega)) only[wW,wV,simprocAttr]
  refine cp hdL ?_
  simp(disch:=first|omega|exact PairsOK.mk rfl|(simp only[lenW]<;>omega)) only[wW,wV,simprocAttr]
  refine cp hdC ?_
  simp(disch:=first|omega|exact PairsOK.mk rfl|(simp only[lenW]<;>omega)) only[wW,wV,simprocAttr]
  exact⟨.inr trivial,_,rfl,rfl⟩
end Go.AM.SO
namespace Go.AM.TY
open Go.Proofs
set_option maxHeartbeats 4000000
noncomputable section
def cf:YA.Cf:={most:= .pure}
def s89:SFn:=by
 refine(?f:YA.Yt Tryz.prog cf 89 [[0,4],[12,13,11,14,15],[16],[1,5,6,17,18,19,20],[4,6,17],[21],[],[25,26,27],[9,28,29,30,31,32],[33],[1,22,23,24,35,36,37,34,38,39],[40],[5,7,10,6,41,42,43,44],[5,7,10,6,41,45,46,47,48,49,50]]) ?s ?h
 case h=>exact YA.rr
 exact fun s _=>s
theorem ok89:okFn Tryz.prog 89 s89=true:=by kernel_rfl
end
end Go.AM.TY
namespace Go.AM.TP
open Go.Proofs
set_option maxHeartbeats 4000000
noncomputable section
def cf:YA.Cf:={most:= .pure,always:=[41].map fun k=>(k,.heap)}
def s16:SFn:=by
 refine(?f:YA.Yt Tryz.prog cf 16 [[0,3,4],[6,7],[8],[1,5,9,10,11],[1,5,9,12,13,14,15,16,17,18]]) ?s ?h
 case h=>exact YA.rr
 exact fun s _=>s
theorem ok16:okFn Tryz.prog 16 s16=true:=by kernel_rfl
end
end Go.AM.TP
namespace Go.AM.TQ
open Go.Proofs
set_option maxHeartbeats 4000000
noncomputable section
def cf:YA.Cf:={most:= .pure,always:=[263,251,200].map fun k=>(k,.heap),value:= .pure}
def s17:SFn:=by
 refine(?f:YA.Yt Tryz.prog cf 17 [[0],[19,20,18,21,22],[23],[1,4,5,24,25,26],[5,24,27,28,29,30,31],[32,33,34],[],[38,39,40,41],[8,43,44,45,42,46,47],[48,49,50,51,52,53,54],[55,56,57,58,59,60,61,62,63,64,65,66,67,68,69,70,71,72,73,74],[9,76,77,78,79,80,81,75,82,83,84,85,15],[14],[7,10,11,12,13,86,87,88,89,90,91,92,93,94,95],[10,11,12,13,86,96,97,98],[99,100],[101],[102,103,104,105,106,107],[7,16,17,108,109,110,111,112,113,114,115,116,117],[7,99,118],[1,4,6,35,36,37,119]] [(10,[(4,7),(5,7),(4,13),(5,13),(10,13),(11,13),(3,15),(5,15),(9,15),(11,15)])]) ?s ?h
 case h=>exact YA.rr
 exact fun s _=>s
theorem ok17:okFn Tryz.prog 17 s17=true:=by kernel_rfl
end
end Go.AM.TQ
namespace Go.AM.TR
open Go.Proofs
set_option maxHeartbeats 4000000
noncomputable section
def cf:YA.Cf:={most:= .pure,always:=[58,59].map fun k=>(k,.heap)}
def s60:SFn:=by
 refine(?f:YA.Yt Tryz.prog cf 60 [[0,2,3],[8,9,10],[5],[12,13,14,15,11,16,17,18,19,20,21,22],[23],[1,4,5,24,25],[2,3,24,27,28,29,30,31,32,33,34,35,36,26,37,38,39,40,41,42,43],[44],[1,4,5,45,46],[2,3,1,5,45,47,48,49,50,51,52,53,54,55],[56,57,58],[],[62,63,64,65],[6,7,66,67,68,69,70,71,72],[73],[4,59,60,61,74]] [(9,[(4,6)])]) ?s ?h
 case h=>exact YA.rr
 exact fun s _=>s
theorem ok60:okFn Tryz.prog 60 s60=true:=by kernel_rfl
end
end Go.AM.TR
namespace Go.AM.SO
open Go.Proofs Go.AM.SD Go.AM.SE
theorem Qbs (c:CelN):noRefs [celZ c]=true:=by rw[noRefs,celZ,noRef,Qax];rfl
abbrev auN:AV:= .agg [.nilsl,.int .i64 0,.nilsl,.nilsl]
abbrev spN:AV:= .agg [.nilsl,.int .i64 0,.nilsl,.nilsl,.nilsl,.nilsl,.nilsl,.nilsl]
abbrev rsN9:AV:= .agg [.nilsl,.nilsl,.nilsl,.int .i64 0,.nilsl,.int .i64 0,.nilsl,.nilsl,.nilsl]
theorem plant17X (c:CelN) (h:CelOk c) (h0:celErr c≠0):PSpec Tryz.prog 16 [celZ c] (.tup [auN,.nilsl,.int .i64 (celErr c)]):=by
 have hnr:=Qax c
 have hC:=check21X c h
 refine PSpec.Qad 64 TP.ok16 rfl (Qbs c) rfl ?_
 generalize celErr c=e at*
 simp(disch:=first|omega|exact PairsOK.mk rfl|(simp only[lenW]<;>omega)) only[TP.s16,wW,wV,simprocAttr]
 refine cp hC ?_
 simp(disch:=first|omega|exact PairsOK.mk rfl|(simp only[lenW]<;>omega)) only[h0,wW,wV,simprocAttr]
 exact⟨.inr trivial,_,rfl,rfl⟩
theorem open70X (c:CelN) (h:CelOk c) (h0:celErr c≠0):PSpec Tryz.prog 60 [celZ c] (.tup [.nilptr,.int .i64 (celErr c)]):=by
 have hnr:=Qax c
 have hC:=plant17X c h h0
 refine PSpec.Qad 64 TR.ok60 rfl (Qbs c) rfl ?_
 generalize celErr c=e at*
 simp(disch:=first|omega|exact PairsOK.mk rfl|(simp only[lenW]<;>omega)) only[TR.s60,wW,wV,simprocAttr]
 refine cp hC ?_
 simp(disch:=first|omega|exact PairsOK.mk rfl|(simp only[lenW]<;>omega)) only[h0,wW,wV,simprocAttr]
 exact⟨.inr trivial,_,rfl,rfl⟩
theorem specify18X (c:CelN) (h:CelOk c) (h0:celErr c≠0):PSpec Tryz.prog 17 [celZ c] (.tup [spN,.int .i64 (celErr c)]):=by
 have hnr:=Qax c
 have hC:=open70X c h h0
 refine PSpec.Qad 64 TQ.ok17 rfl (Qbs c) rfl ?_
 generalize celErr c=e at*
 simp(disch:=first|omega|exact PairsOK.mk rfl|(simp only[lenW]<;>omega)) only[TQ.s17,wW,wV,simprocAttr]
 refine cp hC ?_
 simp(disch:=first|omega|exact PairsOK.mk rfl|(simp only[lenW]<;>omega)) only[h0,wW,wV,simprocAttr]
 exact⟨.inr trivial,_,rfl,rfl⟩
theorem cell22X (c:CelN) (h:CelOk c) (h0:celErr c≠0):PSpec Tryz.prog 89 [celZ c] (.tup [spN,rsN9,.int .i64 (celErr c)]):=by
 have hnr:=Qax c
 have hC:=specify18X c h h0
 refine PSpec.Qad 64 TY.ok89 rfl (Qbs c) rfl ?_
 generalize celErr c=e at*
 simp(disch:=first|omega|exact PairsOK.mk rfl|(simp only[lenW]<;>omega)) only[TY.s89,wW,wV,simprocAttr]
 refine cp hC ?_
 simp(disch:=first|omega|exact PairsOK.mk rfl|(simp only[lenW]<;>omega)) only[h0,wW,wV,simprocAttr]
 exact⟨.inr trivial,_,rfl,rfl⟩
structure CelR (c:CelN):Prop where
 el:c.ev.length<=9223372036854775807
 en:∀x∈c.ev,x.nm.length<=9223372036854775807
 cl:c.cs.length<=9223372036854775807
 rl:c.rs.length<=9223372036854775807
 xl:c.xs.length<=9223372036854775807
 kl:c.ks.length<=9223372036854775807
 ci:∀x∈c.cs++c.rs,x.1.length<=9223372036854775807/\x.2.al.length<=9223372036854775807/\x.2.ms.length<=9223372036854775807/\x.2.es.length<=9223372036854775807
 xi:∀x∈c.xs,x.1.length<=9223372036854775807/\x.2.length<=8796093021952
 ki:∀x∈c.ks,x.1.length<=9223372036854775807/\x.2.1.length<=8796093021952
theorem CelR.ok {c:CelN} (h:CelR c) (h1:c.cs.length<=4) (h2:c.rs.length<=4) (h3:c.xs.length<=4) (h4:c.ks.length<=4) (hi:∀x∈c.cs++c.rs,x.2.n<=4/\x.2.es.length<=12):CelOk c:=by
 have hI:∀x∈c.cs++c.rs,ItOk x:=fun x hx=>by
  obtain⟨a1,a2,a3,a4⟩:=h.ci x hx
  obtain⟨b1,b2⟩:=hi x hx
  exact⟨a1,a2,a3,by omega,by omega⟩
 exact⟨h.el,h.en,by omega,by omega,by omega,by omega,fun x hx=>hI x (List.mem_append_left _ hx),fun x hx=>hI x (List.mem_append_right _ hx),h.xi,h.ki⟩
end Go.AM.SO
namespace Go.AM.SO
open Go.Proofs Go.AM.SD Go.AM.SE
abbrev tyI:Ty:= .int .i64
abbrev tyEv:Ty:= .st (.pair .str (.pair .bool (.pair .bool (.pair .bool (.pair tyI .unit)))))
abbrev tyEg:Ty:= .st (.pair tyI (.pair tyI (.pair tyI .unit)))
abbrev tyAu:Ty:= .st (.pair (.sl tyI) (.pair tyI (.pair (.sl tyI) (.pair (.sl tyEg) .unit))))
abbrev tyIt:Ty:= .st (.pair .str (.pair tyAu .unit))
abbrev tyPr:Ty:= .st (.pair tyI (.pair tyI .unit))
abbrev tyEx:Ty:= .st (.pair .str (.pair (.sl tyPr) .unit))
abbrev tyCo:Ty:= .st (.pair .str (.pair (.sl tyPr) (.pair tyI .unit)))
abbrev tyCel:Ty:= .st (.pair (.sl tyEv) (.pair (.sl tyIt) (.pair (.sl tyIt) (.pair (.sl tyEx) (.pair (.sl tyCo) .unit)))))
def inEv (d:tyEv.D):Evn:=⟨d.1,d.2.1,d.2.2.1,d.2.2.2.1,d.2.2.2.2.1⟩
def inEg (d:tyEg.D):Eg:=⟨d.1,d.2.1,d.2.2.1⟩
def inAu (d:tyAu.D):Au:=⟨d.1,d.2.1,d.2.2.1,(show List tyEg.D from d.2.2.2.1).map inEg⟩
def inIt (d:tyIt.D):Itn:=(d.1,inAu d.2.1)
def inPr (d:tyPr.D):Int×Int:=(d.1,d.2.1)
def inEx (d:tyEx.D):Exn:=(d.1,(show List tyPr.D from d.2.1).map inPr)
def inCo (d:tyCo.D):Con:=(d.1,(show List tyPr.D from d.2.1).map inPr,d.2.2.1)
def inCel (d:tyCel.D):CelN:=⟨(show List tyEv.D from d.1).map inEv,(show List tyIt.D from d.2.1).map inIt,(show List tyIt.D from d.2.2.1).map inIt,(show List tyEx.D from d.2.2.2.1).map inEx,(show List tyCo.D from d.2.2.2.2.1).map inCo⟩
theorem rowV {t:Ty} {α:Type} {f:t.D->α} {g:α->List AV} (h:∀x,t.cells x=g (f x)) (l:List t.D):l.flatMap t.cells=(l.map f).flatMap g:=by
 rw[List.flatMap_map]
 have:t.cells=fun x=>g (f x):=funext h
 rw[this]
theorem slV {t:Ty} {α:Type} {f:t.D->α} {g:α->List AV} (h:∀x,t.cells x=g (f x)) (l:List t.D):Ty.cells (.sl t) l=[.fsl ((l.map f).flatMap g) (l.map f).length t.sz]:=by
 show[AV.fsl (l.flatMap t.cells) l.length t.sz]=_
 rw[rowV h,List.length_map]
theorem slI (l:List Int):Ty.cells (.sl tyI) l=[sli l]:=by
 show[AV.fsl (l.flatMap fun n=>[.int .i64 n]) l.length 1]=_
 have:(l.flatMap fun n=>[AV.int .i64 n])=ints l:=by
  induction l with
  |nil=>rfl
  |cons x l ih=>rw[List.flatMap_cons,ih];rfl
 rw[this]
theorem cAu (d:tyAu.D):tyAu.cells d=[sli (inAu d).al,.int .i64 (inAu d).n,sli (inAu d).ms,egs (inAu d).es]:=by
 show Ty.cells (.sl tyI) d.1++([.int .i64 d.2.1]++(Ty.cells (.sl tyI) d.2.2.1++(Ty.cells (.sl tyEg) d.2.2.2.1++[])))=_
 rw[slI,slI,slV (t:=tyEg) (f:=inEg) (g:=egC) (fun _=>rfl)]
 rfl
theorem cIt (d:tyIt.D):tyIt.cells d=itV (inIt d):=by
 show[AV.str d.1]++(tyAu.cells d.2.1++[])=_
 rw[cAu];rfl
theorem cPr (d:tyPr.D):tyPr.cells d=prZ (inPr d):=rfl
theorem cEx (d:tyEx.D):tyEx.cells d=exZ (inEx d):=by
 show[AV.str d.1]++(Ty.cells (.sl tyPr) d.2.1++[])=_
 rw[slV (t:=tyPr) (f:=inPr) (g:=prZ) cPr];rfl
theorem cCo (d:tyCo.D):tyCo.cells d=coZ (inCo d):=by
 show[AV.str d.1]++(Ty.cells (.sl tyPr) d.2.1++([.int .i64 d.2.2.1]++[]))=_
 rw[slV (t:=tyPr) (f:=inPr) (g:=prZ) cPr];rfl
theorem cCel (d:tyCel.D):tyCel.val d=celZ (inCel d):=by
 show AV.agg (Ty.cells (.sl tyEv) d.1++(Ty.cells (.sl tyIt) d.2.1++(Ty.cells (.sl tyIt) d.2.2.1++(Ty.cells (.sl tyEx) d.2.2.2.1++(Ty.cells (.sl tyCo) d.2.2.2.2.1++[])))))=_
 rw[slV (t:=tyEv) (f:=inEv) (g:=evnC) (fun _=>rfl),slV (t:=tyIt) (f:=inIt) (g:=itV) cIt,slV (t:=tyIt) (f:=inIt) (g:=itV) cIt,slV (t:=tyEx) (f:=inEx) (g:=exZ) cEx,slV (t:=tyCo) (f:=inCo) (g:=coZ) cCo]
 rfl
theorem Qjs {ts:List TypeId} {u b:Nat} (h:(eltT Tryz.prog ts==[u]&&Tryz.prog.bytesOf u==b)=true) {n:Nat} (hn:∀e∈eltT Tryz.prog ts,n*Tryz.prog.bytesOf e<=reachBytes):n*b<=140737488351232:=by
 simp only[Bool.and_eq_true,beq_iff_eq]at h
 have:=hn u (by rw[h.1];simp)
 rw[h.2]at this
 exact this
theorem Qmo {d:tyCel.D} (h:tyCel.wf d) (hz:tyCel.sized Tryz.prog [28] d):CelR (inCel d):=by
 obtain⟨⟨e1,e2⟩,⟨c1,c2⟩,⟨r1,r2⟩,⟨x1,x2⟩,⟨k1,k2⟩,_⟩:=h
 obtain⟨_,_,_,⟨_,zx⟩,⟨_,zk⟩,_⟩:=hz
 have it:∀x:tyIt.D,tyIt.wf x->(inIt x).1.length<=9223372036854775807/\(inIt x).2.al.length<=9223372036854775807/\(inIt x).2.ms.length<=9223372036854775807/\(inIt x).2.es.length<=9223372036854775807:=fun x hx=>by
  obtain⟨n1,⟨a1,a2,a3,a4,_⟩,_⟩:=hx
  exact⟨n1,a1.1,a3.1,by show(List.map _ _).length<=_;rw[List.length_map];exact a4.1⟩
 refine⟨?_,fun x hx=>?_,?_,?_,?_,?_,fun x hx=>?_,fun x hx=>?_,fun x hx=>?_⟩
 ·show(List.map _ _).length<=_;rw[List.length_map];exact e1
 ·obtain ⟨y, hy, rfl⟩ := List.mem_map.1 hx
  exact(e2 y hy).1
 ·show(List.map _ _).length<=_;rw[List.length_map];exact c1
 ·show(List.map _ _).length<=_;rw[List.length_map];exact r1
 ·show(List.map _ _).length<=_;rw[List.length_map];exact x1
 ·show(List.map _ _).length<=_;rw[List.length_map];exact k1
 ·rcases List.mem_append.1 hx with hx | hx
  ·obtain ⟨y, hy, rfl⟩ := List.mem_map.1 hx
   exact it y (c2 y hy)
  ·obtain ⟨y, hy, rfl⟩ := List.mem_map.1 hx
   exact it y (r2 y hy)
 ·obtain ⟨y, hy, rfl⟩ := List.mem_map.1 hx
  obtain⟨_,⟨zl,_⟩,_⟩:=zx y hy
  have:=Qjs (u:=141) (b:=16) (by kernel_rfl) zl
  refine⟨(x2 y hy).1,?_⟩
  show(List.map inPr y.2.1).length<=_
  rw[List.length_map]
  exact Nat.le_of_mul_le_mul_right (Nat.le_trans this (by decide)) (show 0<16 by decide)
 ·obtain ⟨y, hy, rfl⟩ := List.mem_map.1 hx
  obtain⟨_,⟨zl,_⟩,_⟩:=zk y hy
  have:=Qjs (u:=146) (b:=16) (by kernel_rfl) zl
  refine⟨(k2 y hy).1,?_⟩
  show(List.map inPr y.2.1).length<=_
  rw[List.length_map]
  exact Nat.le_of_mul_le_mul_right (Nat.le_trans this (by decide)) (show 0<16 by decide)
end Go.AM.SO
namespace Go.AM.EA
open Go.Proofs
set_option maxHeartbeats 4000000
noncomputable section
def cf:YA.Cf:={most:= .pure,always:=[70,71].map fun k=>(k,.heap),value:= .pure}
def s4:SFn:=by
 refine(?f:YA.Yt Tryz.prog cf 4 [[0,2],[18,19,20,21,22,23],[1,24,25],[2,24,26,27],[28],[1,3,29],[2,29,31,32,30,33,34],[36,37,35,38,39],[41,42,40,43,44,45],[47,48,46,49,50,51],[53,54,52,55,56],[1,58,59,60,57,61,62],[3,4,5,6,7,8,9,10,11,12,13,14,15,16,17,63,64,65,66,67,68,69,70,71,72,73,74,75,76,77,78,79,80,81,82,83,84,85,86,87,88,89,90,91,92,93,94,95,96,97,98,99,100,101,102,103,104,105,106,107,108,109,110,111,112,113,114,115,116,117,118,119,120]]) ?s ?h
 case h=>exact YA.rr
 exact fun s _=>s
def s20:SFn:=by
 refine(?f:YA.Yt Tryz.prog cf 20 [[0,2],[3,4,5,6,7,8,9,10,11,12,13,14,15,16,17,18,19,20,21,22,23,24,25,26,27,28,29],[1,30],[1,30,31,32,33,34,35,36,37,38]] [(0,[(2,4)])]) ?s ?h
 case h=>exact YA.rr
 exact fun s _=>s
def s22:SFn:=by
 refine(?f:YA.Yt Tryz.prog cf 22 [[0,7],[1,12,13,14,11,15,16,17],[18],[2,3,8,9,10,19,20,21],[7,3,10,19,22,23,24,25,26,27,28,29],[2,8,9,30,31],[2,8,9,30,32,33,34,35]]) ?s ?h
 case h=>exact YA.rr
 exact fun s _=>s
def s23:SFn:=by
 refine(?f:YA.Yt Tryz.prog cf 23 [[0,5],[2,9,10,8,11,12],[14,15],[1,6,7,13,16,17],[7,13,19,20,21,22,23,24,25,26,27,28,29,30],[1,6,18,31],[18,33,34,35],[1,6,32,36],[1,6,32,37,38,39,40]]) ?s ?h
 case h=>exact YA.rr
 exact fun s _=>s
def s24:SFn:=by
 refine(?f:YA.Yt Tryz.prog cf 24 [[0,3,4],[1,7,8,6,9,10],[11,12,13,14,15,16,17,18,19,20],[5,21,22,23],[5,21,24,25]]) ?s ?h
 case h=>exact YA.rr
 exact fun s _=>s
def s25:SFn:=by
 refine(?f:YA.Yt Tryz.prog cf 25 [[0,6],[2,18,19,17,20,21],[23,24],[1,7,22,25],[6,22,27,28,29,30,31,32,33,34,35,36,37,38],[1,7,26],[26,40,41,42,43,44,45,46,47],[1,7,39],[6,39,48,49,50,51,52,53,54],[1,55,56,57],[],[10],[58],[59,60,61,62,63],[],[67,68,69],[70,71,72,73,74,75,76],[13,77,78,79,80,81,87,88,92,93],[12,98,99,100,101],[12,98,102],[8,10,97,95,96,94,91,90,89,86,85,82,84,83,103,104,105,106,107],[],[110,111],[112,113],[14,114,115,116,117,118],[14,114,119],[7,108,109,120,121,122,123,124],[],[128,129,130],[131,132,133,134,135],[16,141,142,143,144,145],[16,141,146],[9,140,139,136,138,137,125,126,127,147,148]] [(16,[(6,7)])]) ?s ?h
 case h=>exact YA.rr
 exact fun s _=>s
def s26:SFn:=by
 refine(?f:YA.Yt Tryz.prog cf 26 [[0,4,5],[1,13,14,15,12,16,17,18],[19],[2,6,7,8,20,21],[4,5,8,20],[2,22,23],[],[26,27],[28,29,30,31],[11,32,33,34,35],[10,39,40,41,42,43],[10,39,44],[6,7,9,24,25,38,37,36,45]]) ?s ?h
 case h=>exact YA.rr
 exact fun s _=>s
def s27:SFn:=by
 refine(?f:YA.Yt Tryz.prog cf 27 [[0,1,4,5],[10,11],[12],[2,3,6,13,14],[4,5,6,13,15],[18],[2,3,16,17],[17,20],[2,3,16,19],[16,19,22],[2,3,21,23,24,25,26,27,28,29,30],[4,5,21,31],[32,33,34],[35,36,37,38],[35,39],[],[43,44,45],[9,46,47,48,49,50,51,52,53,54],[55],[2,3,7,40,41,42,56,57,58,59,60,61,62]]) ?s ?h
 case h=>exact YA.rr
 exact fun s _=>s
def s28:SFn:=by
 refine(?f:YA.Yt Tryz.prog cf 28 [[0,2],[1,3,4,5]]) ?s ?h
 case h=>exact YA.rr
 exact fun s _=>s
def s36:SFn:=by
 refine(?f:YA.Yt Tryz.prog cf 36 [[4],[6,7,8,9],[0,1,10],[4,10,11],[],[14,15],[5,16,17,18,19,20,21,22,23],[0,1,12,13,24],[4,24,25],[0,1,12,13]]) ?s ?h
 case h=>exact YA.rr
 exact fun s _=>s
def s37:SFn:=by
 refine(?f:YA.Yt Tryz.prog cf 37 [[0,1,4],[7,8,9,10],[2,3,5,6,11,12,13,14,15,16,17,18,19,20,21,22,23,24,25,26,27,28,29,30,31,32,33,34,35,36,37,38,39,40,41,42,43,44,45,46,47,48,49,50,51,52,53,54,55,56,57,58,59,60,61,62]]) ?s ?h
 case h=>exact YA.rr
 exact fun s _=>s
def s70:SFn:=by
 refine(?f:YA.Yt Tryz.prog cf 70 [[4],[0,1,5,6,7,8]]) ?s ?h
 case h=>exact YA.rr
 exact fun s _=>s
def s71:SFn:=by
 refine(?f:YA.Yt Tryz.prog cf 71 [[2],[3],[0,4],[0,4,5,6,7]]) ?s ?h
 case h=>exact YA.rr
 exact fun s _=>s
def s72:SFn:=by
 refine(?f:YA.Yt Tryz.prog cf 72 [[0,2],[4,5],[1,3,6,7,8,9,10,11,12,13,14,15,16,17,18,19,20,21,22,23,24,25,26,27,28,29,30,31,32]]) ?s ?h
 case h=>exact YA.rr
 exact fun s _=>s
def s78:SFn:=by
 refine(?f:YA.Yt Tryz.prog cf 78 [[0,4,5,6],[2,15,16,14,17,18],[20,21],[1,7,8,19,22],[8,19,24,25,26,27,28,29,30],[1,7,23],[23,32,33,34],[1,7,31],[4,5,6,31,36,37,38,39,40,41,42,35,43,44,10],[9,45],[1,7,46],[4,5,6,1,46,48,49,50,51,52,53,54,47,55,56,57,12,13],[7,11,58,59,60,61,62,63,64,65,66]]) ?s ?h
 case h=>exact YA.rr
 exact fun s _=>s
def s80:SFn:=by
 refine(?f:YA.Yt Tryz.prog cf 80 [[0,2,3],[13,14,12,15,16,17],[18],[1,4,5,6,19,20],[2,3,19,22,23,21,24,25,26,8],[27],[1,4,5,6,7,28,29],[2,3,4,6,7,28,30,31,32,33,34,35,36],[1,38,39,40,41,37,42,43,44,45],[5,46,47],[],[51,52,53],[11,54,55,56,57,58,59,60],[61],[9,48,49,50,62]]) ?s ?h
 case h=>exact YA.rr
 exact fun s _=>s
def s127:SFn:=by
 refine(?f:YA.Yt Tryz.prog cf 127 [[4],[6],[],[9,10],[11,12,13,14,15],[0,1,7,8,5,16,17],[4,5,16,18],[0,1,7,8]]) ?s ?h
 case h=>exact YA.rr
 exact fun s _=>s
theorem ok4:okFn Tryz.prog 4 s4=true:=by kernel_rfl
theorem ok20:okFn Tryz.prog 20 s20=true:=by kernel_rfl
theorem ok22:okFn Tryz.prog 22 s22=true:=by kernel_rfl
theorem ok23:okFn Tryz.prog 23 s23=true:=by kernel_rfl
theorem ok24:okFn Tryz.prog 24 s24=true:=by kernel_rfl
theorem ok25:okFn Tryz.prog 25 s25=true:=by kernel_rfl
theorem ok26:okFn Tryz.prog 26 s26=true:=by kernel_rfl
theorem ok27:okFn Tryz.prog 27 s27=true:=by kernel_rfl
theorem ok28:okFn Tryz.prog 28 s28=true:=by kernel_rfl
theorem ok36:okFn Tryz.prog 36 s36=true:=by kernel_rfl
theorem ok37:okFn Tryz.prog 37 s37=true:=by kernel_rfl
theorem ok70:okFn Tryz.prog 70 s70=true:=by kernel_rfl
theorem ok71:okFn Tryz.prog 71 s71=true:=by kernel_rfl
theorem ok72:okFn Tryz.prog 72 s72=true:=by kernel_rfl
theorem ok78:okFn Tryz.prog 78 s78=true:=by kernel_rfl
theorem ok80:okFn Tryz.prog 80 s80=true:=by kernel_rfl
theorem ok127:okFn Tryz.prog 127 s127=true:=by kernel_rfl
end
end Go.AM.EA
namespace Go.AM
variable {P:Program}
def tight (i:Nat) (f:FP):Prop:=f.all=false/\∀b,b∈f.R\/b∈f.W->b∈[i]
def wpRS (P:Program) (z:Nat):Nat->List SOper->Tmps->Heap->(Tmps->Heap->Nat->Prop)->Prop
 |n,[],T,h,K=>K T h n
 |n,s::r,T,h,K=>∃v h1 f,StepV P n s T h v h1 f/\(n=z->tight n f)/\wpRS P z (n+1) r (putD T s.dst v) h1 K
theorem QgW {z:Nat}:∀{r:List SOper} {n:Nat} {T:Tmps} {h:Heap} {K:Tmps->Heap->Nat->Prop},z<n->wpR P n r T h K->wpRS P z n r T h K
 |[],n,T,h,K,_,hk=>hk
 |s::r,n,T,h,K,hz,⟨v,h1,f,hs,hr⟩=>⟨v,h1,f,hs,fun e=>by omega,QgW (by omega) hr⟩
theorem Ql3 {s:SOper} {K:Tmps->Heap->Nat->Prop}:∀(k:Nat) (r:List SOper) (n:Nat) (T:Tmps) (h:Heap),r[k]?=some s->
  wpR P n (r.take k) T h (fun T1 h1 n1=>∃v h2 f,StepV P n1 s T1 h1 v h2 f/\tight n1 f/\wpR P (n1+1) (r.drop (k+1)) (putD T1 s.dst v) h2 K)->wpRS P (n+k) n r T h K:=by
 intro k
 induction k with
 | zero =>
  intro r n T h e hw
  cases r with
  |nil=>cases e
  |cons t r=>
   rw[List.getElem?_cons_zero,Option.some.injEq]at e
   subst e
   rw[List.take_zero]at hw
   simp only[wpR]at hw
   obtain⟨v,h2,f,h3,h4,h5⟩:=hw
   rw[List.drop_succ_cons,List.drop_zero]at h5
   exact⟨v,h2,f,h3,fun _=>h4,QgW (by omega) h5⟩
 | succ k ih =>
  intro r n T h e hw
  cases r with
  |nil=>cases e
  |cons t r=>
   rw[List.take_succ_cons]at hw
   simp only[wpR]at hw
   obtain⟨v,h1,f,h3,h4⟩:=hw
   refine⟨v,h1,f,h3,fun e=>by omega,?_⟩
   rw[show n+(k+1)=n+1+k by omega]
   exact ih r (n+1) _ _ (by simpa using e) h4
theorem Qij {z:Nat}:∀{r:List SOper} {n:Nat} {T:Tmps} {h:Heap} {K:Tmps->Heap->Nat->Prop},wpRS P z n r T h K->∃T' h' n',K T' h' n'/\∀d,(∀s∈r,s.dst≠some d)->lk T' d=lk T d
 |[],n,T,h,K,hk=>⟨T,h,n,hk,fun _ _=>rfl⟩
 |s::r,n,T,h,K,⟨v,h1,f,hs,_,hr⟩=>by
  obtain⟨T',h',n',hk,he⟩:=Qij hr
  refine⟨T',h',n',hk,fun d hd=>?_⟩
  simp_all [Qba]
def touch3 (z i:Nat) (ax:Opd->Option (List Nat)) (s:SOp):Option (List Nat):=bif Nat.beq i z then some [i]else touch2 i ax s
def touchesN (z:Nat) (C:Claims) (n:Nat) (T:Tmps):List SOper->Abs->List (Option (List Nat))
 |[],_=>[]
 |s::r,A=>touch3 z n (absO T A) s.op::touchesN z C (n+1) T r (match s.dst with|some d=>(d,absH C d (s.op.absV n (absO T A)))::A|none=>A)
theorem Qik {T0:Tmps} {C:Claims} {z:Nat}:∀{r:List SOper} {n:Nat} {A:Abs} {T:Tmps} {h:Heap} {K:Tmps->Heap->Nat->Prop} (hA:AbsOK T0 A T) (K':List FP->Tmps->Heap->Nat->Prop)
  (hC:∀T h n,K T h n->∀d bs,clm C d=some bs->Pts (lk T d) bs) (hssa:ssa C r=true),
  (∀fs T h n',fs.length=r.length->(∀(j:Nat) ts,(touchesN z C n T0 r A).getD j none=some ts->(fs.getD j ⟨false,[],[]⟩).all=false/\∀b,b∈(fs.getD j ⟨false,[],[]⟩).R\/b∈(fs.getD j ⟨false,[],[]⟩).W->b∈ts)->K T h n'->K' fs T h n')->
  wpRS P z n r T h K->wpRF P n r T h K'
 |[],n,A,T,h,K,hA,K',hC,hssa,hK,hw=>hK [] T h n rfl (fun j ts hj=>by simp_all) hw
 | s :: r, n, A, T, h, K, hA, K', hC, hssa, hK, hw => by
  obtain⟨v,h1,f,hs,hz,hr⟩:=hw
  simp only[ssa,Bool.and_eq_true]at hssa
  obtain⟨hs1,hs2⟩:=hssa
  refine⟨v,h1,f,hs,?_⟩
  have hA2:AbsOK T0 (match s.dst with|some d=>(d,absH C d (s.op.absV n (absO T0 A)))::A|none=>A) (putD T s.dst v):=by
   cases e:s.dst with
   |none=>exact hA
   | some d =>
    refine AbsOK.up hA fun bs hb=>?_
    unfold absH at hb
    split at hb
    ·rename_i bs' hc
     cases hb
     obtain⟨T',h',n',hk,he⟩:=Qij hr
     have h3:=hC T' h' n' hk d _ hc
     rw[he d ?_,Qba,if_pos e]at h3
     ·exact h3
     ·intro s' hs'
      rw[e]at hs1
      simp only[hc,Option.isNone_some,Bool.false_or,List.all_eq_true]at hs1
      have:=hs1 s' hs'
      intro e2
      simp_all
    ·exact QfO hA.opd hb hs
  refine Qik hA2 (fun fs T h n=>K' (f::fs) T h n) hC hs2 (fun fs T h n' hl hf hk=>?_) hr
  refine hK (f::fs) T h n' (by simp[hl]) (fun j ts hj=>?_) hk
  cases j with
  | zero =>
   simp only[touchesN,List.getD_cons_zero]at hj⊢
   unfold touch3 at hj
   cases e:Nat.beq n z with
   |true=>
    rw[e]at hj
    simp only[cond_true,Option.some.injEq]at hj
    subst hj
    exact hz (by simpa using e)
   |false=>
    rw[e]at hj
    exact Qh9 hA.opd hj hs
  |succ j=>
   simp only[touchesN,List.getD_cons_succ]at hj⊢
   exact hf j ts hj
def NewAt (P:Program) (N:NM) (x:Opd) (ag:List Opd) (d:Option Nat) (r:List SOper) (n:Nat) (T:Tmps) (h:Heap) (Q:QC):Prop:=
 ∃f ys len sz,ev T x= .fn f [] []/\NSpec P f (evs T ag) ys len sz/\noRefs ys=true/\n<lim/\h.get n=none/\wR P N r [] [] (n+1) (putD T d (.sl n 0 0 len sz)) (h.set n (.cells 0 ys)) Q
theorem QjT (C:Claims) (k:Nat) {x:Opd} {ag:List Opd} {d:Option Nat} {N:NM} {ops:List SOper} {p:Nat×Nat} {ps:List (Nat×Nat)} {dead:List Nat} {fs:List Fr} {n:Nat} {T:Tmps} {h:Heap} {Q:QC} {af:List Nat} (hk:ops[k]?=some ⟨d,.call .heap x ag,af,none⟩) (hssa:ssa C ops=true) (hp:pairsOK (touchesN (n+k) C n T ops []) (p::ps)=true)
  (hw:wR P N (ops.take k) [] [] n T h fun e T h n=>NewAt P N x ag d (ops.drop (k+1)) n T h fun e T h n=>Clms T C/\wX P N .normal fs n (rm T dead) h Q):wS P N (.region ops (p::ps) dead) fs n T h Q:=by
 have rm0:∀T:Tmps,rm T []=T:=by
  intro T
  induction T with
  |nil=>rfl
  |cons p T ih=>obtain⟨j,v⟩:=p;simp[rm,ih]
 refine Qik (C:=C) (z:=n+k) (K:=fun T h n=>Clms T C/\wX P N .normal fs n (rm T dead) h Q) AbsOK.nil _ (fun T h n hk d bs hc=>hk.1.get d bs hc) hssa (fun fs' T h n' hl hf hk=>⟨?_,hk.2⟩) ?_
 ·rw [List.all_eq_true]
  intro q hq
  have:=List.all_eq_true.1 hp q hq
  split at this
  ·rename_i a b ha hb
   obtain⟨f1,f2⟩:=hf _ _ ha
   obtain⟨g1,g2⟩:=hf _ _ hb
   have hd:∀x y,x∈a->y∈b->x≠y:=by
    grind
   have dj:∀xs ys:List Nat,(∀x∈xs,∀y∈ys,x≠y)->disj xs ys=true:=by
    intro xs ys hh
    unfold disj
    grind
   grind [FP.apart]
  ·cases this
 ·refine Ql3 k ops n T h hk ?_
  have hw':wpR P n (ops.take k) T h fun T h n=>NewAt P N x ag d (ops.drop (k+1)) n (rm T []) h fun e T h n=>Clms T C/\wX P N .normal fs n (rm T dead) h Q:=hw
  simp only[rm0]at hw'
  have mono:∀{r:List SOper} {n:Nat} {T:Tmps} {h:Heap} {K K':Tmps->Heap->Nat->Prop},(∀T h n,K T h n->K' T h n)->wpR P n r T h K->wpR P n r T h K':=by
   intro r
   induction r with
   |nil=>intro n T h K K' hi hw;exact hi _ _ _ hw
   |cons s r ih=>intro n T h K K' hi hw;obtain⟨v,h1,f,hs,hr⟩:=hw;exact⟨v,h1,f,hs,ih hi hr⟩
  refine mono (fun T1 h1 n1 hh=>?_) hw'
  obtain⟨f,ys,len,sz,e1,e2,e3,e4,e5,e6⟩:=hh
  refine⟨.sl n1 0 0 len sz,h1.set n1 (.cells 0 ys),⟨false,[n1],[n1]⟩,?_,⟨rfl,fun b hb=>?_⟩,?_⟩
  ·refine ⟨.call .heap f (evs T1 ag), h1, ?_, .inr (.inr (.inl ⟨evs T1 ag, [], .inl ⟨rfl, rfl⟩, .inl ⟨ys, len, sz, e2, .inr ⟨e3, rfl⟩, e4, e5, rfl, rfl, rfl⟩⟩))⟩
   simp_all [aop,aCall,HM.run]
  ·simpa using hb
  ·have e6' : wpR P (n1 + 1) (ops.drop (k + 1)) (putD T1 d (.sl n1 0 0 len sz)) (h1.set n1 (.cells 0 ys)) fun T h n => Clms (rm T []) C /\ wX P N .normal fs n (rm (rm T []) dead) h Q := e6
   simp_all
end Go.AM
namespace Go.AM.SO
open Go.Proofs Go.AM.SD Go.AM.SE
abbrev xpC:List AV:=[.int .i64 0,.int .i64 0,.int .i64 0,.int .i64 0,.nilsl,.int .i64 0,.int .i64 0,.int .i64 0,.int .i64 0,.int .i64 0,.int .i64 0,.int .i64 0,.int .i64 0,.int .i64 0]
abbrev xpP:List AV:=[.int .i64 1,.int .i64 0,.int .i64 0,.int .i64 0,.nilsl,.int .i64 0,.int .i64 0,.int .i64 0,.int .i64 0,.int .i64 0,.int .i64 0,.int .i64 0,.int .i64 0,.int .i64 0]
theorem open80X (c:CelN) (h:CelOk c) (h0:celErr c≠0):PSpec Tryz.prog 80 [celZ c] (.tup [.nilptr,.int .i64 (celErr c)]):=by
 have hnr:=Qax c
 have hC:=cell22X c h h0
 refine PSpec.Qad 64 EA.ok80 rfl (Qbs c) rfl ?_
 generalize celErr c=e at*
 simp(disch:=first|omega|exact PairsOK.mk rfl|(simp only[lenW]<;>omega)) only[EA.s80,wW,wV,simprocAttr]
 refine cp hC ?_
 simp(disch:=first|omega|exact PairsOK.mk rfl|(simp only[lenW]<;>omega)) only[h0,wW,wV,simprocAttr]
 exact⟨.inr trivial,_,rfl,rfl⟩
theorem behind78X (c:CelN) (h:CelOk c) (h0:celErr c≠0):PSpec Tryz.prog 78 [celZ c,.nilsl] (.tup [.nilptr,.int .i64 0,.int .i64 (celErr c)]):=by
 have hnr:=Qax c
 have hC:=open80X c h h0
 refine PSpec.Qad 64 EA.ok78 rfl (by rw[noRefs,celZ,noRef,hnr];rfl) rfl ?_
 generalize celErr c=e at*
 simp(disch:=first|omega|exact PairsOK.mk rfl|(simp only[lenW]<;>omega)) only[EA.s78,wW,wV,simprocAttr]
 refine cp hC ?_
 simp(disch:=first|omega|exact PairsOK.mk rfl|(simp only[lenW]<;>omega)) only[h0,wW,wV,simprocAttr]
 exact⟨.inr trivial,_,rfl,rfl⟩
theorem event22X (c:CelN) (h:CelOk c) (h0:celErr c≠0):PSpec Tryz.prog 22 [celZ c,.nilsl,.int .i64 0] (.tup [.agg xpC,.int .i64 (celErr c)]):=by
 have hnr:=Qax c
 have hC:=behind78X c h h0
 refine PSpec.Qad 64 EA.ok22 rfl (by rw[noRefs,celZ,noRef,hnr];rfl) rfl ?_
 generalize celErr c=e at*
 simp(disch:=first|omega|exact PairsOK.mk rfl|(simp only[lenW]<;>omega)) only[EA.s22,wW,wV,simprocAttr]
 refine cp hC ?_
 simp(disch:=first|omega|exact PairsOK.mk rfl|(simp only[lenW]<;>omega)) only[h0,wW,wV,simprocAttr]
 exact⟨.inr trivial,_,rfl,rfl⟩
theorem state23X (c:CelN) (h:CelOk c) (h0:celErr c≠0):PSpec Tryz.prog 23 [celZ c,.int .i64 0] (.tup [.agg xpC,.int .i64 (celErr c)]):=by
 have hnr:=Qax c
 have hC:=open80X c h h0
 refine PSpec.Qad 64 EA.ok23 rfl (by rw[noRefs,celZ,noRef,hnr];rfl) rfl ?_
 generalize celErr c=e at*
 simp(disch:=first|omega|exact PairsOK.mk rfl|(simp only[lenW]<;>omega)) only[EA.s23,wW,wV,simprocAttr]
 refine cp hC ?_
 simp(disch:=first|omega|exact PairsOK.mk rfl|(simp only[lenW]<;>omega)) only[h0,wW,wV,simprocAttr]
 exact⟨.inr trivial,_,rfl,rfl⟩
theorem empty24X (c:CelN) (h:CelOk c) (h0:celErr c≠0):PSpec Tryz.prog 24 [celZ c] (.tup [.agg xpC,.bool false,.int .i64 (celErr c)]):=by
 have hnr:=Qax c
 have hC:=open80X c h h0
 refine PSpec.Qad 64 EA.ok24 rfl (Qbs c) rfl ?_
 generalize celErr c=e at*
 simp(disch:=first|omega|exact PairsOK.mk rfl|(simp only[lenW]<;>omega)) only[EA.s24,wW,wV,simprocAttr]
 refine cp hC ?_
 simp(disch:=first|omega|exact PairsOK.mk rfl|(simp only[lenW]<;>omega)) only[h0,wW,wV,simprocAttr]
 exact⟨.inr trivial,_,rfl,rfl⟩
theorem stuck25X (c:CelN) (h:CelOk c) (h0:celErr c≠0):PSpec Tryz.prog 25 [celZ c,.int .i64 0] (.tup [.nilsl,.nilsl,.int .i64 (celErr c)]):=by
 have hnr:=Qax c
 have hC:=open80X c h h0
 refine PSpec.Qad 64 EA.ok25 rfl (by rw[noRefs,celZ,noRef,hnr];rfl) rfl ?_
 generalize celErr c=e at*
 simp(disch:=first|omega|exact PairsOK.mk rfl|(simp only[lenW]<;>omega)) only[EA.s25,wW,wV,simprocAttr]
 refine cp hC ?_
 simp(disch:=first|omega|exact PairsOK.mk rfl|(simp only[lenW]<;>omega)) only[h0,wW,wV,simprocAttr]
 exact⟨.inr trivial,_,rfl,rfl⟩
theorem forb26X (c:CelN) (h:CelOk c) (h0:celErr c≠0):PSpec Tryz.prog 26 [celZ c,.nilsl] (.tup [.nilsl,.int .i64 (celErr c)]):=by
 have hnr:=Qax c
 have hC:=behind78X c h h0
 refine PSpec.Qad 64 EA.ok26 rfl (by rw[noRefs,celZ,noRef,hnr];rfl) rfl ?_
 generalize celErr c=e at*
 simp(disch:=first|omega|exact PairsOK.mk rfl|(simp only[lenW]<;>omega)) only[EA.s26,wW,wV,simprocAttr]
 refine cp hC ?_
 simp(disch:=first|omega|exact PairsOK.mk rfl|(simp only[lenW]<;>omega)) only[h0,wW,wV,simprocAttr]
 exact⟨.inr trivial,_,rfl,rfl⟩
theorem text27X (c:CelN) (h:CelOk c) (h0:celErr c≠0):PSpec Tryz.prog 27 [celZ c,.agg xpP] (.tup [.str [],.int .i64 (celErr c)]):=by
 have hnr:=Qax c
 have hC:=check21X c h
 refine PSpec.Qad 64 EA.ok27 rfl (by rw[noRefs,celZ,noRef,hnr];rfl) rfl ?_
 generalize celErr c=e at*
 simp(disch:=first|omega|exact PairsOK.mk rfl|(simp only[lenW]<;>omega)) only[EA.s27,wW,wV,simprocAttr]
 refine cp hC ?_
 simp(disch:=first|omega|exact PairsOK.mk rfl|(simp only[lenW]<;>omega)) only[h0,wW,wV,simprocAttr]
 exact⟨.inr trivial,_,rfl,rfl⟩
theorem same37X:PSpec Tryz.prog 37 [.agg xpC,.agg xpC] (.bool true):=by
 refine PSpec.Qad 64 EA.ok37 rfl rfl rfl ?_
 have hq:PSpec Tryz.prog 36 [.nilsl,.nilsl] (.bool true):=by
  refine PSpec.Qad 64 EA.ok36 rfl rfl rfl ?_
  simp(disch:=first|omega|exact PairsOK.mk rfl|(simp only[lenW]<;>omega)) only[EA.s36,wW,wV,simprocAttr]
  refine QaU 100 (fun i:Nat=>[(0,.nilsl),(1,.nilsl),(12,.int .i64 0),(13,.int .i64 0)]) (fun _=>[]) (fun i=>True) (fun i=>0) 0 ⟨[],rfl,au0,au10,au11⟩ trivial ?_
  rintro i _
  simp(disch:=first|omega|exact PairsOK.mk rfl|(simp only[lenW]<;>omega)) only[wW,wV,simprocAttr]
  exact⟨.inr trivial,_,rfl,rfl⟩
 have hr:aEq (.flat true [.i,.i,.i,.i]) false (.agg [.int .i64 0,.int .i64 0,.int .i64 0,.int .i64 0]) (.agg [.int .i64 0,.int .i64 0,.int .i64 0,.int .i64 0])=some (.bool true):=rfl
 simp(disch:=first|omega|exact PairsOK.mk rfl|(simp only[lenW]<;>omega)) only[EA.s37,wW,wV,simprocAttr]
 refine cp hq ?_
 simp(disch:=first|omega|exact PairsOK.mk rfl|(simp only[lenW]<;>omega)) only[hr,wW,wV,simprocAttr]
 exact⟨.inr trivial,_,rfl,rfl⟩
theorem none28X:PSpec Tryz.prog 28 [.agg xpC] (.bool true):=by
 refine PSpec.Qad 64 EA.ok28 rfl rfl rfl ?_
 simp(disch:=first|omega|exact PairsOK.mk rfl|(simp only[lenW]<;>omega)) only[EA.s28,wW,wV,simprocAttr]
 refine cp same37X ?_
 simp(disch:=first|omega|exact PairsOK.mk rfl|(simp only[lenW]<;>omega)) only[wW,wV,simprocAttr]
 exact⟨.inr trivial,_,rfl,rfl⟩
def smE (x:Itn):Bool:=decide (50<x.1.length\/4<x.2.n\/12<x.2.al.length\/12<x.2.ms.length\/12<x.2.es.length)
theorem sm72 (x : Itn) (h1 : x.1.length <= 9223372036854775807) (h2 : x.2.al.length <= 9223372036854775807) (h3 : x.2.ms.length <= 9223372036854775807) (h4 : x.2.es.length <= 9223372036854775807) : PSpec Tryz.prog 72 [.agg (itV x)] (.bool (smE x)) := by
  have hn:noRefs [.agg (itV x)]=true:=by simp only[noRefs,noRef,itV,Qab,Qai];rfl
  refine PSpec.Qad 64 EA.ok72 rfl hn rfl ?_
  show wS _ _ _ _ _ (argT 0 [.agg [.str x.1,sli x.2.al,.int .i64 x.2.n,sli x.2.ms,egs x.2.es]]) _ _
  by_cases b1:x.1.length<=50
  · by_cases b2 : x.2.n <= 4
    · by_cases b3 : x.2.al.length <= 12
      · by_cases b4 : x.2.ms.length <= 12
        · by_cases b5 : x.2.es.length <= 12
          · have e : smE x = false := decide_eq_false (by omega)
            rw[e]
            simp(disch:=first|omega|exact PairsOK.mk rfl|(simp only[lenW]<;>omega)) only[EA.s72,decide_eq_true,decide_eq_false,wW,wV,simprocAttr]
            exact⟨.inr trivial,_,rfl,rfl⟩
          · have e : smE x = true := decide_eq_true (by omega)
            rw[e]
            simp(disch:=first|omega|exact PairsOK.mk rfl|(simp only[lenW]<;>omega)) only[EA.s72,decide_eq_true,decide_eq_false,wW,wV,simprocAttr]
            exact⟨.inr trivial,_,rfl,rfl⟩
        · have e : smE x = true := decide_eq_true (by omega)
          rw[e]
          simp(disch:=first|omega|exact PairsOK.mk rfl|(simp only[lenW]<;>omega)) only[EA.s72,decide_eq_true,decide_eq_false,wW,wV,simprocAttr]
          exact⟨.inr trivial,_,rfl,rfl⟩
      · have e : smE x = true := decide_eq_true (by omega)
        rw[e]
        simp(disch:=first|omega|exact PairsOK.mk rfl|(simp only[lenW]<;>omega)) only[EA.s72,decide_eq_true,decide_eq_false,wW,wV,simprocAttr]
        exact⟨.inr trivial,_,rfl,rfl⟩
    · have e : smE x = true := decide_eq_true (by omega)
      rw[e]
      simp(disch:=first|omega|exact PairsOK.mk rfl|(simp only[lenW]<;>omega)) only[EA.s72,decide_eq_true,decide_eq_false,wW,wV,simprocAttr]
      exact⟨.inr trivial,_,rfl,rfl⟩
  · have e : smE x = true := decide_eq_true (by omega)
    rw[e]
    simp(disch:=first|omega|exact PairsOK.mk rfl|(simp only[lenW]<;>omega)) only[EA.s72,decide_eq_true,decide_eq_false,wW,wV,simprocAttr]
    exact⟨.inr trivial,_,rfl,rfl⟩
theorem index127 {K : Nat} (q : Itn -> Bool) (l : List Itn) (hl : l.length <= 1000000) (hk : ∀ x ∈ l, PSpec Tryz.prog K [.agg (itV x)] (.bool (q x))) : PSpec Tryz.prog 127 [itsV l, .fn K [] []] (.int .i64 (idxQ q l)) := by
  refine PSpec.Qad 64 EA.ok127 rfl (by rw[noRefs,QbH];rfl) rfl ?_
  have hln:=Qcy l
  have hno:=QbH l
  simp(disch:=first|omega|exact PairsOK.mk rfl|(simp only[lenW]<;>omega)) only[EA.s127,wW,wV,simprocAttr]
  refine QaU 100 (fun i:Nat=>[(0,itsV l),(1,.fn K [] []),(7,.int .i64 l.length),(8,.int .i64 i)]) (fun _=>[]) (fun i=>i<=l.length/\∀(j:Nat) y,j<i->l[j]?=some y->q y=false) (fun i=>l.length-i) 0 ?_ ⟨Nat.zero_le _,fun j y hj=>absurd hj (Nat.not_lt_zero _)⟩ ?_
  · exact⟨[],rfl,RO.zero,RB.nil,RT.cons (Rn.same hno) (RT.cons (Rn.same rfl) (RT.cons (Rn.same rfl) (RT.cons (Rn.same rfl) RT.nil)))⟩
  rintro i ⟨hi,hb⟩
  by_cases hlt:i<l.length
  · obtain ⟨x, hx⟩ := Qas hlt
    have hn:=hk x (List.mem_of_getElem? hx)
    have hdr:=Qdz hx
    have hdl:5<=(List.drop (i*5) (l.flatMap itV)).length:=by rw[List.length_drop,hln];omega
    replace hn:PSpec Tryz.prog K [.agg [.str x.1,sli x.2.al,.int .i64 x.2.n,sli x.2.ms,egs x.2.es]] (.bool (q x)):=hn
    cases hq:q x
    · rw [hq] at hn
      simp(disch:=first|omega|exact PairsOK.mk rfl|(simp only[lenW]<;>omega)) only[hlt,hdr,hdl,List.head?_cons,wW,wV,simprocAttr]
      refine⟨_,by simpa using hn,?_⟩
      simp(disch:=first|omega|exact PairsOK.mk rfl|(simp only[lenW]<;>omega)) only[wW,wV,simprocAttr]
      refine⟨i+1,by omega,⟨by omega,fun j y hj hy=>?_⟩,?_⟩
      · by_cases e : j = i
        · subst e;rw[hx]at hy;cases hy;exact hq
        · exact hb j y (by omega) hy
      · exact⟨[],rfl,RO.zero,RB.nil,RT.cons (Rn.same hno) (RT.cons (Rn.same rfl) (RT.cons (Rn.same rfl) (RT.cons (Rn.same rfl) RT.nil)))⟩
    · rw [hq] at hn
      simp(disch:=first|omega|exact PairsOK.mk rfl|(simp only[lenW]<;>omega)) only[hlt,hdr,hdl,List.head?_cons,wW,wV,simprocAttr]
      refine⟨_,by simpa using hn,?_⟩
      simp(disch:=first|omega|exact PairsOK.mk rfl|(simp only[lenW]<;>omega)) only[wW,wV,simprocAttr]
      refine⟨.inr trivial,_,rfl,?_⟩
      rw[Qjp hx hq hb];rfl
  · simp (disch := first | omega | exact PairsOK.mk rfl | (simp only [lenW] <;> omega)) only [hlt, wW, wV, simprocAttr]
    refine⟨.inr trivial,_,rfl,?_⟩
    rw[QgT fun x hx=>by
      obtain⟨j,hj,hjl⟩:=List.getElem_of_mem hx
      exact hb j x (by omega) (by rw[List.getElem?_eq_getElem hj,hjl])];rfl
theorem contains70 {K:Nat} (q:Itn->Bool) (l:List Itn) (hl:l.length<=1000000) (hk:∀x∈l,PSpec Tryz.prog K [.agg (itV x)] (.bool (q x))):PSpec Tryz.prog 70 [itsV l,.fn K [] []] (.bool (l.any q)):=by
 refine PSpec.Qad 64 EA.ok70 rfl (by rw[noRefs,QbH];rfl) rfl ?_
 have h:=index127 q l hl hk
 have hge:=@Qjq _ q l
 generalize idxQ q l=a at*
 simp(disch:=first|omega|exact PairsOK.mk rfl|(simp only[lenW]<;>omega)) only[EA.s70,wW,wV,simprocAttr]
 refine cp h ?_
 simp(disch:=first|omega|exact PairsOK.mk rfl|(simp only[lenW]<;>omega)) only[hge,wW,wV,simprocAttr]
 exact⟨.inr trivial,_,rfl,rfl⟩
theorem QjU:HSpec Tryz.prog 71 [.nilsl] .e (.sl 98 0 0 0 5) (hp [(98,.cells 0 [])]):=by
 refine HSpec.Qbu 100 EA.ok71 rfl ?_
 simp(disch:=first|omega|exact PairsOK.mk rfl|(simp only[lenW]<;>omega)) only[EA.s71,Qfh,wW,wV,simprocAttr]
 exact⟨.inr trivial,_,rfl,⟨[(98,.nil)],rfl,au0,au10,au11⟩⟩
theorem QjV:HSpec Tryz.prog 71 [.nsl] .e (.sl 98 0 0 0 5) (hp [(98,.cells 0 [])]):=by
 refine HSpec.Qbu 100 EA.ok71 rfl ?_
 simp(disch:=first|omega|exact PairsOK.mk rfl|(simp only[lenW]<;>omega)) only[EA.s71,Qfi,Qcj,wW,wV,simprocAttr]
 exact⟨.inr trivial,_,rfl,⟨[(98,.blk 103 1)],rfl,au0,au10,au11⟩⟩
theorem cloneJ (l:List Itn) (hl:l.length<=1000):HSpec Tryz.prog 71 [itsV l] .e (.sl 98 0 0 l.length 5) (hp [(98,.cells 0 (l.flatMap itV))]):=by
 cases l with
 |nil=>exact HSpec.empty QjU QjV
 |cons x l=>
  refine HSpec.Qbu 100 EA.ok71 rfl ?_
  have hq:aEqN false (itsV (x::l))= .ret (.bool false):=rfl
  have hone:((x::l).flatMap itV).all AV.one=true:=QcU (fun _=>rfl) _
  have hnl:=Qbx (x::l)
  have hln:=Qcy (x::l)
  generalize x::l=q at*
  simp(disch:=first|omega|exact PairsOK.mk rfl|(simp only[lenW]<;>omega)) only[EA.s71,hq,hone,hln,wW,wV,simprocAttr]
  refine⟨.inr trivial,_,rfl,?_⟩
  refine⟨[(98,.blk 103 1)],rfl,au0,?_,au11⟩
  exact RB.cells rfl rfl gg (RnL.same hnl) RB.nil
def fewE (c:CelN):Bool:=decide (c.ev.length<=12/\c.cs.length<=4/\c.rs.length<=4/\c.xs.length<=4/\c.ks.length<=4)&& !(c.cs++c.rs).any smE
theorem few20 (c : CelN) (h : CelR c) : PSpec Tryz.prog 20 [celZ c] (.bool (fewE c)) := by
  have hnr:=Qax c
  refine PSpec.Qad 64 EA.ok20 rfl (Qbs c) rfl ?_
  have hel:=h.el
  have hcl:=h.cl
  have hrl:=h.rl
  have hxl:=h.xl
  have hkl:=h.kl
  by_cases hA:c.ev.length<=12/\c.cs.length<=4/\c.rs.length<=4/\c.xs.length<=4/\c.ks.length<=4
  · obtain ⟨a1, a2, a3, a4, a5⟩ := hA
    have hcl:=cloneJ c.cs (by omega)
    have e:fewE c= !(c.cs++c.rs).any smE:=by
      unfold fewE;rw[decide_eq_true ⟨a1,a2,a3,a4,a5⟩];rfl
    rw[e]
    have hci:=h.ci
    have hl1:=Qcy c.cs
    have hl2:=Qcy c.rs
    have hone:(c.rs.flatMap itV).all AV.one=true:=QcU (fun _=>rfl) _
    have hLl:(c.cs++c.rs).length=c.cs.length+c.rs.length:=List.length_append
    have hLf:c.cs.flatMap itV++c.rs.flatMap itV=(c.cs++c.rs).flatMap itV:=by rw[List.flatMap_append]
    have hK:=contains70 (K:=72) smE (c.cs++c.rs) (by omega) fun x hx=>by
      obtain⟨b1,b2,b3,b4⟩:=hci x hx
      exact sm72 x b1 b2 b3 b4
    have hLn:=Qcy (c.cs++c.rs)
    simp(disch:=first|omega|exact PairsOK.mk rfl|(simp only[lenW]<;>omega)) only[EA.s20,decide_eq_true,decide_eq_false,wW,wV,simprocAttr]
    refine QjT [] 2 (x:= .f 71) (ag:=[.t 32]) (d:=some 33) rfl rfl rfl ?_
    simp(disch:=first|omega|exact PairsOK.mk rfl|(simp only[lenW]<;>omega)) only[wW,wV,simprocAttr]
    refine⟨71,c.cs.flatMap itV,c.cs.length,5,rfl,⟨hcl.1,by show noRefs [itsV c.cs]=true;rw[noRefs,QbH];rfl,98,0,0,_,_,rfl,Nat.zero_le _,gg,hcl⟩,Qbx _,by decide,gg,?_⟩
    simp(disch:=first|omega|exact PairsOK.mk rfl|(simp only[lenW]<;>omega)) only[hone,hl1,hl2,wW,wV,simprocAttr]
    rw[hLf,<-hLl]
    generalize c.cs++c.rs=L at*
    refine ch (HSpec.lend (FrzL.cons (FrzTo.all (b:=96) (g:=1) gg hLn) (FrzL.cons (FrzTo.same _) FrzL.nil)) hK rfl) ?_
    simp(disch:=first|omega|exact PairsOK.mk rfl|(simp only[lenW]<;>omega)) only[wW,wV,simprocAttr]
    exact⟨trivial,.inr trivial,_,rfl,rfl⟩
  · have e : fewE c = false := by unfold fewE; rw [decide_eq_false hA]; rfl
    rw[e]
    by_cases a1:c.ev.length<=12
    · by_cases a2 : c.cs.length <= 4
      · by_cases a3 : c.rs.length <= 4
        · by_cases a4 : c.xs.length <= 4
          · have a5 : ¬ c.ks.length <= 4 := fun h5 => hA ⟨a1, a2, a3, a4, h5⟩
            simp(disch:=first|omega|exact PairsOK.mk rfl|(simp only[lenW]<;>omega)) only[EA.s20,decide_eq_true,decide_eq_false,wW,wV,simprocAttr]
            exact⟨.inr trivial,_,rfl,rfl⟩
          · simp (disch := first | omega | exact PairsOK.mk rfl | (simp only [lenW] <;> omega)) only [EA.s20, decide_eq_true, decide_eq_false, wW, wV, simprocAttr]
            exact⟨.inr trivial,_,rfl,rfl⟩
        · simp (disch := first | omega | exact PairsOK.mk rfl | (simp only [lenW] <;> omega)) only [EA.s20, decide_eq_true, decide_eq_false, wW, wV, simprocAttr]
          exact⟨.inr trivial,_,rfl,rfl⟩
      · simp (disch := first | omega | exact PairsOK.mk rfl | (simp only [lenW] <;> omega)) only [EA.s20, decide_eq_true, decide_eq_false, wW, wV, simprocAttr]
        exact⟨.inr trivial,_,rfl,rfl⟩
    · simp (disch := first | omega | exact PairsOK.mk rfl | (simp only [lenW] <;> omega)) only [EA.s20, decide_eq_true, decide_eq_false, wW, wV, simprocAttr]
      exact⟨.inr trivial,_,rfl,rfl⟩
end Go.AM.SO
namespace Go.AM.EM
open Go.Proofs
set_option maxHeartbeats 4000000
noncomputable section
def cf:YA.Cf:={always:=[(83,.borrow)]}
noncomputable def ft:FT2:=YA.tre Tryz.prog cf 20 [15,16,17,19,21,22,26,27,36,39,40,41,46,48,57,58,59,60,61,62,63,64,68,69,73,74,75,76,77,78,79,80,81,82,83,84,89,90,91,92,96,97,99,108,109,112,113,114,115,116,117,118,119,120,121,122,123,124,125,128,129,130,131,132,133,134,135,136,137,138,139,140,141,142,143,144,145,146,147,148,160,161,162,163,171,174,175,176,177,178,179,180,181,182,194,196,197,198,199,200,201,202,203,204,205,214,215,216,217,218,219,220,221,222,227,228,229,230,231,232,234,235,238,249,250,251,252,253,254,255,256,257,261,262,263,264,265,270,271,272,287,288,289,290,291,297,298,299,300,301,302,303,304,312,313,314,315,316,317,318,319,320,321]
theorem ft_ok:ft.OK Tryz.prog:=YA.QhU _ _ (YA.QhT (by kernel_rfl))
end
end Go.AM.EM
