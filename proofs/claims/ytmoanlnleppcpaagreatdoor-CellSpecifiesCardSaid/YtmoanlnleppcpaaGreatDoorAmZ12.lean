/- A part of the proof of CellSpecifiesCardSaid: lemmas on the way (AmTp, AmHc, AmHd, AmHg, AmHh). Conditions: none of ours. -/
import Derived.Test.YtmoanlnleppcpaaGreatDoorAmZ11
set_option linter.unusedSectionVars false
set_option maxHeartbeats 32000000
set_option maxRecDepth 100000
set_option linter.unusedVariables false
set_option linter.unusedSimpArgs false
namespace Go.AM
variable {P:Program}
theorem RSpec.of_wS {b N n:Nat} {T:Tmps} {ps:List Nat} {asg body:SCode} {args:List AV} {h h':Heap} {v:AV} (hn:(noLoop asg&&noLoop body)=true) (hb:h.get b=some (.loop 0 N T ps (.s asg) (.s body) .ready))
  (hl:Nat.blt b 1099511627775=true) (hlen:args.length=ps.length) (hps:(ps.all fun p=>Nat.blt p N)=true)
  (hw : wS P ⟨N, 0⟩ asg [] n (upsT T ps args) h fun e T1 h1 n1 => e = .normal /\ h1.get b = some (.loop 0 N T ps (.s asg) (.s body) .ready) /\
   wS P ⟨N,0⟩ body [] n1 T1 (h1.set b (.loop 0 N T ps (.s asg) (.s body) .busy)) fun e T2 h2 _=>h2.get b=some (.loop 0 N T ps (.s asg) (.s body) .busy)/\v= .bool e.isNormal/\∀x,(h2.set b (.loop 0 N T ps (.s asg) (.s body) (stOf e))).get x=h'.get x):RSpec P b 0 args h v h':=by
 simp only[Bool.and_eq_true]at hn
 refine RSpec.of_W hb (by simpa[lim]using hl) hlen (fun p hp=>by simpa using List.all_eq_true.1 hps p hp) ((wpC.toW1 hn.1 hw).mono ?_)
 rintro e B ⟨n1,rfl,h1,h2⟩
 refine⟨rfl,N,T,ps,.s asg,.s body,h1,(wpC.toW1 hn.2 h2).mono ?_⟩
 rintro e C ⟨n2,k1,k2,k3⟩
 exact⟨N,T,ps,.s asg,.s body,k1,k2,k3⟩
section
variable {k m n:Nat} {T:Tmps} {h:Heap} {Q:QC} {fs:List Fr}
theorem Qjk {g:Opd} {ps:List Nat} {asg body:SCode} {f b n':Nat} {first cap:List AV} {v:AV} {h2:Heap} {T' T2:Tmps} {L:HL} {N2:Nat} {ps2:List Nat} {as2 body2:LCode} {st:LSt} (hr:Rec m T' L T h) (hg:ev T' g= .fn f first cap) (hb:(hp L).get b=none) (hl:Nat.blt b 1099511627775=true)
  (hs:HSpec P f (first++[.yld b 0]++cap) ((hp L).set b (.loop 0 k T' ps (.s asg) (.s body) .ready)) v h2) (hst:h2.get b=some (.loop 0 N2 T2 ps2 as2 body2 st))
  (hQ:leftQ (fun e B=>wX P ⟨k,m⟩ e fs n' B.T B.h Q) ⟨T',h2.set b (.dead 0)⟩ st):wS P ⟨k,m⟩ (.rfunc g ps k asg body) fs n T h Q:=by
 show W2 P ⟨k,m⟩ (.rfunc g ps k asg body) (fun e B=>∃n,ct P ⟨k,m⟩ fs Q e B.T B.h n) ⟨T,h⟩
 refine W2.recL hr (W2.of_W (W.rfunc (las:= .s asg) (lbody:= .s body) rfl rfl hg hb (by simpa[lim]using hl) hs hst ?_))
 cases st with
 |ready=>exact⟨n',hQ⟩
 |busy=>exact hQ
 |done e=>exact⟨hQ.1,n',hQ.2⟩
theorem cy {N:NM} {b g:Nat} {args:List AV} {v:AV} {h1:Heap} {d:Option Nat} {ops:List SOper} {dead:List Nat} (hR:RSpec P b g args h v h1) (hk:wR P N ops dead fs (n+1) (putD T d v) h1 Q):wCall P N .heap (.yld b g) args d ops dead fs n T h Q:=⟨_,_,hR,hk⟩
theorem W2.weakE {N:NM} {c:SCode} {Q:SX->St->Prop} {T L:Tmps} {h h':Heap} (hT:Sub L T) (he:∀b,h.get b=h'.get b) (hw:W2 P N c Q ⟨L,h'⟩):W2 P N c Q ⟨T,h⟩:=
 W2.weak hT (W2.congr hw ⟨fun _=>rfl,he⟩)
def loopI (P:Program) (k m:Nat) {α:Type} (env:α->Tmps) (H:α->Heap) (I:α->Prop) (μ:α->Nat) (a:α) (fs:List Fr) (Q:QC):QC:=fun e T h n=>
 match e with
 | .normal=>∃a',μ a'<μ a/\I a'/\Sub (env a') T/\∀b,h.get b=(H a').get b
 |e=>wX P ⟨k,m⟩ e fs n T h Q
section
variable {α:Type} {env:α->Tmps} {H:α->Heap} {I:α->Prop} {μ:α->Nat} {a:α}
theorem Qa5:loopI P k m env H I μ a fs Q .normal T h n=∃a',μ a'<μ a/\I a'/\Sub (env a') T/\∀b,h.get b=(H a').get b:=rfl
theorem Qbh {i:Nat}:loopI P k m env H I μ a fs Q (.exit i) T h n=wX P ⟨k,m⟩ (.exit i) fs n T h Q:=rfl
theorem Qbs:loopI P k m env H I μ a fs Q .ret T h n=wX P ⟨k,m⟩ .ret fs n T h Q:=rfl
theorem QpF {b:SCode} (n0:Nat) (env:α->Tmps) (H:α->Heap) (I:α->Prop) (μ:α->Nat) (a0:α)
  (h0:Sub (env a0) T) (hh:∀b,h.get b=(H a0).get b) (hI:I a0) (round:∀a,I a->wS P ⟨k,m⟩ b [] n0 (env a) (H a) (loopI P k m env H I μ a fs Q)):wS P ⟨k,m⟩ (.loop b) fs n T h Q:=by
 show W2 P ⟨k,m⟩ (.loop b) (fun e B=>∃n,ct P ⟨k,m⟩ fs Q e B.T B.h n) ⟨T,h⟩
 refine W2.loop (fun q B=>∃a,μ a=q/\I a/\Sub (env a) B.T/\∀b,B.h.get b=(H a).get b) (μ a0) ⟨a0,rfl,hI,h0,hh⟩ ?_
 rintro q B ⟨a,rfl,hi,hs,he⟩
 refine W2.weakE hs he ((wpC.toW (round a hi)).mono ?_)
 rintro e C ⟨n2,hq⟩
 cases e with
 |normal=>obtain⟨a',h1,h2,h3⟩:=hq;exact⟨μ a',h1,a',rfl,h2,h3⟩
 |exit i=>exact⟨n2,hq⟩
 |ret=>exact⟨n2,hq⟩
end
end
theorem HSpec.of_I {f:Nat} {sf:SFn} {args:List AV} {h h':Heap} {v:AV} (m n:Nat) (hok:okFn P f sf=true) (hl:Nat.ble args.length sf.n=true) (hm:Fresh m h)
  (hw:wS P ⟨sf.n,m⟩ sf.body [] n (argT 0 args) h fun e T k _=>(e= .normal\/e= .ret)/\∃vs,resV T k sf.res=some vs/\resOf vs=v/\∀b,k.get b=h'.get b):HSpec P f args h v h':=by
 obtain⟨_,_,_,_,_,_,_,hc⟩:=Qb7 hok
 refine⟨hc,fun c w cargs H ha=>(Qdm (m:=m) (R:=fun vs k=>resOf vs=v/\∀b,k.get b=h'.get b) hok (Nat.le_of_ble_eq_true hl) ((wpC.toW hw).mono fun e B ⟨_,h1,vs,h2,h3⟩=>⟨h1,vs,h2,h3⟩) H ha).mono ?_⟩
 rintro e w' ⟨cv,c',vs,k,rfl,E,H',V,rfl,hk⟩
 refine⟨cv,c',rfl,⟨E.os,E.tape,E.output,E.size,E.shape,E.keep,fun b g p hp=>?_,E.frz,E.frzNew,E.own,E.base⟩,Qcj hk H',V⟩
 rcases Nat.lt_or_ge b m with h1|h1
 ·exact E.rho b g p h1 hp
 ·rw[H.fresh b (hm b h1) g]at hp;cases hp
end Go.AM
namespace Go.AM.SO
open Go.Proofs Go.AM.SD Go.AM.SE
def ylE (c:Cel) (r:List Nat) (e:Nat):Option (Nat×Int):=if 0<=rfI c r e then some (e,rfI c r e)else none
def yls (c:Cel) (k:Nat) (r:List Nat):List (Nat×Int):=(evO (syncA (auL c.cs)) k).filterMap (ylE c r)
theorem fm_at {α β:Type} {f:α->Option β} {l:List α} {i:Nat} {x:α} {y:β} (hx:l[i]?=some x) (hy:f x=some y):(l.filterMap f)[((l.take i).filterMap f).length]?=some y:=by
 have hi:i<l.length:=(List.getElem?_eq_some_iff.1 hx).1
 have e:l=l.take i++x::l.drop (i+1):=by
  have hx':l[i]=x:=(List.getElem?_eq_some_iff.1 hx).2
  rw[<-hx',List.getElem_cons_drop,List.take_append_drop]
 have e2:l.filterMap f=(l.take i).filterMap f++y::(l.drop (i+1)).filterMap f:=by
  conv=>lhs;rw[e]
  rw[List.filterMap_append,List.filterMap_cons,hy]
 rw[e2,List.getElem?_append_right (Nat.le_refl _),Nat.sub_self,List.getElem?_cons_zero]
theorem Qqw {α β:Type} {f:α->Option β} {l:List α} {i:Nat} {x:α} (hx:l[i]?=some x):((l.take (i+1)).filterMap f).length=((l.take i).filterMap f).length+(match f x with|some _=>1|none=>0):=by
 rw[take_succ' hx,List.filterMap_append,List.length_append,List.filterMap_cons]
 cases f x<;>rfl
theorem Qmy {c:Cel} {r:List Nat} {e:Nat}: -1<=rfI c r e/\rfI c r e<=c.rs.length:=by
 have:=@Qd2 _ (rfQ c r e) (List.range c.rs.length)
 unfold rfI
 rw[List.length_range]at this
 omega
theorem refused160 (c : Cel) (hw : WfCel c) {k : Nat} (hk : k < (syncA (auL c.cs)).n) (r : List Nat) (hr : r.length = c.rs.length) (hrn : ∀ (i : Nat) y, c.rs[i]? = some y -> r.getD i 0 < y.2.n) {b m : Nat} (H : Nat -> Heap) (H' : Heap) (n : Nat) (hf : Fresh m (H 0)) (hn : n <= (yls c k r).length)
    (hY:∀(j:Nat) y,j<n->(yls c k r)[j]?=some y->RSpec Tryz.prog b 0 [.int .i64 (y.1:Int),.int .i64 y.2] (H j) (.bool true) (H (j+1)))
    (hE:(n=(yls c k r).length/\H'=H n)\/∃y,(yls c k r)[n]?=some y/\RSpec Tryz.prog b 0 [.int .i64 (y.1:Int),.int .i64 y.2] (H n) (.bool false) H'):
    HSpec Tryz.prog 160 [.yld b 0,.fptr [.fptr (stC c)],.fptr [.int .i64 (k:Int)],.fptr [sliN r]] (H 0) (.tup []) H':=by
  refine HSpec.of_I m 1099511627000 TR.ok160 rfl hf ?_
  have hE161:=enabled161 (syncA (auL c.cs)) k (Qg7 (QaW hw) (by rw[QaQ];have:=hw.c3;omega)) hk
  have hR:=fun e=>refuser162 c hw r e hr hrn
  have hgR:=fun e=>@Qmy c r e
  have hol:(evO (syncA (auL c.cs)) k).length<=1220:=by
    unfold evO;rw[List.length_map]
    exact Nat.le_trans (List.length_filter_le ..) (Qg7 (QaW hw) (by rw[QaQ];have:=hw.c3;omega)).el
  have hcap:stC c=stC c:=rfl
  conv at hcap=>rhs;rw[stC]
  have hX:∃S,S=AV.fptr (stC c):=⟨_,rfl⟩
  unfold yls at hn hY hE
  rw[stC]at*
  generalize evO (syncA (auL c.cs)) k=o at*
  generalize syncA (auL c.cs)=p at*
  generalize syncA (allA c)=q at*
  generalize (sync0 (auL c.cs)).1=P at*
  generalize (sync0 (allA c)).1=T at*
  simp(disch:=first|omega|exact PairsOK.mk rfl|(simp only[lenW]<;>omega)) only[TR.s160,Qaa,Qac,Qad,Qa5,Qbh,Qbs,wW,wV,simprocAttr]
  refine cp hE161 ?_
  simp(disch:=first|omega|exact PairsOK.mk rfl|(simp only[lenW]<;>omega)) only[Qaa,Qac,Qad,Qa5,Qbh,Qbs,wW,wV,simprocAttr]
  refine QpF 1099511627100 (fun i:Nat=>[(0,.yld b 0),(1,.fptr [.fptr (stG c p q P T)]),(3,.fptr [sliN r]),(19,sliN o),(20,.int .i64 o.length),(21,.int .i64 i)]) (fun i=>H ((o.take i).filterMap (ylE c r)).length) (fun i=>i<=o.length/\((o.take i).filterMap (ylE c r)).length<=n) (fun i=>o.length-i) 0 ?_ (fun _=>rfl) ⟨Nat.zero_le _,Nat.zero_le _⟩ ?_
  · repeat (first|exact Sub.nil|refine Sub.cons (by first|rfl|(rw[Int.natCast_add];rfl)) ?_)
  rintro i ⟨hi,hc⟩
  by_cases hlt:i<o.length
  · obtain ⟨x, hx⟩ := Qag hlt
    have hct:=Qqw (f:=ylE c r) hx
    have hRx:=hR x
    have hg:=hgR x
    by_cases h0:0<=rfI c r x
    · have hyl : ylE c r x = some (x, rfI c r x) := by unfold ylE; rw [if_pos h0]
      have hat:=fm_at hx hyl
      rw[hyl]at hct
      rcases Nat.lt_or_ge ((o.take i).filterMap (ylE c r)).length n with hlt2|hge
      · have hR1 := hY _ _ hlt2 hat
        dsimp only at hR1 hct
        rw[<-hct]at hR1
        simp(disch:=first|omega|exact PairsOK.mk rfl|(simp only[lenW]<;>omega)) only[hlt,Qaz hx,Qaa,Qac,Qad,Qa5,Qbh,Qbs,wW,wV,simprocAttr]
        refine cp hRx ?_
        generalize rfI c r x=v at*
        simp(disch:=first|omega|exact PairsOK.mk rfl|(simp only[lenW]<;>omega)) only[h0,Qaa,Qac,Qad,Qa5,Qbh,Qbs,wW,wV,simprocAttr]
        refine cy hR1 ?_
        simp(disch:=first|omega|exact PairsOK.mk rfl|(simp only[lenW]<;>omega)) only[Qaa,Qac,Qad,Qa5,Qbh,Qbs,wW,wV,simprocAttr]
        refine⟨i+1,by omega,⟨by omega,by omega⟩,?_,fun _=>rfl⟩
        repeat (first|exact Sub.nil|refine Sub.cons (by first|rfl|(rw[Int.natCast_add];rfl)) ?_)
      · have hcn : ((o.take i).filterMap (ylE c r)).length = n := by omega
        rcases hE with⟨he,_⟩|⟨y,hy,hRs⟩
        · have := (List.getElem?_eq_some_iff.1 hat).1
          omega
        · rw [hcn] at hat ⊢
          rw[hat]at hy
          cases hy
          dsimp only at hRs
          simp(disch:=first|omega|exact PairsOK.mk rfl|(simp only[lenW]<;>omega)) only[hlt,Qaz hx,Qaa,Qac,Qad,Qa5,Qbh,Qbs,wW,wV,simprocAttr]
          refine cp hRx ?_
          generalize rfI c r x=v at*
          simp(disch:=first|omega|exact PairsOK.mk rfl|(simp only[lenW]<;>omega)) only[h0,Qaa,Qac,Qad,Qa5,Qbh,Qbs,wW,wV,simprocAttr]
          refine cy hRs ?_
          simp(disch:=first|omega|exact PairsOK.mk rfl|(simp only[lenW]<;>omega)) only[Qaa,Qac,Qad,Qa5,Qbh,Qbs,wW,wV,simprocAttr]
          exact⟨.inr trivial,_,rfl,rfl,fun _=>trivial⟩
    · have hyl : ylE c r x = none := by unfold ylE; rw [if_neg h0]
      rw[hyl]at hct
      dsimp only at hct
      simp(disch:=first|omega|exact PairsOK.mk rfl|(simp only[lenW]<;>omega)) only[hlt,Qaz hx,Qaa,Qac,Qad,Qa5,Qbh,Qbs,wW,wV,simprocAttr]
      refine cp hRx ?_
      generalize rfI c r x=v at*
      simp(disch:=first|omega|exact PairsOK.mk rfl|(simp only[lenW]<;>omega)) only[h0,Qaa,Qac,Qad,Qa5,Qbh,Qbs,wW,wV,simprocAttr]
      refine⟨i+1,by omega,⟨by omega,by omega⟩,?_,fun _=>by rw[hct];rfl⟩
      repeat (first|exact Sub.nil|refine Sub.cons (by first|rfl|(rw[Int.natCast_add];rfl)) ?_)
  · have e : i = o.length := by omega
    subst e
    rw[List.take_length]at hc⊢
    have hcn:n=(o.filterMap (ylE c r)).length:=by omega
    simp(disch:=first|omega|exact PairsOK.mk rfl|(simp only[lenW]<;>omega)) only[hlt,Qaa,Qac,Qad,Qa5,Qbh,Qbs,wW,wV,simprocAttr]
    refine⟨.inl trivial,_,rfl,rfl,fun _=>?_⟩
    rcases hE with⟨_,he⟩|⟨y,hy,_⟩
    · rw[he,hcn]
    · rw[List.getElem?_eq_none (by omega)]at hy;cases hy
end Go.AM.SO
namespace Go.AM.SO
open Go.Proofs Go.AM.SD Go.AM.SE
theorem clone41 (l:List Nat) (hl:l.length<=1000000):PSpec Tryz.prog 41 [sliN l] (sliN l):=by
 have h:=(clone56 l hl).freeze (b:=83) (g:=0) (ds:=ints (nz l)) gg (by
  have:∀m:List Int,flatVs (ints m)=true:=fun m=>by
   induction m with
   |nil=>rfl
   |cons x m ih=>simp only[ints,List.map_cons,flatVs,Bool.and_eq_true];exact⟨rfl,ih⟩
  exact this _) (by simp[ints]) rfl
 have e:(ints (nz l)).take (l.length*1)=ints (nz l):=by rw[List.take_of_length_le (by simp[ints])]
 rw[e]at h
 exact⟨by rw[noRefs,Qab];rfl,Qab _,_,h⟩
abbrev lpA:SCode:=(.seq (.region [Zm 16 100 []] [] [99,100])
 (.region [Zm 17 101 []] [] [101]))
abbrev lpB:SCode:=(.block 3 (.seq (.region [Zf 102 0 1 [],
 Zl 103 102 [0],
 Zm 104 16 [],
 Zi 105 5 103 104 [1,2],
 Zf 106 1 105 [3],
 Zl 107 106 [4],
 Zz 108 (.un .not (.t 107)) [5]] [] [102,103,104,105,106,107])
 (.cond (.t 108)
 (.seq (.region [Zf 109 7 6 [],
 Zl 110 109 [0],
 Zl 111 7 [],
 Zm 112 17 [],
 Zm 113 16 [],
 Zz 114 (.build [(.int .i64 0),(.int .i64 0),(.int .i64 0),(.int .i64 0)] [(0,1,(.t 111)),(1,1,(.c (.int .i64 3))),(2,1,(.t 112)),(3,1,(.t 113))]) [2,3,4],
 Zz 115 (.bslice false .dyn 4 1 [(.int .i64 0),(.int .i64 0),(.int .i64 0),(.int .i64 0)] [(0,4,(.t 114))]) [5],
 Zz 116 (.append .dyn 4 32 (.t 110) (.t 115)) [1,6],
 Zf 117 7 6 (Za [] 8),
 Zs 1 117 116 (Za [8,7,7] 8)] [] [7,16,17,108,109,110,111,112,113,114,115,116,117])
 (.exit 2))
 .skip)))
def rsn (c:Cel) (i:Nat) (t:List Nat):Option (Nat×Int×Int×Int):=
 if(vioV (t.take c.cs.length) c.xs c.ks).2.2=true then some (i,(vioV (t.take c.cs.length) c.xs c.ks).1,(vioV (t.take c.cs.length) c.xs c.ks).2.1,-1)
 else((yls c (ixT (sync0 (auL c.cs)).1 (t.take c.cs.length)) (t.drop c.cs.length)).find? fun y=> !(c.ev y.1).c).map fun y=>(i,3,y.2,(y.1:Int))
def rsC (x:Nat×Int×Int×Int):List AV:=[.int .i64 (x.1:Int),.int .i64 x.2.1,.int .i64 x.2.2.1,.int .i64 x.2.2.2]
def rsnO (c:Cel) (i:Nat):List (Nat×Int×Int×Int):=(rsn c i ((sync0 (allA c)).1.getD i [])).toList
def forb (c:Cel) (n:Nat):List (Nat×Int×Int×Int):=(List.range n).flatMap (rsnO c)
theorem QfP (c:Cel) (n:Nat):forb c (n+1)=forb c n++rsnO c n:=by unfold forb;rw[List.range_succ,List.flatMap_append];simp
theorem Qg9 (c:Cel):∀n,(forb c n).length<=n
 |0=>by simp[forb]
 |n+1=>by
  have:=Qg9 c n
  rw[QfP,List.length_append]
  have:(rsnO c n).length<=1:=by unfold rsnO;cases rsn c n _<;>simp
  omega
abbrev rss (l:List (Nat×Int×Int×Int)):AV:= .fsl (l.flatMap rsC) l.length 4
theorem QfQ (l:List (Nat×Int×Int×Int)):(l.flatMap rsC).length=l.length*4:=Qbl (k:=4) (fun _=>rfl) l
theorem Qbt (l:List (Nat×Int×Int×Int)):noRefs (l.flatMap rsC)=true:=by
 induction l with
 |nil=>rfl
 |cons x l ih=>rw[List.flatMap_cons];exact SU.Qal rfl ih
def spA (c:Cel) (T:List (List Nat)):List (List Nat):=T.map fun t=>t.take c.cs.length
def spB (c:Cel) (T:List (List Nat)):List (List Nat):=T.map fun t=>t.drop c.cs.length
def spP (c:Cel) (P T:List (List Nat)):List Nat:=T.map fun t=>ixT P (t.take c.cs.length)
abbrev spG (c:Cel) (q:Aut) (P T:List (List Nat)):List AV:=[sliN q.al,.int .i64 (q.n:Int),sliN q.ms,egsN q.es,tuV (spA c T),tuV (spB c T),sliN (spP c P T),rss (forb c T.length)]
def spC (c:Cel):List AV:=spG c (syncA (allA c)) (sync0 (auL c.cs)).1 (sync0 (allA c)).1
theorem Qm7 (c:Cel) (q:Aut) (P T:List (List Nat)):noRefs (spG c q P T)=true:=by
 have hr:noRef (rss (forb c T.length))=true:=by rw[noRef];exact Qbt _
 simp only[noRefs,Qab,Qaj,Qbq,hr,Bool.true_and,Bool.and_true]
 rfl
theorem Qk3 {α:Type} {p:α->Bool}:∀{l:List α} {y:α},l.find? p=some y->∃n:Nat,l[n]?=some y/\p y=true/\∀(j:Nat) z,j<n->l[j]?=some z->p z=false
 |[],y,h=>by simp at h
 | x :: l, y, h => by
  rw[List.find?_cons]at h
  cases hp:p x with
  |true=>rw[hp]at h;cases h;exact⟨0,rfl,hp,fun j z hj=>absurd hj (Nat.not_lt_zero _)⟩
  |false=>
   rw[hp]at h
   obtain⟨n,h1,h2,h3⟩:=Qk3 h
   refine⟨n+1,by simpa using h1,h2,fun j z hj hz=>?_⟩
   cases j with
   |zero=>simp at hz;subst hz;exact hp
   |succ j=>exact h3 j z (by omega) (by simpa using hz)
theorem Qd4 {f:Nat->Evt} {e:Nat} (h:e<5):(evsC f).drop (e*5)=evC e (f e)++(evsC f).drop ((e+1)*5):=by
 obtain rfl|rfl|rfl|rfl|rfl:e=0\/e=1\/e=2\/e=3\/e=4:=by omega
 all_goals rfl
theorem Qk4 {c:Cel} (h:WfCel c) {k:Nat} {r:List Nat} {y:Nat×Int} (hy:y∈yls c k r):y.1<5:=by
 unfold yls at hy
 obtain⟨e,he,h2⟩:=List.mem_filterMap.1 hy
 unfold ylE at h2
 split at h2
 ·cases h2
  unfold evO at he
  obtain⟨x,hx,rfl⟩:=List.mem_map.1 he
  have hw:=Qg7 (QaW h) (by rw[QaQ];have:=h.c3;omega)
  exact hw.al5 _ (hw.ev x (List.mem_filter.1 hx).1)
 ·cases h2
theorem Qqx {c:Cel} {i:Nat} {t:List Nat} (hv:(vioV (t.take c.cs.length) c.xs c.ks).2.2=true):(rsn c i t).toList=[(i,(vioV (t.take c.cs.length) c.xs c.ks).1,(vioV (t.take c.cs.length) c.xs c.ks).2.1,-1)]:=by
 unfold rsn;rw[if_pos hv];rfl
theorem Qrr {c:Cel} {i:Nat} {t:List Nat} (hv:(vioV (t.take c.cs.length) c.xs c.ks).2.2=false):(rsn c i t).toList=(((yls c (ixT (sync0 (auL c.cs)).1 (t.take c.cs.length)) (t.drop c.cs.length)).find? fun y=> !(c.ev y.1).c).map fun y=>(i,3,y.2,(y.1:Int))).toList:=by
 unfold rsn;rw[if_neg (by simp[hv])]
theorem set3 {h:Heap} {k j:Nat} {a b c:Blk} (hk:Nat.blt k 1099511627775=true):(((h.set k a).set k b).set k c).get j=(h.set k c).get j:=by
 have hk':k<1099511627775:=by simpa using hk
 by_cases e:j=k
 ·subst e;rw[QaI hk',QaI hk']
 ·rw[QaL hk' e,QaL hk' e,QaL hk' e,QaL hk' e]
theorem set6 {h:Heap} {k k1 k2 k3 j:Nat} {a b u v w d:Blk} (hk:(Nat.blt k 1099511627775&&Nat.blt k1 1099511627775&&Nat.blt k2 1099511627775&&Nat.blt k3 1099511627775)=true):
  ((((((h.set k a).set k b).set k1 u).set k2 v).set k3 w).set k d).get j=((((h.set k1 u).set k2 v).set k3 w).set k d).get j:=by
 simp only[Bool.and_eq_true,Nat.blt_eq]at hk
 obtain⟨⟨⟨h1,h2⟩,h3⟩,h4⟩:=hk
 by_cases e:j=k
 ·subst e;rw[QaI h1,QaI h1]
 ·rw [QaL h1 e, QaL h1 e]
  by_cases e3:j=k3
  ·subst e3;rw[QaI h4,QaI h4]
  ·rw [QaL h4 e3, QaL h4 e3]
   by_cases e2:j=k2
   ·subst e2;rw[QaI h3,QaI h3]
   ·rw [QaL h3 e2, QaL h3 e2]
    by_cases e1:j=k1
    ·subst e1;rw[QaI h2,QaI h2]
    ·rw[QaL h2 e1,QaL h2 e1,QaL h1 e,QaL h1 e]
theorem _root_.Go.AM.au25 {p:Prop} (h:p:=by repeat (first|exact RT.nil|(refine RT.cons ?_ ?_; · (first|exact Rn.any|exact Rn.x1 rfl rfl|exact Rn.x2 rfl rfl|exact Rn.x3 rfl rfl|exact Rn.x4 rfl rfl|exact Rn.x5 rfl|exact Rn.x6 rfl|exact Rn.x7 rfl|(refine Rn.slot ?_ ?_;(first|rfl|(rw[Int.natCast_add];rfl));(first|rfl|(simp only[noRef,noRefs,Qai,Bool.and_self,Bool.and_true,Bool.true_and,Qae,Qaw,Qab,Qaj,QaG,Qaf,SU.Qba,Qbq];done)))|(refine Rn.fn ?_ ?_<;>(repeat' (first|exact RnL.nil|refine RnL.cons ?_ ?_|exact Rn.same rfl|exact Rn.x6 rfl|exact Rn.x2 rfl rfl|exact Rn.x5 rfl|exact Rn.x1 rfl rfl))))))):p:=h
theorem specify18 (c : Cel) (h : WfCel c) : PSpec Tryz.prog 18 [celV c] (.tup [.agg (spC c), .int .i64 0]) := by
  have hnr:=Qbf c
  have hns:noRef (.tup [.agg (spC c),.int .i64 0])=true:=by rw[noRef,noRefs,noRef,spC,Qm7];rfl
  refine PSpec.of_rn 64 TQ.ok18 rfl (by rw[noRefs,SU.Qa3];rfl) hns ?_
  have h0:=h.c0
  have h3:=h.c3
  have h2:=h.r2
  have hO:=open70 c h
  have hin:=Qii h
  have hPi:=Qes (fun a ha=>(QaW h a ha).pos) fun a ha=>(QaW h a ha).wf.esn
  have hTok:=Qd3 (QdB h) (by rw[QbU];omega)
  have hT243:=hTok.2.1
  clear hTok
  have hPin:∀x∈(sync0 (auL c.cs)).1,InT (auL c.cs) x:=hPi.inT
  have hpn:(syncA (auL c.cs)).n=(sync0 (auL c.cs)).1.length:=rfl
  have hsplit:=fun t (ht:c.cs.length<=t.length)=>split71 c t h0 ht
  have hviol:=fun t (ht:InT (auL c.cs) t)=>violated73 c h ht
  have href:=fun k r=>refused74 c k r
  have hfor:=fun{k:Nat} hk r hr hrn {b m:Nat} H H' n=>@refused160 c h k hk r hr hrn b m H H' n
  have hrs:∀i t,(sync0 (allA c)).1[i]?=some t->rsnO c i=(rsn c i t).toList:=fun i t ht=>by unfold rsnO;rw[List.getD_eq_getElem?_getD,ht];rfl
  have hrv:=fun i t=>@Qrr c i t
  have hle:=Qg9 c
  have hsu:=QfP c
  have hst:=Qd9 c (syncA (auL c.cs)) (syncA (allA c)) (sync0 (auL c.cs)).1 (sync0 (allA c)).1
  rw[spC]at*
  rw[stC]at hO hsplit href
  generalize syncA (auL c.cs)=p at*
  generalize syncA (allA c)=q at*
  generalize (sync0 (auL c.cs)).1=P at*
  generalize (sync0 (allA c)).1=T at*
  have hnT:=Qbq T
  have hS:noRef (.fptr (stG c p q P T))=true:=by rw[noRef];exact hst
  have hnc:=SU.Qa3 c
  simp(disch:=first|omega|exact PairsOK.mk rfl|(simp only[lenW]<;>omega)) only[TQ.s18,Qaa,Qac,Qad,wW,wV,simprocAttr]
  refine cp hO ?_
  simp(disch:=first|omega|exact PairsOK.mk rfl|(simp only[lenW]<;>omega)) only[Qaa,Qac,Qad,wW,wV,simprocAttr]
  refine Qan 200 (fun i:Nat=>[(1,.ptr 51 0 0),(2,.ptr 53 0 0),(4,.fptr (stG c p q P T)),(6,.ptr 52 0 0),(35,tuV T),(36,.int .i64 T.length),(37,.int .i64 i)]) (fun i=>[(51,.cells 0 [evsV c.ev,its 99 c.cs,its 114 c.rs,exs c.xs,cos c.ks]),(52,.cells 0 [sliN q.al,.int .i64 (q.n:Int),sliN q.ms,egsN q.es,.sl 60 0 0 i 1,.sl 61 0 0 i 1,.sl 62 0 0 i 1,.sl 63 0 0 (forb c i).length 4]),(53,.cells 0 [.nilsl,.int .i64 0,.nilsl,.nilsl,.nilsl,.nilsl,.nilsl,.nilsl]),(60,.cells 0 ((spA c (T.take i)).map sliN)),(61,.cells 0 ((spB c (T.take i)).map sliN)),(62,.cells 0 (ints (nz (spP c P (T.take i))))),(63,.cells 0 ((forb c i).flatMap rsC))]) (fun i=>i<=T.length) (fun i=>T.length-i) 0 0 400
    (fun _:Unit=>[(2,.ptr 53 0 0),(6,.ptr 52 0 0)]) (fun _=>[(52,.cells 0 (spG c q P T)),(53,.cells 0 [.nilsl,.int .i64 0,.nilsl,.nilsl,.nilsl,.nilsl,.nilsl,.nilsl])]) (fun _=>True) ?_ (Nat.zero_le _) ?_ ?_
  · refine ⟨[(51, .blk 64 0), (52, .blk 81 0), (53, .blk 65 0), (60, .nil), (61, .nil), (62, .nil), (63, .nil)], rfl, RO.zero, ?_, RT.cons (Rn.x2 rfl rfl) (RT.cons (Rn.x2 rfl rfl) (RT.cons (Rn.same hS) (RT.cons (Rn.x2 rfl rfl) (RT.cons (Rn.same hnT) au25))))⟩
    exact RB.cells rfl rfl gg (RnL.same hnr) (RB.cells rfl rfl gg (RnL.cons (Rn.same (Qab _)) (RnL.cons (Rn.same rfl) (RnL.cons (Rn.same (Qab _)) (RnL.cons (Rn.same (Qaj _)) (RnL.cons (Rn.x4 rfl rfl) (RnL.cons (Rn.x4 rfl rfl) (RnL.cons (Rn.x4 rfl rfl) (RnL.cons (Rn.x4 rfl rfl) RnL.nil)))))))) (RB.cells rfl rfl gg (RnL.same rfl) (RB.newnil rfl rfl (RB.newnil rfl rfl (RB.newnil rfl rfl (RB.newnil rfl rfl RB.nil))))))
  · rintro i hi
    by_cases hlt:i<T.length
    · obtain ⟨t, ht⟩ := Qag hlt
      obtain⟨hit,hpt⟩:=hin t (List.mem_of_getElem? ht)
      have htl:c.cs.length<=t.length:=by rw[hit.1,QbU];omega
      have hi1:=Qk0 (A:=auL c.cs) (B:=auL c.rs) hit
      have hi2:=Qk1 (A:=auL c.cs) (B:=auL c.rs) hit
      rw[QaQ]at hi1 hi2
      have hl1:(t.take c.cs.length).length<=3:=by rw[List.length_take];omega
      have hl2:(t.drop c.cs.length).length<=2:=by rw[hi2.1,QaQ];omega
      have hsp:=hsplit t htl
      have hky:=key72 h hi1
      have hv:=hviol _ hi1
      have hcl1:=clone41 (t.take c.cs.length) (by omega)
      have hcl2:=clone41 (t.drop c.cs.length) (by omega)
      have hk:=QfJ hpt
      have hia:(spA c (T.take (i+1))).map sliN=(spA c (T.take i)).map sliN++[sliN (t.take c.cs.length)]:=by unfold spA;rw[take_succ' ht];simp
      have hib:(spB c (T.take (i+1))).map sliN=(spB c (T.take i)).map sliN++[sliN (t.drop c.cs.length)]:=by unfold spB;rw[take_succ' ht];simp
      have hip:spP c P (T.take (i+1))=spP c P (T.take i)++[ixT P (t.take c.cs.length)]:=by unfold spP;rw[take_succ' ht];simp
      have hla:((spA c (T.take i)).map sliN).length=i:=by unfold spA;simp;omega
      have hlb:((spB c (T.take i)).map sliN).length=i:=by unfold spB;simp;omega
      have hlp:(ints (nz (spP c P (T.take i)))).length=i:=by unfold spP;simp[ints];omega
      have hlf:=QfQ (forb c i)
      have hlf2:=hle i
      have hrsi:=hrs i t ht
      have hsi:=hsu i
      have hrvi:=hrv i t
      have hrvi2:=@Qqx c i t
      have hk:ixT P (t.take c.cs.length)<p.n:=by rw[hpn];exact hk
      have hr2:(t.drop c.cs.length).length=c.rs.length:=by rw[hi2.1,QaQ]
      have hrn2:∀(j:Nat) y,c.rs[j]?=some y->(t.drop c.cs.length).getD j 0<y.2.n:=fun j y hy=>hi2.2 j y.2 (by rw[List.getElem?_map,hy];rfl)
      have hfa:∀z,(forb c i++[z]).flatMap rsC=(forb c i).flatMap rsC++rsC z:=fun z=>by simp
      have hn1:noRefs [sliN (t.take c.cs.length)]=true:=by rw[noRefs,Qab];rfl
      have hn2:noRefs [sliN (t.drop c.cs.length)]=true:=by rw[noRefs,Qab];rfl
      generalize spA c (T.take i)=LA at*
      generalize spB c (T.take i)=LB at*
      generalize spP c P (T.take i)=LP at*
      generalize t.take c.cs.length=t1 at*
      generalize t.drop c.cs.length=t2 at*
      generalize vioV t1 c.xs c.ks=v at*
      obtain⟨v1,v2,v3⟩:=v
      dsimp only at hrvi hrvi2 hv
      have hrf:=href (ixT P t1) t2
      simp(disch:=first|omega|exact PairsOK.mk rfl|(simp only[lenW]<;>omega)) only[hlt,Qb4 ht,Qaa,Qac,Qad,wW,wV,simprocAttr]
      refine cp hsp ?_
      simp(disch:=first|omega|exact PairsOK.mk rfl|(simp only[lenW]<;>omega)) only[Qaa,Qac,Qad,wW,wV,simprocAttr]
      refine cp hky ?_
      simp(disch:=first|omega|exact PairsOK.mk rfl|(simp only[lenW]<;>omega)) only[Qaa,Qac,Qad,wW,wV,simprocAttr]
      refine QfC (c:=keyC) (f:=ixV P) (x:=t1) (l:=P) (QfL (QaW h) hi1 hPin) hpt ?_
      simp(disch:=first|omega|exact PairsOK.mk rfl|(simp only[lenW]<;>omega)) only[ixV,Qaa,Qac,Qad,wW,wV,simprocAttr]
      refine QhG [(56,[60]),(62,[61]),(68,[62])] rfl rfl ?_
      simp(disch:=first|omega|exact PairsOK.mk rfl|(simp only[lenW]<;>omega)) only[Qaa,Qac,Qad,wW,wV,simprocAttr]
      refine cp hcl1 ?_
      simp(disch:=first|omega|exact PairsOK.mk rfl|(simp only[lenW]<;>omega)) only[Qaa,Qac,Qad,wW,wV,simprocAttr]
      refine cp hcl2 ?_
      simp(disch:=first|omega|exact PairsOK.mk rfl|(simp only[lenW]<;>omega)) only[hla,hlb,hlp,Qaa,Qac,Qad,wW,wV,simprocAttr]
      refine⟨⟨⟨_,rfl,fun b hb=>hb⟩,⟨_,rfl,fun b hb=>hb⟩,⟨_,rfl,fun b hb=>hb⟩,trivial⟩,?_⟩
      refine cp hv ?_
      cases v3 with
      | true =>
        have hrw:=hrvi2 rfl
        simp(disch:=first|omega|exact PairsOK.mk rfl|(simp only[lenW]<;>omega)) only[hlf,Qaa,Qac,Qad,wW,wV,simprocAttr]
        refine⟨i+1,by omega,by omega,?_⟩
        rw[hia,hib,hip,hsi,hrsi,hrw,hfa,List.length_append,QaM,QaB]
        refine⟨[(51,.blk 51 0),(52,.blk 52 0),(53,.blk 53 0),(60,.blk 60 1),(61,.blk 61 1),(62,.blk 62 1),(63,.blk 63 1)],rfl,RO.zero,?_,RT.cons (Rn.x2 rfl rfl) (RT.cons (Rn.x2 rfl rfl) (RT.cons (Rn.same hS) (RT.cons (Rn.x2 rfl rfl) (RT.cons (Rn.same hnT) au25))))⟩
        exact RB.cells rfl rfl gg (RnL.same hnr) (RB.cells rfl rfl gg (RnL.cons (Rn.same (Qab _)) (RnL.cons (Rn.same rfl) (RnL.cons (Rn.same (Qab _)) (RnL.cons (Rn.same (Qaj _)) (RnL.cons (Rn.x1 rfl rfl) (RnL.cons (Rn.x1 rfl rfl) (RnL.cons (Rn.x1 rfl rfl) (RnL.cons (Rn.x1 rfl rfl) RnL.nil)))))))) (RB.cells rfl rfl gg (RnL.same rfl) (RB.cells rfl rfl gg (RnL.same (SU.Qal (Qak Qab _) hn1)) (RB.cells rfl rfl gg (RnL.same (SU.Qal (Qak Qab _) hn2)) (RB.cells rfl rfl gg (RnL.same (SU.Qal (Qae _) rfl)) (RB.cells rfl rfl gg (RnL.same (SU.Qal (Qbt _) rfl)) RB.nil))))))
      | false =>
        have hrw:=hrvi rfl
        simp(disch:=first|omega|exact PairsOK.mk rfl|(simp only[lenW]<;>omega)) only[Qaa,Qac,Qad,wW,wV,simprocAttr]
        refine cp hrf ?_
        simp(disch:=first|omega|exact PairsOK.mk rfl|(simp only[lenW]<;>omega)) only[Qaa,Qac,Qad,wW,wV,simprocAttr]
        have hnone:∀{x1 x2 x3 x4 x5 x6 x7 x8:Blk},(hp [(51,x1),(52,x2),(53,x3),(54,x4),(60,x5),(61,x6),(62,x7),(63,x8)]).get 150=none:=fun{x1 x2 x3 x4 x5 x6 x7 x8}=>by simp(disch:=omega) only[Qcl,Qkj,QaL,get_e]
        cases hfd:(yls c (ixT P t1) t2).find? fun y=> !(c.ev y.1).c with
        | none =>
          rw[hfd]at hrw
          replace hrw:(rsn c i t).toList=[]:=hrw
          refine Qjk (n':=700) (b:=150) (T':=[(1,.ptr 51 0 0),(2,.ptr 53 0 0),(4,.fptr (stG c p q P T)),(6,.ptr 52 0 0),(7,.ptr 54 0 0),(35,tuV T),(36,.int .i64 T.length),(37,.int .i64 i),(99,rfF c (ixT P t1) t2)]) (L:=[(51,.cells 0 [evsV c.ev,its 99 c.cs,its 114 c.rs,exs c.xs,cos c.ks]),(52,.cells 0 [sliN q.al,.int .i64 (q.n:Int),sliN q.ms,egsN q.es,.sl 60 0 0 (i+1) 1,.sl 61 0 0 (i+1) 1,.sl 62 0 0 (i+1) 1,.sl 63 0 0 (forb c i).length 4]),(53,.cells 0 [.nilsl,.int .i64 0,.nilsl,.nilsl,.nilsl,.nilsl,.nilsl,.nilsl]),(54,.cells 0 [.int .i64 (i:Int)]),(60,.cells 0 (LA.map sliN++[sliN t1])),(61,.cells 0 (LB.map sliN++[sliN t2])),(62,.cells 0 (ints (nz LP)++[.int .i64 (ixT P t1:Int)])),(63,.cells 0 ((forb c i).flatMap rsC))]) ?_ rfl hnone rfl (hfor (m:=1000) hk t2 hr2 hrn2 (fun _=>_) _ (yls c (ixT P t1) t2).length ?_ (Nat.le_refl _) ?_ (.inl ⟨rfl,rfl⟩)) gg ?_
          · refine ⟨[(51, .blk 51 0), (52, .blk 52 0), (53, .blk 53 0), (54, .blk 204 0), (60, .blk 60 1), (61, .blk 61 1), (62, .blk 62 1), (63, .blk 63 0)], rfl, RO.zero, ?_, RT.cons (Rn.x2 rfl rfl) (RT.cons (Rn.x2 rfl rfl) (RT.cons (Rn.same hS) (RT.cons (Rn.x2 rfl rfl) (RT.cons (Rn.x2 rfl rfl) (RT.cons (Rn.same hnT) (RT.cons (Rn.same rfl) (RT.cons (Rn.same rfl) (RT.cons (Rn.same (QfO _ _ _)) RT.nil))))))))⟩
            exact RB.cells rfl rfl gg (RnL.same hnr) (RB.cells rfl rfl gg (RnL.cons (Rn.same (Qab _)) (RnL.cons (Rn.same rfl) (RnL.cons (Rn.same (Qab _)) (RnL.cons (Rn.same (Qaj _)) (RnL.cons (Rn.x1 rfl rfl) (RnL.cons (Rn.x1 rfl rfl) (RnL.cons (Rn.x1 rfl rfl) (RnL.cons (Rn.x1 rfl rfl) RnL.nil)))))))) (RB.cells rfl rfl gg (RnL.same rfl) (RB.cells rfl rfl gg (RnL.same rfl) (RB.cells rfl rfl gg (RnL.same (SU.Qal (Qak Qab _) hn1)) (RB.cells rfl rfl gg (RnL.same (SU.Qal (Qak Qab _) hn2)) (RB.cells rfl rfl gg (RnL.same (SU.Qal (Qae _) rfl)) (RB.cells rfl rfl gg (RnL.same (Qbt _)) RB.nil)))))))
          · exact(by repeat (first|exact Fresh.e|exact Fresh.le (by assumption) (by omega)|refine Fresh.set ?_ (by omega) (by omega)))
          · intro j y hj hy
            have hlt5:=Qk4 h (List.mem_of_getElem? hy)
            have hctl:(c.ev y.1).c=true:=by simpa using List.find?_eq_none.1 hfd y (List.mem_of_getElem? hy)
            refine RSpec.of_wS (n:=300) rfl gg rfl rfl rfl ?_
            simp(disch:=first|omega|exact PairsOK.mk rfl|(simp only[lenW]<;>omega)) only[upsT,hctl,hlt5,Qdx,Qd4,evC,Qaa,Qac,Qad,wW,wV,simprocAttr]
            exact⟨rfl,fun x=>set3 rfl⟩
          · unfold leftQ
            simp(disch:=first|omega|exact PairsOK.mk rfl|(simp only[lenW]<;>omega)) only[Qaa,Qac,Qad,wW,wV,simprocAttr]
            refine⟨i+1,by omega,by omega,?_⟩
            rw[hia,hib,hip,hsi,hrsi,hrw,List.append_nil,QaM,QaB]
            refine⟨[(51,.blk 51 0),(52,.blk 52 0),(53,.blk 53 0),(60,.blk 60 0),(61,.blk 61 0),(62,.blk 62 0),(63,.blk 63 0)],rfl,RO.zero,?_,RT.cons (Rn.x2 rfl rfl) (RT.cons (Rn.x2 rfl rfl) (RT.cons (Rn.same hS) (RT.cons (Rn.x2 rfl rfl) (RT.cons (Rn.same hnT) au25))))⟩
            exact RB.cells rfl rfl gg (RnL.same hnr) (RB.cells rfl rfl gg (RnL.cons (Rn.same (Qab _)) (RnL.cons (Rn.same rfl) (RnL.cons (Rn.same (Qab _)) (RnL.cons (Rn.same (Qaj _)) (RnL.cons (Rn.x1 rfl rfl) (RnL.cons (Rn.x1 rfl rfl) (RnL.cons (Rn.x1 rfl rfl) (RnL.cons (Rn.x1 rfl rfl) RnL.nil)))))))) (RB.cells rfl rfl gg (RnL.same rfl) (RB.cells rfl rfl gg (RnL.same (SU.Qal (Qak Qab _) hn1)) (RB.cells rfl rfl gg (RnL.same (SU.Qal (Qak Qab _) hn2)) (RB.cells rfl rfl gg (RnL.same (SU.Qal (Qae _) rfl)) (RB.cells rfl rfl gg (RnL.same (Qbt _)) RB.nil))))))
        | some y =>
          rw[hfd]at hrw
          replace hrw:(rsn c i t).toList=[(i,3,y.2,(y.1:Int))]:=hrw
          obtain⟨n,hn1',hn2',hn3'⟩:=Qk3 hfd
          have hlen:n<(yls c (ixT P t1) t2).length:=(List.getElem?_eq_some_iff.1 hn1').1
          have hlt5:=Qk4 h (List.mem_of_getElem? hn1')
          have hctl:(c.ev y.1).c=false:=by simpa using hn2'
          refine Qjk (n':=700) (b:=150) (T':=[(1,.ptr 51 0 0),(2,.ptr 53 0 0),(4,.fptr (stG c p q P T)),(6,.ptr 52 0 0),(7,.ptr 54 0 0),(35,tuV T),(36,.int .i64 T.length),(37,.int .i64 i),(99,rfF c (ixT P t1) t2)]) (L:=[(51,.cells 0 [evsV c.ev,its 99 c.cs,its 114 c.rs,exs c.xs,cos c.ks]),(52,.cells 0 [sliN q.al,.int .i64 (q.n:Int),sliN q.ms,egsN q.es,.sl 60 0 0 (i+1) 1,.sl 61 0 0 (i+1) 1,.sl 62 0 0 (i+1) 1,.sl 63 0 0 (forb c i).length 4]),(53,.cells 0 [.nilsl,.int .i64 0,.nilsl,.nilsl,.nilsl,.nilsl,.nilsl,.nilsl]),(54,.cells 0 [.int .i64 (i:Int)]),(60,.cells 0 (LA.map sliN++[sliN t1])),(61,.cells 0 (LB.map sliN++[sliN t2])),(62,.cells 0 (ints (nz LP)++[.int .i64 (ixT P t1:Int)])),(63,.cells 0 ((forb c i).flatMap rsC))]) (st:= .done (.exit 2)) ?hrec rfl hnone rfl (hfor (m:=1000) hk t2 hr2 hrn2 (fun _=>_) (((((hp [(51,.cells 0 [evsV c.ev,its 99 c.cs,its 114 c.rs,exs c.xs,cos c.ks]),(52,.cells 0 [sliN q.al,.int .i64 (q.n:Int),sliN q.ms,egsN q.es,.sl 60 0 0 (i+1) 1,.sl 61 0 0 (i+1) 1,.sl 62 0 0 (i+1) 1,.sl 63 0 0 (forb c i).length 4]),(53,.cells 0 [.nilsl,.int .i64 0,.nilsl,.nilsl,.nilsl,.nilsl,.nilsl,.nilsl]),(54,.cells 0 [.int .i64 (i:Int)]),(60,.cells 0 (LA.map sliN++[sliN t1])),(61,.cells 0 (LB.map sliN++[sliN t2])),(62,.cells 0 (ints (nz LP)++[.int .i64 (ixT P t1:Int)])),(63,.cells 0 ((forb c i).flatMap rsC))]).set 315 (.cells 0 (rsC (i,3,y.2,(y.1:Int))))).set 63 (.cells 1 ((forb c i).flatMap rsC++rsC (i,3,y.2,(y.1:Int))))).set 52 (.cells 0 [sliN q.al,.int .i64 (q.n:Int),sliN q.ms,egsN q.es,.sl 60 0 0 (i+1) 1,.sl 61 0 0 (i+1) 1,.sl 62 0 0 (i+1) 1,.sl 63 1 0 ((forb c i).length+1) 4])).set 150 (.loop 0 120 [(1,.ptr 51 0 0),(2,.ptr 53 0 0),(4,.fptr (stG c p q P T)),(6,.ptr 52 0 0),(7,.ptr 54 0 0),(35,tuV T),(36,.int .i64 T.length),(37,.int .i64 i),(99,rfF c (ixT P t1) t2)] [100,101] (.s lpA) (.s lpB) (.done (.exit 2)))) n ?hfr (Nat.le_of_lt hlen) ?hY (.inr ⟨y,hn1',?hS⟩)) gg ?hQ
          case hrec=>
            refine⟨[(51,.blk 51 0),(52,.blk 52 0),(53,.blk 53 0),(54,.blk 204 0),(60,.blk 60 1),(61,.blk 61 1),(62,.blk 62 1),(63,.blk 63 0)],rfl,RO.zero,?_,RT.cons (Rn.x2 rfl rfl) (RT.cons (Rn.x2 rfl rfl) (RT.cons (Rn.same hS) (RT.cons (Rn.x2 rfl rfl) (RT.cons (Rn.x2 rfl rfl) (RT.cons (Rn.same hnT) (RT.cons (Rn.same rfl) (RT.cons (Rn.same rfl) (RT.cons (Rn.same (QfO _ _ _)) RT.nil))))))))⟩
            exact RB.cells rfl rfl gg (RnL.same hnr) (RB.cells rfl rfl gg (RnL.cons (Rn.same (Qab _)) (RnL.cons (Rn.same rfl) (RnL.cons (Rn.same (Qab _)) (RnL.cons (Rn.same (Qaj _)) (RnL.cons (Rn.x1 rfl rfl) (RnL.cons (Rn.x1 rfl rfl) (RnL.cons (Rn.x1 rfl rfl) (RnL.cons (Rn.x1 rfl rfl) RnL.nil)))))))) (RB.cells rfl rfl gg (RnL.same rfl) (RB.cells rfl rfl gg (RnL.same rfl) (RB.cells rfl rfl gg (RnL.same (SU.Qal (Qak Qab _) hn1)) (RB.cells rfl rfl gg (RnL.same (SU.Qal (Qak Qab _) hn2)) (RB.cells rfl rfl gg (RnL.same (SU.Qal (Qae _) rfl)) (RB.cells rfl rfl gg (RnL.same (Qbt _)) RB.nil)))))))
          case hfr=>
            exact(by repeat (first|exact Fresh.e|exact Fresh.le (by assumption) (by omega)|refine Fresh.set ?_ (by omega) (by omega)))
          case hY=>
            intro j z hj hz
            have hlt5:=Qk4 h (List.mem_of_getElem? hz)
            have hctl:(c.ev z.1).c=true:=by simpa using hn3' j z hj hz
            refine RSpec.of_wS (n:=300) rfl gg rfl rfl rfl ?_
            simp(disch:=first|omega|exact PairsOK.mk rfl|(simp only[lenW]<;>omega)) only[upsT,hctl,hlt5,Qdx,Qd4,evC,Qaa,Qac,Qad,wW,wV,simprocAttr]
            exact⟨rfl,fun x=>set3 rfl⟩
          case hS=>
            refine RSpec.of_wS (n:=300) rfl gg rfl rfl rfl ?_
            simp(disch:=first|omega|exact PairsOK.mk rfl|(simp only[lenW]<;>omega)) only[upsT,hctl,hlt5,Qdx,Qd4,evC,hlf,Qaa,Qac,Qad,wW,wV,simprocAttr]
            exact⟨rfl,fun x=>set6 rfl⟩
          case hQ=>
            unfold leftQ
            refine⟨rfl,?_⟩
            simp(disch:=first|omega|exact PairsOK.mk rfl|(simp only[lenW]<;>omega)) only[Qaa,Qac,Qad,wW,wV,simprocAttr]
            refine⟨i+1,by omega,by omega,?_⟩
            rw[hia,hib,hip,hsi,hrsi,hrw,hfa,List.length_append,QaM,QaB]
            refine⟨[(51,.blk 51 0),(52,.blk 52 0),(53,.blk 53 0),(60,.blk 60 0),(61,.blk 61 0),(62,.blk 62 0),(63,.blk 63 1)],rfl,RO.zero,?_,RT.cons (Rn.x2 rfl rfl) (RT.cons (Rn.x2 rfl rfl) (RT.cons (Rn.same hS) (RT.cons (Rn.x2 rfl rfl) (RT.cons (Rn.same hnT) au25))))⟩
            exact RB.cells rfl rfl gg (RnL.same hnr) (RB.cells rfl rfl gg (RnL.cons (Rn.same (Qab _)) (RnL.cons (Rn.same rfl) (RnL.cons (Rn.same (Qab _)) (RnL.cons (Rn.same (Qaj _)) (RnL.cons (Rn.x1 rfl rfl) (RnL.cons (Rn.x1 rfl rfl) (RnL.cons (Rn.x1 rfl rfl) (RnL.cons (Rn.x1 rfl rfl) RnL.nil)))))))) (RB.cells rfl rfl gg (RnL.same rfl) (RB.cells rfl rfl gg (RnL.same (SU.Qal (Qak Qab _) hn1)) (RB.cells rfl rfl gg (RnL.same (SU.Qal (Qak Qab _) hn2)) (RB.cells rfl rfl gg (RnL.same (SU.Qal (Qae _) rfl)) (RB.cells rfl rfl gg (RnL.same (SU.Qal (Qbt _) rfl)) RB.nil))))))
    · have e : i = T.length := by omega
      subst e
      have hla:((spA c T).map sliN).length=T.length:=by unfold spA;simp
      have hlb:((spB c T).map sliN).length=T.length:=by unfold spB;simp
      have hlp:(ints (nz (spP c P T))).length=T.length:=by unfold spP;simp[ints]
      have hlf:=QfQ (forb c T.length)
      simp(disch:=first|omega|exact PairsOK.mk rfl|(simp only[lenW]<;>omega)) only[hlt,List.take_length,Qaa,Qac,Qad,wW,wV,simprocAttr]
      refine⟨(),[(52,.blk 52 0),(53,.blk 53 0)],rfl,RO.zero,?_,RT.cons (Rn.x2 rfl rfl) (RT.cons (Rn.x2 rfl rfl) RT.nil)⟩
      exact RB.cells rfl rfl gg (RnL.cons (Rn.same (Qab _)) (RnL.cons (Rn.same rfl) (RnL.cons (Rn.same (Qab _)) (RnL.cons (Rn.same (Qaj _)) (RnL.cons (Rn.fzm (b:=60) (g:=0) gg rfl rfl (by simp[spA]) (by simpa using hla) (RnL.same (Qak Qab _))) (RnL.cons (Rn.fzm (b:=61) (g:=0) gg rfl rfl (by simp[spB]) (by simpa using hlb) (RnL.same (Qak Qab _))) (RnL.cons (Rn.fzm (b:=62) (g:=0) gg rfl rfl (by simp[spP]) (by simpa using hlp) (RnL.same (Qae _))) (RnL.cons (Rn.fzm (b:=63) (g:=0) gg rfl rfl rfl hlf (RnL.same (Qbt _))) RnL.nil)))))))) (RB.cells rfl rfl gg (RnL.same rfl) RB.nil)
  rintro _ _
  simp(disch:=first|omega|exact PairsOK.mk rfl|(simp only[lenW]<;>omega)) only[Qaa,Qac,Qad,wW,wV,simprocAttr]
  exact⟨.inr trivial,_,rfl,Rn.same hns⟩
end Go.AM.SO
namespace Go.AM.SO
open Go.Proofs Go.AM.SD Go.AM.SE
theorem Qk5 {α β:Type} {q:β->Bool} {f:α->β}:∀{l:List α},idxQ q (l.map f)=idxQ (fun x=>q (f x)) l:=fun{l}=>by
 refine Qe4 (by simp) fun j x y hx hy=>?_
 rw[List.getElem?_map,hy]at hx
 cases hx;rfl
theorem Qik (t:List Nat) (xs:List (Nat×List (Nat×Nat))) (ks:List (List (Nat×Int)×Int)):vioV t xs ks=if 0<=idxQ (exQ t) xs then(1,idxQ (exQ t) xs,true)else if 0<=idxQ (koQ t) ks then(2,idxQ (koQ t) ks,true)else(0,0,false):=by
  have e1:idxQ (cdQ t) (xs.map .inl)=idxQ (exQ t) xs:=Qk5
  have e2:idxQ (cdQ t) (ks.map .inr)=idxQ (koQ t) ks:=Qk5
  have h1:=@Qd2 _ (exQ t) xs
  have h2:=@Qd2 _ (koQ t) ks
  unfold vioV cdA
  rw[QpD,e1,e2,List.length_map]
  by_cases ha:0<=idxQ (exQ t) xs
  · have := h1.2 ha
    rw[if_pos ha,if_neg (by omega),if_pos this,if_pos ha]
  · rw [if_neg ha, if_neg ha]
    by_cases hb:0<=idxQ (koQ t) ks
    · rw [if_pos hb, if_neg (by omega), if_neg (by omega), if_pos hb]
      congr 2;omega
    · rw[if_neg hb,if_pos (by omega),if_neg hb]
def rsnD (c:Cel) (i:Nat) (t r:List Nat):Option (Nat×Int×Int×Int):=
 if(vioV t c.xs c.ks).2.2=true then some (i,(vioV t c.xs c.ks).1,(vioV t c.xs c.ks).2.1,-1)
 else((evS (auL c.cs) t).find? fun e=>decide (0<=rfI c r e)&& !(c.ev e).c).map fun e=>(i,3,rfI c r e,(e:Int))
theorem Qrs {c:Cel} {i:Nat} {t r:List Nat} {j:Nat} (h:idxQ (exQ t) c.xs=j):rsnD c i t r=some (i,1,(j:Int),-1):=by
 have hv:=Qik t c.xs c.ks
 rw[h,if_pos (by omega)]at hv
 unfold rsnD
 rw[hv,if_pos rfl]
theorem Qrt {c:Cel} {i:Nat} {t r:List Nat} {j:Nat} (h0:idxQ (exQ t) c.xs= -1) (h:idxQ (koQ t) c.ks=j):rsnD c i t r=some (i,2,(j:Int),-1):=by
 have hv:=Qik t c.xs c.ks
 rw[h0,h,if_neg (by omega),if_pos (by omega)]at hv
 unfold rsnD
 rw[hv,if_pos rfl]
theorem Qru {c:Cel} {i:Nat} {t r:List Nat} (h0:idxQ (exQ t) c.xs= -1) (h:idxQ (koQ t) c.ks= -1):rsnD c i t r=((evS (auL c.cs) t).find? fun e=>decide (0<=rfI c r e)&& !(c.ev e).c).map fun e=>(i,3,rfI c r e,(e:Int)):=by
 have hv:=Qik t c.xs c.ks
 rw[h0,h,if_neg (by omega),if_neg (by omega)]at hv
 unfold rsnD
 rw[hv,if_neg (by simp)]
theorem QfV {α:Type} {p:α->Bool}:∀{l:List α} {j:Nat} {x:α},l[j]?=some x->p x=true->(∀(k:Nat) y,k<j->l[k]?=some y->p y=false)->l.find? p=some x
 |[],_,_,h,_,_=>by simp at h
 |y::l,0,x,h,hp,_=>by
  have e:y=x:=by simpa using h
  rw[List.find?_cons,e,hp]
 |y::l,j+1,x,h,hp,hb=>by
  rw[List.find?_cons,hb 0 y (by omega) rfl]
  exact QfV (l:=l) (by simpa using h) hp fun k z hk hz=>hb (k+1) z (by omega) (by simpa using hz)
theorem Qqy {α:Type} {p:α->Bool} {l:List α} (hb:∀(k:Nat) y,k<l.length->l[k]?=some y->p y=false):l.find? p=none:=by
 rw[List.find?_eq_none]
 intro x hx
 obtain⟨k,hk,hkx⟩:=List.getElem_of_mem hx
 rw[hb k x hk (by rw[List.getElem?_eq_getElem hk,hkx])]
 simp
theorem Qmz {c:Cel} {r:List Nat}:∀{l:List Nat},(l.filterMap (ylE c r)).find? (fun y=> !(c.ev y.1).c)=(l.find? fun e=>decide (0<=rfI c r e)&& !(c.ev e).c).map fun e=>(e,rfI c r e)
 |[]=>rfl
 | e :: l => by
  have ih:=Qmz (c:=c) (r:=r) (l:=l)
  rw[List.filterMap_cons,List.find?_cons]
  by_cases h:0<=rfI c r e
  ·have hy : ylE c r e = some (e, rfI c r e) := if_pos h
   rw[hy]
   dsimp only
   rw[List.find?_cons,ih,decide_eq_true h,Bool.true_and]
   cases(c.ev e).c<;>rfl
  ·have hy : ylE c r e = none := if_neg h
   rw[hy,decide_eq_false h,Bool.false_and]
   exact ih
theorem rsn_D {c:Cel} (h:WfCel c) {i:Nat} {t:List Nat} (ht:(sync0 (allA c)).1[i]?=some t):rsn c i t=rsnD c i (t.take c.cs.length) (t.drop c.cs.length):=by
 have hp:=(Qii h t (List.mem_of_getElem? ht)).2
 have hg:=Qf2 hp
 unfold rsn rsnD
 split
 ·rfl
 ·unfold yls
  rw[QpC (QaW h) hg,Qmz,Option.map_map];rfl
def rsV (o:Option (Nat×Int×Int×Int)):AV:= .tup [.agg (match o with|some r=>rsC r|none=>[.int .i64 0,.int .i64 0,.int .i64 0,.int .i64 0]),.bool o.isSome]
theorem QoP (o:Option (Nat×Int×Int×Int)):noRef (rsV o)=true:=by cases o<;>rfl
theorem other116 (t:List Nat) (c s y:Nat) (hy:t[c]?=some y):PSpec Tryz.prog 116 [.agg [.int .i64 (c:Int),.int .i64 (s:Int)],.fptr [sliN t]] (.bool (!decide (y=s))):=by
 refine PSpec.Qam 64 TS.ok116 rfl (by simp only[noRefs,noRef,Qae];rfl) rfl ?_
 have hc:c<t.length:=(List.getElem?_eq_some_iff.1 hy).1
 have hd:decide ((y:Int)=(s:Int))=decide (y=s):=decide_eq_decide.2 (by omega)
 simp(disch:=first|omega|exact PairsOK.mk rfl|(simp only[lenW]<;>omega)) only[TS.s116,Qaz hy,hc,hd,Qaa,Qac,Qad,wW,wV,simprocAttr]
 exact⟨.inr trivial,_,rfl,rfl⟩
theorem local116 {t:List Nat} {x:Nat×List (Nat×Nat)} (hl:x.2.length<=1000) (ht:∀l∈x.2,l.1<t.length):PSpec Tryz.prog 115 [los x.2,.fn 116 [] [.fptr [sliN t]]] (.bool (!exQ t x)):=by
  have hC:=contains115 (K:=116) (cap:=[.fptr [sliN t]]) (fun l=> !decide (t.getD l.1 0=l.2)) x.2 (by omega) (by simp only[noRefs,noRef,Qae];rfl) fun l hm=>by
    obtain⟨y,hy⟩:=Qag (ht l hm)
    have:=other116 t l.1 l.2 y hy
    rwa [show t.getD l.1 0=y by rw[List.getD_eq_getElem?_getD,hy];rfl]
  unfold exQ
  rw[Bool.not_not]
  exact hC
theorem Qrv {l:List Aut} (h:∀a∈l,WfI a) {t:List Nat}:∀e∈evS l t,e<5:=fun e he=>by
 obtain⟨a,ha,hea⟩:=(Qf4 h).1 (List.mem_filter.1 he).1
 exact(h a ha).wf.al5 e hea
theorem _root_.Go.AM.au26 {p:Prop} (h:p:=by repeat (first|exact RT.nil|(refine RT.cons ?_ ?_; · (first|exact Rn.any|exact Rn.x1 rfl rfl|exact Rn.x2 rfl rfl|exact Rn.x3 rfl rfl|exact Rn.x4 rfl rfl|exact Rn.x5 rfl|exact Rn.x6 rfl|exact Rn.x7 rfl|(refine Rn.slot ?_ ?_;(first|rfl|(rw[Int.natCast_add];rfl));(first|rfl|(simp only[noRef,noRefs,Qai,Bool.and_self,Bool.and_true,Bool.true_and,Qae,Qaw,Qab,Qaj,QaG,Qaf,SU.Qba,SU.Qa2,SU.QaF,SU.QaY,SU.QbP];done)))|(refine Rn.fn ?_ ?_<;>(repeat' (first|exact RnL.nil|refine RnL.cons ?_ ?_|exact Rn.same rfl|exact Rn.x6 rfl|exact Rn.x2 rfl rfl|exact Rn.x5 rfl|exact Rn.x1 rfl rfl))))))):p:=h
theorem reason44 (c : Cel) (h : WfCel c) (i : Nat) {t : List Nat} (ht : InT (auL c.cs) t) (r : List Nat) (hr : r.length = c.rs.length) (hi : i <= 1000000) : PSpec Tryz.prog 44 [celV c, .int .i64 (i : Int), sliN t, sliN r] (rsV (rsnD c i t r)) := by
  have hnr:=Qbf c
  refine PSpec.of_rn 64 TS.ok44 rfl (by rw[noRefs,SU.Qa3,noRefs,noRefs,Qab,noRefs,Qab];rfl) (QoP _) ?_
  have hok:=QkT h ht
  have hpo:=possible46 c h ht
  have hrf:=fun e=>refd47 c h r hr e
  have hel:=@Qrv (auL c.cs) (QaW h) t
  have hev5:(evS (auL c.cs) t).length<=5:=Nat.le_trans (List.length_filter_le ..) (Qdz (QaW h))
  have hxn:=h.x2
  have hkn:=h.k1
  have hgR:=fun e=>@Qmy c r e
  have h2:=h.r2
  have hxi:=SU.Qdj c.xs
  have hki:=Qeu c.ks
  have hnt:noRefs [sliN t]=true:=by rw[noRefs,Qab];rfl
  simp(disch:=first|omega|exact PairsOK.mk rfl|(simp only[lenW]<;>omega)) only[TS.s44,Qaa,Qac,Qad,wW,wV,simprocAttr]
  refine Qan 100 (fun j:Nat=>[(1,.int .i64 i),(3,sliN r),(4,.ptr 51 0 0),(6,.ptr 52 0 0),(8,.ptr 53 0 0),(21,exs c.xs),(22,.int .i64 c.xs.length),(23,.int .i64 j)]) (fun _=>[(51,.cells 0 [evsV c.ev,its 99 c.cs,its 114 c.rs,exs c.xs,cos c.ks]),(52,.cells 0 [sliN t]),(53,.cells 0 [.int .i64 0,.int .i64 0,.int .i64 0,.int .i64 0])])
    (fun j=>j<=c.xs.length/\∀(k:Nat) y,k<j->c.xs[k]?=some y->exQ t y=false) (fun j=>c.xs.length-j) 0 0 200 (fun _:Unit=>[(1,.int .i64 i),(3,sliN r),(4,.ptr 51 0 0),(6,.ptr 52 0 0),(8,.ptr 53 0 0)]) (fun _=>[(51,.cells 0 [evsV c.ev,its 99 c.cs,its 114 c.rs,exs c.xs,cos c.ks]),(52,.cells 0 [sliN t]),(53,.cells 0 [.int .i64 0,.int .i64 0,.int .i64 0,.int .i64 0])]) (fun _=>idxQ (exQ t) c.xs= -1) ?_ ⟨Nat.zero_le _,fun k y hk=>absurd hk (Nat.not_lt_zero _)⟩ ?_ ?_
  · refine ⟨[(51, .blk 64 0), (52, .blk 65 0), (53, .blk 66 0)], rfl, au0, ?_, au26⟩
    exact RB.cells rfl rfl gg (RnL.same hnr) (RB.cells rfl rfl gg (RnL.same hnt) (RB.cells rfl rfl gg (RnL.same rfl) RB.nil))
  · rintro j ⟨hj, hb⟩
    by_cases hlt:j<c.xs.length
    · obtain ⟨x, hx⟩ := Qag hlt
      obtain⟨hx1,hx2⟩:=hok.xl x (List.mem_of_getElem? hx)
      have hC:=local116 hx1 hx2
      have hdr:=QfW hx
      have hdl:2<=((c.xs.flatMap exC).drop (j*2)).length:=by rw[hdr];simp
      simp(disch:=first|omega|exact PairsOK.mk rfl|(simp only[lenW]<;>omega)) only[hlt,hdr,hdl,Qaa,Qac,Qad,wW,wV,simprocAttr]
      refine SU.chc (HSpec.lend (FrzL.cons (FrzTo.same _) (FrzL.cons (FrzTo.fn FrzL.nil (FrzL.cons (FrzTo.ptr (g:=0) (cs:=[sliN t]) gg (FrzL.same _)) FrzL.nil)) FrzL.nil)) hC rfl) ?_
      cases hq:exQ t x with
      | true =>
        simp(disch:=first|omega|exact PairsOK.mk rfl|(simp only[lenW]<;>omega)) only[Qaa,Qac,Qad,wW,wV,simprocAttr]
        refine⟨.inr trivial,_,rfl,?_⟩
        rw[Qrs (Qcn hx hq hb)]
        exact Rn.same rfl
      | false =>
        simp(disch:=first|omega|exact PairsOK.mk rfl|(simp only[lenW]<;>omega)) only[Qaa,Qac,Qad,wW,wV,simprocAttr]
        refine⟨j+1,by omega,⟨by omega,fun k y hk hy=>?_⟩,?_⟩
        · by_cases e : k = j
          · subst e;rw[hx]at hy;cases hy;exact hq
          · exact hb k y (by omega) hy
        · refine ⟨[(51, .blk 51 0), (52, .blk 52 0), (53, .blk 53 0)], rfl, au0, ?_, au26⟩
          exact RB.cells rfl rfl gg (RnL.same hnr) (RB.cells rfl rfl gg (RnL.same hnt) (RB.cells rfl rfl gg (RnL.same rfl) RB.nil))
    · simp (disch := first | omega | exact PairsOK.mk rfl | (simp only [lenW] <;> omega)) only [hlt, Qaa, Qac, Qad, wW, wV, simprocAttr]
      refine⟨(),QbQ fun x hx=>?_,?_⟩
      · obtain ⟨k, hk, hkx⟩ := List.getElem_of_mem hx
        exact hb k x (by omega) (by rw[List.getElem?_eq_getElem hk,hkx])
      · refine ⟨[(51, .blk 51 0), (52, .blk 52 0), (53, .blk 53 0)], rfl, au0, ?_, au26⟩
        exact RB.cells rfl rfl gg (RnL.same hnr) (RB.cells rfl rfl gg (RnL.same hnt) (RB.cells rfl rfl gg (RnL.same rfl) RB.nil))
  rintro _ hnx
  simp(disch:=first|omega|exact PairsOK.mk rfl|(simp only[lenW]<;>omega)) only[Qaa,Qac,Qad,wW,wV,simprocAttr]
  refine Qan 300 (fun j:Nat=>[(1,.int .i64 i),(3,sliN r),(4,.ptr 51 0 0),(6,.ptr 52 0 0),(8,.ptr 53 0 0),(38,cos c.ks),(39,.int .i64 c.ks.length),(40,.int .i64 j)]) (fun _=>[(51,.cells 0 [evsV c.ev,its 99 c.cs,its 114 c.rs,exs c.xs,cos c.ks]),(52,.cells 0 [sliN t]),(53,.cells 0 [.int .i64 0,.int .i64 0,.int .i64 0,.int .i64 0])])
    (fun j=>j<=c.ks.length/\∀(k:Nat) y,k<j->c.ks[k]?=some y->koQ t y=false) (fun j=>c.ks.length-j) 0 2 400 (fun _:Unit=>[(1,.int .i64 i),(3,sliN r),(4,.ptr 51 0 0),(6,.ptr 52 0 0),(8,.ptr 53 0 0)]) (fun _=>[(51,.cells 0 [evsV c.ev,its 99 c.cs,its 114 c.rs,exs c.xs,cos c.ks]),(52,.cells 0 [sliN t]),(53,.cells 0 [.int .i64 0,.int .i64 0,.int .i64 0,.int .i64 0])]) (fun _=>idxQ (koQ t) c.ks= -1) ?_ ⟨Nat.zero_le _,fun k y hk=>absurd hk (Nat.not_lt_zero _)⟩ ?_ ?_
  · refine ⟨[(51, .blk 51 0), (52, .blk 52 0), (53, .blk 53 0)], rfl, au0, ?_, au26⟩
    exact RB.cells rfl rfl gg (RnL.same hnr) (RB.cells rfl rfl gg (RnL.same hnt) (RB.cells rfl rfl gg (RnL.same rfl) RB.nil))
  · rintro j ⟨hj, hb⟩
    by_cases hlt:j<c.ks.length
    · obtain ⟨k, hk⟩ := Qag hlt
      obtain⟨hk1,hk2⟩:=hok.kl k (List.mem_of_getElem? hk)
      have hdr:=QfX hk
      have hdl:3<=((c.ks.flatMap coC).drop (j*3)).length:=by rw[hdr];simp
      have hln:=SU.Qcp k.1
      have hco:noRefs (coC k)=true:=by simp only[coC,noRefs,noRef,SU.QaF];rfl
      have hsm:=QfN hok.t3 fun x hx=>(hk2 x hx).2
      simp(disch:=first|omega|exact PairsOK.mk rfl|(simp only[lenW]<;>omega)) only[hlt,hdr,hdl,Qaa,Qac,Qad,wW,wV,simprocAttr]
      refine Qan 500 (fun m:Nat=>[(1,.int .i64 i),(3,sliN r),(4,.ptr 51 0 0),(6,.ptr 52 0 0),(8,.ptr 53 0 0),(38,cos c.ks),(39,.int .i64 c.ks.length),(40,.int .i64 j),(12,.int .i64 j),(13,.ptr 54 0 0),(14,.int .i64 (koV t (k.1.take m))),(46,tes k.1),(47,.int .i64 k.1.length),(48,.int .i64 m)]) (fun _=>[(51,.cells 0 [evsV c.ev,its 99 c.cs,its 114 c.rs,exs c.xs,cos c.ks]),(52,.cells 0 [sliN t]),(53,.cells 0 [.int .i64 0,.int .i64 0,.int .i64 0,.int .i64 0]),(54,.cells 0 (coC k))]) (fun m=>m<=k.1.length) (fun m=>k.1.length-m) 0 4 600
        (fun _:Unit=>[(1,.int .i64 i),(3,sliN r),(4,.ptr 51 0 0),(6,.ptr 52 0 0),(8,.ptr 53 0 0),(38,cos c.ks),(39,.int .i64 c.ks.length),(40,.int .i64 j),(12,.int .i64 j),(13,.ptr 54 0 0),(14,.int .i64 (koV t k.1))]) (fun _=>[(51,.cells 0 [evsV c.ev,its 99 c.cs,its 114 c.rs,exs c.xs,cos c.ks]),(52,.cells 0 [sliN t]),(53,.cells 0 [.int .i64 0,.int .i64 0,.int .i64 0,.int .i64 0]),(54,.cells 0 (coC k))]) (fun _=>True) ?_ (Nat.zero_le _) ?_ ?_
      · refine ⟨[(51, .blk 51 0), (52, .blk 52 0), (53, .blk 53 0), (54, .blk 304 0)], rfl, au0, ?_, au26⟩
        exact RB.cells rfl rfl gg (RnL.same hnr) (RB.cells rfl rfl gg (RnL.same hnt) (RB.cells rfl rfl gg (RnL.same rfl) (RB.cells rfl rfl gg (RnL.same hco) RB.nil)))
      · rintro m hm
        by_cases hlt2:m<k.1.length
        · obtain ⟨x, hx⟩ := Qag hlt2
          obtain⟨h1,h2'⟩:=hk2 x (List.mem_of_getElem? hx)
          obtain⟨y,hy⟩:=Qag h1
          have hyt:=hok.t3 y (List.mem_of_getElem? hy)
          have hyd:t.getD x.1 0=y:=by rw[List.getD_eq_getElem?_getD,hy];rfl
          have hdr2:=SU.QcG hx
          have hdl2:2<=((k.1.flatMap teC).drop (m*2)).length:=by rw[hdr2];simp
          have hsu:=Qg6 (t:=t) hx
          rw[hyd]at hsu
          have hp:=QfM h2' (b:=(y:Int)) ⟨by omega,by omega⟩
          have hs1:=hsm m hm
          have hw1:wr .i64 (x.2*(y:Int))=x.2*(y:Int):=QdT (by omega) (by omega)
          have hw2:wr .i64 (koV t (k.1.take m)+x.2*(y:Int))=koV t (k.1.take m)+x.2*(y:Int):=QdT (by omega) (by omega)
          simp(disch:=first|omega|exact PairsOK.mk rfl|(simp only[lenW]<;>omega)) only[hlt2,hdr2,hdl2,h1,Qaz hy,hw1,hw2,Qaa,Qac,Qad,wW,wV,simprocAttr]
          refine⟨m+1,by omega,by omega,?_⟩
          rw[hsu]
          refine⟨[(51,.blk 51 0),(52,.blk 52 0),(53,.blk 53 0),(54,.blk 54 0)],rfl,au0,?_,au26⟩
          exact RB.cells rfl rfl gg (RnL.same hnr) (RB.cells rfl rfl gg (RnL.same hnt) (RB.cells rfl rfl gg (RnL.same rfl) (RB.cells rfl rfl gg (RnL.same hco) RB.nil)))
        · have e : m = k.1.length := by omega
          subst e
          simp(disch:=first|omega|exact PairsOK.mk rfl|(simp only[lenW]<;>omega)) only[hlt2,List.take_length,Qaa,Qac,Qad,wW,wV,simprocAttr]
          refine⟨(),?_⟩
          refine⟨[(51,.blk 51 0),(52,.blk 52 0),(53,.blk 53 0),(54,.blk 54 0)],rfl,au0,?_,au26⟩
          exact RB.cells rfl rfl gg (RnL.same hnr) (RB.cells rfl rfl gg (RnL.same hnt) (RB.cells rfl rfl gg (RnL.same rfl) (RB.cells rfl rfl gg (RnL.same hco) RB.nil)))
      rintro _ _
      unfold coC
      cases hq:koQ t k with
      | true =>
        have hq':(k.2<koV t k.1)=True:=eq_true (by simpa[koQ]using hq)
        simp(disch:=first|omega|exact PairsOK.mk rfl|(simp only[lenW]<;>omega)) only[hq',Qaa,Qac,Qad,wW,wV,simprocAttr]
        refine⟨.inr trivial,_,rfl,?_⟩
        rw[Qrt hnx (Qcn hk hq hb)]
        exact Rn.same rfl
      | false =>
        have hq':(k.2<koV t k.1)=False:=eq_false (by simpa[koQ]using hq)
        simp(disch:=first|omega|exact PairsOK.mk rfl|(simp only[lenW]<;>omega)) only[hq',Qaa,Qac,Qad,wW,wV,simprocAttr]
        refine⟨j+1,by omega,⟨by omega,fun m y hm hy=>?_⟩,?_⟩
        · by_cases e : m = j
          · subst e;rw[hk]at hy;cases hy;exact hq
          · exact hb m y (by omega) hy
        · refine ⟨[(51, .blk 51 0), (52, .blk 52 0), (53, .blk 53 0)], rfl, au0, ?_, au26⟩
          exact RB.cells rfl rfl gg (RnL.same hnr) (RB.cells rfl rfl gg (RnL.same hnt) (RB.cells rfl rfl gg (RnL.same rfl) RB.nil))
    · simp (disch := first | omega | exact PairsOK.mk rfl | (simp only [lenW] <;> omega)) only [hlt, Qaa, Qac, Qad, wW, wV, simprocAttr]
      refine⟨(),QbQ fun x hx=>?_,?_⟩
      · obtain ⟨k, hk, hkx⟩ := List.getElem_of_mem hx
        exact hb k x (by omega) (by rw[List.getElem?_eq_getElem hk,hkx])
      · refine ⟨[(51, .blk 51 0), (52, .blk 52 0), (53, .blk 53 0)], rfl, au0, ?_, au26⟩
        exact RB.cells rfl rfl gg (RnL.same hnr) (RB.cells rfl rfl gg (RnL.same hnt) (RB.cells rfl rfl gg (RnL.same rfl) RB.nil))
  rintro _ hnk
  rw[Qru hnx hnk]
  simp(disch:=first|omega|exact PairsOK.mk rfl|(simp only[lenW]<;>omega)) only[Qaa,Qac,Qad,wW,wV,simprocAttr]
  refine cp hpo ?_
  have hpq:∀e,(decide (0<=rfI c r e)&& !(c.ev e).c)=(decide (0<=rfI c r e)&& !(c.ev e).c):=fun _=>rfl
  generalize evS (auL c.cs) t=L at*
  simp(disch:=first|omega|exact PairsOK.mk rfl|(simp only[lenW]<;>omega)) only[Qaa,Qac,Qad,wW,wV,simprocAttr]
  refine Qan 700 (fun j:Nat=>[(1,.int .i64 i),(3,sliN r),(4,.ptr 51 0 0),(8,.ptr 53 0 0),(73,sliN L),(74,.int .i64 L.length),(75,.int .i64 j)]) (fun _=>[(51,.cells 0 [evsV c.ev,its 99 c.cs,its 114 c.rs,exs c.xs,cos c.ks]),(53,.cells 0 [.int .i64 0,.int .i64 0,.int .i64 0,.int .i64 0])])
    (fun j=>j<=L.length/\∀(k:Nat) y,k<j->L[k]?=some y->(decide (0<=rfI c r y)&& !(c.ev y).c)=false) (fun j=>L.length-j) 0 6 800 (fun _:Unit=>[(8,.ptr 53 0 0)]) (fun _=>[(53,.cells 0 [.int .i64 0,.int .i64 0,.int .i64 0,.int .i64 0])]) (fun _=>L.find? (fun e=>decide (0<=rfI c r e)&& !(c.ev e).c)=none) ?_ ⟨Nat.zero_le _,fun k y hk=>absurd hk (Nat.not_lt_zero _)⟩ ?_ ?_
  · refine ⟨[(51, .blk 51 0), (53, .blk 53 0)], rfl, au0, ?_, au26⟩
    exact RB.cells rfl rfl gg (RnL.same hnr) (RB.cells rfl rfl gg (RnL.same rfl) RB.nil)
  · rintro j ⟨hj, hb⟩
    by_cases hlt:j<L.length
    · obtain ⟨e, he⟩ := Qag hlt
      have hR:=hrf e
      have hg:=hgR e
      have he5:=hel e (List.mem_of_getElem? he)
      have hnext:(decide (0<=rfI c r e)&& !(c.ev e).c)=false->∀(k:Nat) y,k<j+1->L[k]?=some y->(decide (0<=rfI c r y)&& !(c.ev y).c)=false:=fun hq k y hk hy=>by
        by_cases e2:k=j
        · subst e2;rw[he]at hy;cases hy;exact hq
        · exact hb k y (by omega) hy
      simp(disch:=first|omega|exact PairsOK.mk rfl|(simp only[lenW]<;>omega)) only[hlt,Qaz he,Qaa,Qac,Qad,wW,wV,simprocAttr]
      refine cp hR ?_
      by_cases h0:0<=rfI c r e
      · cases hct : (c.ev e).c with
        | true =>
          have hq:=hnext (by rw[hct];simp)
          generalize rfI c r e=v at*
          simp(disch:=first|omega|exact PairsOK.mk rfl|(simp only[lenW]<;>omega)) only[h0,hct,he5,Qdx,Qd4,evC,Qaa,Qac,Qad,wW,wV,simprocAttr]
          refine⟨j+1,by omega,⟨by omega,hq⟩,?_⟩
          refine⟨[(51,.blk 51 0),(53,.blk 53 0)],rfl,au0,?_,au26⟩
          exact RB.cells rfl rfl gg (RnL.same hnr) (RB.cells rfl rfl gg (RnL.same rfl) RB.nil)
        | false =>
          have hfd:=QfV (p:=fun e=>decide (0<=rfI c r e)&& !(c.ev e).c) he (by simp[h0,hct]) hb
          rw[hfd]
          rw[Option.map_some]
          generalize rfI c r e=v at*
          simp(disch:=first|omega|exact PairsOK.mk rfl|(simp only[lenW]<;>omega)) only[h0,hct,he5,Qdx,Qd4,evC,Qaa,Qac,Qad,wW,wV,simprocAttr]
          exact⟨.inr trivial,_,rfl,Rn.same rfl⟩
      · have hq := hnext (by simp [h0])
        generalize rfI c r e=v at*
        simp(disch:=first|omega|exact PairsOK.mk rfl|(simp only[lenW]<;>omega)) only[h0,Qaa,Qac,Qad,wW,wV,simprocAttr]
        refine⟨j+1,by omega,⟨by omega,hq⟩,?_⟩
        refine⟨[(51,.blk 51 0),(53,.blk 53 0)],rfl,au0,?_,au26⟩
        exact RB.cells rfl rfl gg (RnL.same hnr) (RB.cells rfl rfl gg (RnL.same rfl) RB.nil)
    · simp (disch := first | omega | exact PairsOK.mk rfl | (simp only [lenW] <;> omega)) only [hlt, Qaa, Qac, Qad, wW, wV, simprocAttr]
      refine⟨(),Qqy fun k y hk hy=>hb k y (by omega) hy,?_⟩
      refine⟨[(53,.blk 53 0)],rfl,au0,?_,au26⟩
      exact RB.cells rfl rfl gg (RnL.same rfl) RB.nil
  rintro _ hfn
  rw[hfn]
  simp(disch:=first|omega|exact PairsOK.mk rfl|(simp only[lenW]<;>omega)) only[Qaa,Qac,Qad,wW,wV,simprocAttr]
  exact⟨.inr trivial,_,rfl,Rn.same rfl⟩
end Go.AM.SO
namespace Go.AM.SO
open Go.Proofs Go.AM.SD Go.AM.SE
theorem _root_.Go.AM.au27 {p:Prop} (h:p:=by repeat (first|exact RT.nil|(refine RT.cons ?_ ?_; · (first|exact Rn.any|exact Rn.x1 rfl rfl|exact Rn.x2 rfl rfl|exact Rn.x3 rfl rfl|exact Rn.x4 rfl rfl|exact Rn.x5 rfl|exact Rn.x6 rfl|exact Rn.x7 rfl|(refine Rn.slot ?_ ?_;(first|rfl|(rw[Int.natCast_add];rfl));(first|rfl|(simp only[noRef,noRefs,Qai,Bool.and_self,Bool.and_true,Bool.true_and,Qae,Qaw,Qab,Qaj,QaG,Qaf,Qcg];done)))|(refine Rn.fn ?_ ?_<;>(repeat' (first|exact RnL.nil|refine RnL.cons ?_ ?_|exact Rn.same rfl|exact Rn.x6 rfl|exact Rn.x2 rfl rfl|exact Rn.x5 rfl|exact Rn.x1 rfl rfl))))))):p:=h
theorem automata29N (l:List (List UInt8×Aut)) (hl:l.length<=1000):PSpec Tryz.prog 29 [itsN l] (auts (l.map (·.2))):=by
  refine PSpec.of_rn 64 TP.ok29 rfl (by rw[noRefs,QbV];rfl) (QaN _) ?_
  have hni:=QbV l
  simp(disch:=first|omega|exact PairsOK.mk rfl|(simp only[lenW]<;>omega)) only[TP.s29,Qaa,Qac,Qad,wW,wV,simprocAttr]
  refine Qan 100 (fun i:Nat=>[(3,.sl 60 0 0 i 4),(6,itsN l),(7,.int .i64 l.length),(8,.int .i64 i)]) (fun i=>[(60,.cells 0 (((l.take i).map (·.2)).flatMap auC))]) (fun i=>i<=l.length) (fun i=>l.length-i) 0 0 160 (fun _:Unit=>[(3,auts (l.map (·.2)))]) (fun _=>[]) (fun _=>True) ?_ (Nat.zero_le _) ?_ ?_
  · refine ⟨[(60, .nil)], rfl, au0, ?_, au27⟩
    exact RB.newnil rfl rfl RB.nil
  · rintro i hi
    by_cases hlt:i<l.length
    · obtain ⟨x, hx⟩ := Qag hlt
      have hdr:=Qmw hx
      have hdl:5<=((l.flatMap itN).drop (i*5)).length:=by rw[hdr];simp
      have htl:((l.take i).map (·.2)).length=i:=by rw[List.length_map,List.length_take];omega
      have htm:(((l.take i).map (·.2)).flatMap auC).length=i*4:=by rw[Qcq,htl]
      have hap:((l.take (i+1)).map (·.2)).flatMap auC=((l.take i).map (·.2)).flatMap auC++auC x.2:=by rw[take_succ' hx];simp
      simp(disch:=first|omega|exact PairsOK.mk rfl|(simp only[lenW]<;>omega)) only[hlt,hdr,hdl,htm,Qab,Qaj,Qaa,Qac,Qad,wW,wV,simprocAttr]
      refine⟨i+1,by omega,by omega,?_⟩
      rw[hap]
      refine⟨[(60,.blk 60 1)],rfl,au0,?_,au27⟩
      exact RB.cells rfl rfl gg (RnL.same (SU.Qal (QaG _) (QaG [x.2]))) RB.nil
    · have e : i = l.length := by omega
      subst e
      simp(disch:=first|omega|exact PairsOK.mk rfl|(simp only[lenW]<;>omega)) only[hlt,List.take_length,Qaa,Qac,Qad,wW,wV,simprocAttr]
      exact⟨(),[],rfl,RO.zero,RB.nil,RT.cons (Rn.fzm (b:=60) (g:=0) gg rfl rfl (by simp) (by rw[Qcq];simp) (RnL.same (QaG _))) RT.nil⟩
  rintro _ _
  simp(disch:=first|omega|exact PairsOK.mk rfl|(simp only[lenW]<;>omega)) only[Qaa,Qac,Qad,wW,wV,simprocAttr]
  exact⟨.inr trivial,_,rfl,Rn.same (QaN _)⟩
theorem Qrw (c:Cel):(nmL' 99 c.cs++nmL' 114 c.rs).map (·.2)=allA c:=by
 unfold nmL' allA
 rw[List.map_append,List.map_map,List.map_map];rfl
theorem Qqz {l:List (Nat×Int×Int×Int)} {i:Nat} {x:Nat×Int×Int×Int} (h:l[i]?=some x):(l.flatMap rsC).drop (i*4)= .int .i64 (x.1:Int):: .int .i64 x.2.1:: .int .i64 x.2.2.1:: .int .i64 x.2.2.2::(l.drop (i+1)).flatMap rsC:=Qbo (f:=rsC) (k:=4) (fun _=>rfl) h
theorem QfR (l:List (Nat×Int×Int×Int)):noRef (rss l)=true:=by rw[rss,noRef];exact Qbt _
theorem Qrx (x:Nat×Int×Int×Int):aEq (.flat true [.i,.i,.i,.i]) true (.agg (rsC x)) (.agg (rsC x))=some (.bool false):=by
 unfold rsC
 simp only[aEq,eqCells,eqCell,if_true,decide_true]
 rfl
theorem eq45 (l:List (Nat×Int×Int×Int)) (hl:l.length<=1000000):PSpec Tryz.prog 45 [rss l,rss l] (.bool true):=by
  refine PSpec.Qam 64 TS.ok45 rfl (by rw[noRefs,noRefs,QfR];rfl) rfl ?_
  have hno:=QfR l
  have hln:=QfQ l
  simp(disch:=first|omega|exact PairsOK.mk rfl|(simp only[lenW]<;>omega)) only[TS.s45,Qaa,Qac,Qad,wW,wV,simprocAttr]
  refine QaJ 100 (fun i:Nat=>[(0,rss l),(1,rss l),(12,.int .i64 l.length),(13,.int .i64 i)]) (fun _=>[]) (fun i=>i<=l.length) (fun i=>l.length-i) 0 ?_ (Nat.zero_le _) ?_
  · exact⟨[],rfl,RO.zero,RB.nil,RT.cons (Rn.same hno) (RT.cons (Rn.same hno) au27)⟩
  rintro i hi
  by_cases hlt:i<l.length
  · obtain ⟨x, hx⟩ := Qag hlt
    have hdr:=Qqz hx
    have hdl:4<=((l.flatMap rsC).drop (i*4)).length:=by rw[hdr];simp
    have hq:=Qrx x
    unfold rsC at hq
    simp(disch:=first|omega|exact PairsOK.mk rfl|(simp only[lenW]<;>omega)) only[hlt,hdr,hdl,hq,Qaa,Qac,Qad,wW,wV,simprocAttr]
    refine⟨i+1,by omega,by omega,?_⟩
    exact⟨[],rfl,RO.zero,RB.nil,RT.cons (Rn.same hno) (RT.cons (Rn.same hno) au27)⟩
  · simp (disch := first | omega | exact PairsOK.mk rfl | (simp only [lenW] <;> omega)) only [hlt, Qaa, Qac, Qad, wW, wV, simprocAttr]
    exact⟨.inr trivial,_,rfl,rfl⟩
theorem law8 (p : Pln) (h : POk p) (hxn : p.xn <= 9223372036854775807) :
    W2 Tryz.prog ⟨TS.s8.n,0⟩ TS.s8.body (fun e B=>(e= .normal\/e= .ret)/\resV B.T B.h TS.s8.res=some [.bool true]) ⟨argT 0 [plnV p],.e⟩:=by
  refine(wpC.toW (n:=40) (Q:=fun e T h _=>(e= .normal\/e= .ret)/\resV T h TS.s8.res=some [.bool true]) (show wS Tryz.prog ⟨TS.s8.n,0⟩ TS.s8.body [] 40 _ _ _ from ?_)).mono fun e B ⟨_,h⟩=>h
  have hlen:=SU.Qib h
  have hone:=SU.Qic h
  have hnr:=@SU.Qdp p
  have hS:=short25 p h hxn
  have hM:=SU.Make26 p h
  have hw:=@QqS p
  have hnc:=Qbf (mkC p)
  have htk:(plnC p).take 152=plnC p:=by rw[<-hlen,List.take_length]
  show wS _ _ _ _ _ (argT 0 [.agg (plnC p)]) _ _
  have hS':PSpec Tryz.prog 25 [.agg (plnC p)] (.bool (decide (p.xn<=4))):=hS
  have hM':PSpec Tryz.prog 26 [.agg (plnC p)] (celV (mkC p)):=hM
  clear hS hM
  generalize plnC p=C at*
  generalize mkC p=c at*
  by_cases h4:p.xn<=4
  · have e4 : decide (p.xn <= 4) = true := by simp [h4]
    rw[e4]at hS'
    have h0:=hw.c0
    have h3:=hw.c3
    have h2:=hw.r2
    have hO:=specify18 c hw
    have hI:=items43 c h0 (by omega) (by omega)
    have hA:=automata29N (nmL' 99 c.cs++nmL' 114 c.rs) (by rw[List.length_append,QbK,QbK];omega)
    rw[Qrw]at hA
    have hY:=QkX c hw
    have hA2:=automata29 (ch:=99) c.cs (by omega)
    have hY2:=Qms c hw
    obtain⟨hAO,hT,hT5⟩:=Qd3 (QdB hw) (by rw[QbU];omega)
    have hQ:=eq43 (syncA (allA c)) (syncA (allA c)) hAO hAO
    rw[QfD]at hQ
    have hin:=Qii hw
    have hqn:(syncA (allA c)).n=(sync0 (allA c)).1.length:=rfl
    have hrs:∀i t,(sync0 (allA c)).1[i]?=some t->rsnO c i=(rsnD c i (t.take c.cs.length) (t.drop c.cs.length)).toList:=fun i t ht=>by unfold rsnO;rw[List.getD_eq_getElem?_getD,ht,<-rsn_D hw ht];rfl
    have hre:=fun i t (ht:InT (auL c.cs) t) r hr hi=>reason44 c hw i ht r hr hi
    have hP:=(Qd3 (QaW hw) (by rw[QaQ];omega)).2.1
    have hle:=Qg9 c
    have hsu:=QfP c
    have hq5:=eq45 (forb c (sync0 (allA c)).1.length) (by have:=hle (sync0 (allA c)).1.length;omega)
    have hq3:=fun x=>eq41N x x
    rw[spC]at hO
    generalize syncA (auL c.cs)=a at*
    generalize syncA (allA c)=q at*
    generalize (sync0 (auL c.cs)).1=P at*
    generalize (sync0 (allA c)).1=T at*
    have hnT:=Qbq T
    have hnP:=Qbq P
    have hnS:noRefs [sliN q.al,.int .i64 (T.length:Int),sliN q.ms,egsN q.es,tuV (spA c T),tuV (spB c T),sliN (spP c P T),rss (forb c T.length)]=true:=by
      simp only[noRefs,Qab,Qaj,Qbq,QfR,Bool.true_and,Bool.and_true];rfl
    have hsa:(spA c T).length=T.length:=by simp[spA]
    have hsb:(spB c T).length=T.length:=by simp[spB]
    have hsp:(spP c P T).length=T.length:=by simp[spP]
    have hqn':(q.n:Int)=(T.length:Int):=by omega
    have eaV:aV q= .agg [sliN q.al,.int .i64 (T.length:Int),sliN q.ms,egsN q.es]:=by rw[<-hqn']
    rw[eaV]at hQ
    simp(disch:=first|omega|exact PairsOK.mk rfl|(simp only[lenW]<;>omega)) only[TS.s8,hlen,hone,htk,Qaa,Qac,Qad,wW,wV,simprocAttr]
    refine cp SK.known15 ?_
    simp(disch:=first|omega|exact PairsOK.mk rfl|(simp only[lenW]<;>omega)) only[hlen,htk,Qaa,Qac,Qad,wW,wV,simprocAttr]
    refine cp hS' ?_
    simp(disch:=first|omega|exact PairsOK.mk rfl|(simp only[lenW]<;>omega)) only[hlen,htk,Qaa,Qac,Qad,wW,wV,simprocAttr]
    refine cp hM' ?_
    simp(disch:=first|omega|exact PairsOK.mk rfl|(simp only[lenW]<;>omega)) only[Qaa,Qac,Qad,wW,wV,simprocAttr]
    refine cp hO ?_
    simp(disch:=first|omega|exact PairsOK.mk rfl|(simp only[lenW]<;>omega)) only[Qaa,Qac,Qad,wW,wV,simprocAttr]
    refine cp hI ?_
    simp(disch:=first|omega|exact PairsOK.mk rfl|(simp only[lenW]<;>omega)) only[Qaa,Qac,Qad,wW,wV,simprocAttr]
    refine cp hA ?_
    simp(disch:=first|omega|exact PairsOK.mk rfl|(simp only[lenW]<;>omega)) only[Qaa,Qac,Qad,wW,wV,simprocAttr]
    refine cp hY ?_
    simp(disch:=first|omega|exact PairsOK.mk rfl|(simp only[lenW]<;>omega)) only[Qaa,Qac,Qad,wW,wV,simprocAttr]
    refine cp hA2 ?_
    simp(disch:=first|omega|exact PairsOK.mk rfl|(simp only[lenW]<;>omega)) only[Qaa,Qac,Qad,wW,wV,simprocAttr]
    refine cp hY2 ?_
    simp(disch:=first|omega|exact PairsOK.mk rfl|(simp only[lenW]<;>omega)) only[hqn',hsa,hsb,hsp,Qaa,Qac,Qad,wW,wV,simprocAttr]
    refine cp hQ ?_
    simp(disch:=first|omega|exact PairsOK.mk rfl|(simp only[lenW]<;>omega)) only[hqn',hsa,hsb,hsp,Qaa,Qac,Qad,wW,wV,simprocAttr]
    refine Qan 200 (fun i:Nat=>[(3,.ptr 51 0 0),(4,.ptr 52 0 0),(7,tuV T),(10,tuV P),(12,.int .i64 c.cs.length),(13,.sl 60 0 0 (forb c i).length 4),(93,.int .i64 T.length),(94,.int .i64 i)]) (fun i=>[(51,.cells 0 [evsV c.ev,its 99 c.cs,its 114 c.rs,exs c.xs,cos c.ks]),(52,.cells 0 [sliN q.al,.int .i64 (T.length:Int),sliN q.ms,egsN q.es,tuV (spA c T),tuV (spB c T),sliN (spP c P T),rss (forb c T.length)]),(60,.cells 0 ((forb c i).flatMap rsC))]) (fun i=>i<=T.length) (fun i=>T.length-i) 0 0 500
      (fun _:Unit=>[(4,.ptr 52 0 0),(13,rss (forb c T.length))]) (fun _=>[(52,.cells 0 [sliN q.al,.int .i64 (T.length:Int),sliN q.ms,egsN q.es,tuV (spA c T),tuV (spB c T),sliN (spP c P T),rss (forb c T.length)])]) (fun _=>True) ?_ (Nat.zero_le _) ?_ ?_
    · refine ⟨[(51, .blk 51 0), (52, .blk 58 0), (60, .nil)], rfl, RO.zero, ?_, RT.cons (Rn.x2 rfl rfl) (RT.cons (Rn.x2 rfl rfl) (RT.cons (Rn.same hnT) (RT.cons (Rn.same hnP) au27)))⟩
      exact RB.cells rfl rfl gg (RnL.same hnc) (RB.cells rfl rfl gg (RnL.same hnS) (RB.newnil rfl rfl RB.nil))
    · rintro i hi
      by_cases hlt:i<T.length
      · obtain ⟨t, ht⟩ := Qag hlt
        obtain⟨hit,hpt⟩:=hin t (List.mem_of_getElem? ht)
        have htl:c.cs.length<=t.length:=by rw[hit.1,QbU];omega
        have hi1:=Qk0 (A:=auL c.cs) (B:=auL c.rs) hit
        have hi2:=Qk1 (A:=auL c.cs) (B:=auL c.rs) hit
        rw[QaQ]at hi1 hi2
        have hr2:(t.drop c.cs.length).length=c.rs.length:=by rw[hi2.1,QaQ]
        have hk:=QfJ hpt
        have hkg:=Qf2 hpt
        have hR:=hre i _ hi1 _ hr2 (by omega)
        have hea:=hq3 (t.take c.cs.length) (by rw[List.length_take];omega)
        have heb:=hq3 (t.drop c.cs.length) (by omega)
        have hrsi:=hrs i t ht
        have hsi:=hsu i
        have hlf:=QfQ (forb c i)
        have hlf2:=hle i
        have hga:(spA c T)[i]?=some (t.take c.cs.length):=by unfold spA;rw[List.getElem?_map,ht];rfl
        have hgb:(spB c T)[i]?=some (t.drop c.cs.length):=by unfold spB;rw[List.getElem?_map,ht];rfl
        have hgp:(spP c P T)[i]?=some (ixT P (t.take c.cs.length)):=by unfold spP;rw[List.getElem?_map,ht];rfl
        have hfa:∀z,(forb c i++[z]).flatMap rsC=(forb c i).flatMap rsC++rsC z:=fun z=>by simp
        have hml:min c.cs.length t.length=c.cs.length:=Nat.min_eq_left htl
        have e1:sliN (t.take c.cs.length)= .fsl (ints (nz (t.take c.cs.length))) c.cs.length 1:=by rw[sliN,List.length_take,hml]
        have e2:sliN (t.drop c.cs.length)= .fsl (ints (nz (t.drop c.cs.length))) (t.length-c.cs.length) 1:=by rw[sliN,List.length_drop]
        have htd:(t.drop c.cs.length).take (t.length-c.cs.length)=t.drop c.cs.length:=List.take_of_length_le (by rw[List.length_drop];exact Nat.le_refl _)
        have hclt:(c.cs.length:Int)<=(t.length:Int):=by omega
        have hda:decide (t.take c.cs.length=t.take c.cs.length)=true:=decide_eq_true rfl
        have hdb:decide (t.drop c.cs.length=t.drop c.cs.length)=true:=decide_eq_true rfl
        rw[hda,e1]at hea
        rw[hdb,e2]at heb
        rw[e1,e2]at hR
        have hha:=Qb4 hga
        have hhb:=Qb4 hgb
        have hhp:=Qaz hgp
        have hhk:=Qb4 hkg
        have hhp2:=hhp
        rw[Qcw]at hhp2
        have hn0:¬((ixT P (t.take c.cs.length):Int)<0):=by omega
        have hn1:¬((P.length:Int)<=(ixT P (t.take c.cs.length):Int)):=by omega
        rw[e1]at hha hhk
        rw[e2]at hhb
        simp(disch:=first|omega|exact PairsOK.mk rfl|(simp only[lenW]<;>omega)) only[hlt,hsa,hsb,hsp,hha,hhb,hhp,hhp2,hn0,hn1,hhk,Qb4 ht,QdC,Qcw,htd,hclt,hk,Qaa,Qac,Qad,wW,wV,simprocAttr]
        refine cp hea ?_
        simp(disch:=first|omega|exact PairsOK.mk rfl|(simp only[lenW]<;>omega)) only[hlt,hsa,hsb,hsp,hha,hhb,hhp,hhp2,hn0,hn1,hhk,Qb4 ht,QdC,Qcw,htd,hclt,hk,Qaa,Qac,Qad,wW,wV,simprocAttr]
        refine cp heb ?_
        simp(disch:=first|omega|exact PairsOK.mk rfl|(simp only[lenW]<;>omega)) only[hlt,hsa,hsb,hsp,hha,hhb,hhp,hhp2,hn0,hn1,hhk,Qb4 ht,QdC,Qcw,htd,hclt,hk,Qaa,Qac,Qad,wW,wV,simprocAttr]
        refine cp hea ?_
        simp(disch:=first|omega|exact PairsOK.mk rfl|(simp only[lenW]<;>omega)) only[hlt,hsa,hsb,hsp,hha,hhb,hhp,hhp2,hn0,hn1,hhk,Qb4 ht,QdC,Qcw,htd,hclt,hk,Qaa,Qac,Qad,wW,wV,simprocAttr]
        refine QhG [] rfl rfl ?_
        simp(disch:=first|omega|exact PairsOK.mk rfl|(simp only[lenW]<;>omega)) only[hlt,hsa,hsb,hsp,hha,hhb,hhp,hhp2,hn0,hn1,hhk,Qb4 ht,QdC,Qcw,htd,hclt,hk,Qaa,Qac,Qad,wW,wV,simprocAttr]
        refine cp hR ?_
        unfold rsV
        cases ho:rsnD c i (t.take c.cs.length) (t.drop c.cs.length)with
        | some z =>
          rw[ho]at hrsi
          replace hrsi:rsnO c i=[z]:=hrsi
          have hz:rsC z=[.int .i64 (z.1:Int),.int .i64 z.2.1,.int .i64 z.2.2.1,.int .i64 z.2.2.2]:=rfl
          simp(disch:=first|omega|exact PairsOK.mk rfl|(simp only[lenW]<;>omega)) only[hlf,hz,Option.isSome_some,Qaa,Qac,Qad,wW,wV,simprocAttr]
          refine⟨trivial,i+1,by omega,by omega,?_⟩
          rw[hsi,hrsi,hfa,List.length_append]
          refine⟨[(51,.blk 51 0),(52,.blk 52 0),(60,.blk 60 1)],rfl,RO.zero,?_,RT.cons (Rn.x2 rfl rfl) (RT.cons (Rn.x2 rfl rfl) (RT.cons (Rn.same hnT) (RT.cons (Rn.same hnP) au27)))⟩
          exact RB.cells rfl rfl gg (RnL.same hnc) (RB.cells rfl rfl gg (RnL.same hnS) (RB.cells rfl rfl gg (RnL.same (SU.Qal (Qbt _) rfl)) RB.nil))
        | none =>
          rw[ho]at hrsi
          replace hrsi:rsnO c i=[]:=hrsi
          simp(disch:=first|omega|exact PairsOK.mk rfl|(simp only[lenW]<;>omega)) only[hlf,Option.isSome_none,Qaa,Qac,Qad,wW,wV,simprocAttr]
          refine⟨trivial,i+1,by omega,by omega,?_⟩
          rw[hsi,hrsi,List.append_nil]
          refine⟨[(51,.blk 51 0),(52,.blk 52 0),(60,.blk 60 0)],rfl,RO.zero,?_,RT.cons (Rn.x2 rfl rfl) (RT.cons (Rn.x2 rfl rfl) (RT.cons (Rn.same hnT) (RT.cons (Rn.same hnP) au27)))⟩
          exact RB.cells rfl rfl gg (RnL.same hnc) (RB.cells rfl rfl gg (RnL.same hnS) (RB.cells rfl rfl gg (RnL.same (Qbt _)) RB.nil))
      · have e : i = T.length := by omega
        subst e
        have hlf:=QfQ (forb c T.length)
        simp(disch:=first|omega|exact PairsOK.mk rfl|(simp only[lenW]<;>omega)) only[hlt,Qaa,Qac,Qad,wW,wV,simprocAttr]
        refine⟨(),[(52,.blk 52 0)],rfl,RO.zero,?_,RT.cons (Rn.x2 rfl rfl) (RT.cons (Rn.fzm (b:=60) (g:=0) gg rfl rfl rfl hlf (RnL.same (Qbt _))) RT.nil)⟩
        exact RB.cells rfl rfl gg (RnL.same hnS) RB.nil
    rintro _ _
    simp(disch:=first|omega|exact PairsOK.mk rfl|(simp only[lenW]<;>omega)) only[Qaa,Qac,Qad,wW,wV,simprocAttr]
    refine cp hq5 ?_
    simp(disch:=first|omega|exact PairsOK.mk rfl|(simp only[lenW]<;>omega)) only[Qaa,Qac,Qad,wW,wV,simprocAttr]
    exact⟨.inr trivial,rfl⟩
  · have e4 : decide (p.xn <= 4) = false := by simp [h4]
    rw[e4]at hS'
    simp(disch:=first|omega|exact PairsOK.mk rfl|(simp only[lenW]<;>omega)) only[TS.s8,hlen,hone,htk,Qaa,Qac,Qad,wW,wV,simprocAttr]
    refine cp SK.known15 ?_
    simp(disch:=first|omega|exact PairsOK.mk rfl|(simp only[lenW]<;>omega)) only[hlen,htk,Qaa,Qac,Qad,wW,wV,simprocAttr]
    refine cp hS' ?_
    simp(disch:=first|omega|exact PairsOK.mk rfl|(simp only[lenW]<;>omega)) only[hlen,htk,Qaa,Qac,Qad,wW,wV,simprocAttr]
    refine cp SK.known15 ?_
    simp(disch:=first|omega|exact PairsOK.mk rfl|(simp only[lenW]<;>omega)) only[Qaa,Qac,Qad,wW,wV,simprocAttr]
    exact⟨.inr trivial,rfl⟩
theorem okp8:okFn Tryz.prog 8 TS.s8=true:=TS.ok8
theorem law8_in (d0:tyPln.D) (h0:tyPln.wf d0):
  W2 Tryz.prog ⟨TS.s8.n,0⟩ TS.s8.body (fun e B=>(e= .normal\/e= .ret)/\resV B.T B.h TS.s8.res=some [.bool true]) ⟨argT 0 [tyPln.val d0],.e⟩:=by
 obtain⟨p,hp,hl,e0⟩:=Qrp h0
 rw[e0]
 exact law8 p hp hl
end Go.AM.SO
