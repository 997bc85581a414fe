/- A part of the proof of CatalogueWordsCardSaid: lemmas on the way (AnZm, AmQa, AmQb, AmQd, AmQw, AmQe, AmTa, AnZn, AnGa, AmTc, AmTd, AmTe, AmTb, AmTw, AmTf, AmTg, AmTh, AmTj, AmTk, AmTl, AmTi, AmTn, AnCx, AnDa, AnDb). Conditions: none of ours. -/
import Derived.Test.YteiijgolpigjdaaGreatDoorProg
import Derived.KernelRfl
import Derived.Test.YteiijgolpigjdaaGreatDoorAmW10
set_option linter.unusedSectionVars false
set_option maxHeartbeats 32000000
set_option maxRecDepth 100000
set_option linter.unusedVariables false
set_option linter.unusedSimpArgs false
namespace Go.AM.KN
open Go.Proofs
set_option maxHeartbeats 4000000
noncomputable section
def cf:YA.Cf:={}
noncomputable def ft:FT2:=YA.tre Tryz.prog cf 20 [5,7,8,14,15,16,18,19,20,21,22,23,24,25,35,36,37,38,39,73,74,75,106,107,108,109,110,111,112,113,114,115,116,117,144,145,146,147,148,149,150,151,152,153,170,171,172,173,174,177,178]
theorem ft_ok:ft.OK Tryz.prog:=YA.QeC _ _ (YA.Qd6 (by kernel_rfl))
end
end Go.AM.KN
namespace Go.AM
variable {P:Program}
section
variable {N:NM} {n:Nat} {d:Option Nat} {af dead:List Nat} {r:List SOper} {T:Tmps} {h:Heap} {Q:QC} {fs:List Fr}
def wL (P:Program) (N:NM) (o:Option (List AV)) (len:Nat) (v:AV) (d:Option Nat) (ops:List SOper) (dead:List Nat) (fs:List Fr) (n:Nat) (T:Tmps) (h:Heap) (Q:QC):Prop:=
 ∃cs,o=some cs/\cs.length=len/\wN P N cs v d ops dead fs n T h Q
theorem Qiq {cs:List AV} {len:Nat} {v:AV}:wL P N (some cs) len v d r dead fs n T h Q=if cs.length=len then wN P N cs v d r dead fs n T h Q else False:=by
 simp_all [wL]
theorem wN_go {x:List AV} {v:AV} (hl:n<1099511627775):wN P N x v d r dead fs n T h Q=if h.get n=none then wR P N r dead fs (n+1) (putD T d v) (h.set n (.cells 0 x)) Q else False:=by
 split
 ·rename_i hn;exact Qro hn hl
 simp_all [wN]
theorem wB_go {x:Blk} {b:Nat} {v:AV} (hl:b<1099511627775):wB P N (some x) b v d r dead fs n T h Q=wR P N r dead fs (n+1) (putD T d v) (h.set b x) Q:=Qil hl
theorem QaA {k:Nat} {x:Blk} (hk:k<1099511627775):(h.set k x).get k=some x:=by rw[Tr.Qa2 h hk];simp
theorem QaE {j k:Nat} {x:Blk} (hk:k<1099511627775) (hj:j≠k):(h.set k x).get j=h.get j:=by rw[Tr.Qa2 h hk];simp[hj]
theorem QfJ {x:Nat->Blk} {y:List AV} (hx:x 0= .cells 0 y) {w:Nat->Nat->AV}:wM P N (HM.new .dyn n x fun b g=> .ret (w b g)) d r dead fs n T h Q=wN P N y (w n 0) d r dead fs n T h Q:=by
 apply propext;constructor
 ·rintro ⟨v', h1, hm, hk⟩
  unfold HM.new at hm
  simp only[HM.run]at hm
  cases hn:h.get n with
  |none=>
   rw[hn]at hm
   obtain⟨hl,hm⟩:=Qa3 hm
   simp only[HM.run,Option.some.injEq,Prod.mk.injEq]at hm
   obtain⟨rfl,rfl⟩:=hm
   rw[hx]at hk
   exact⟨hn,hl,hk⟩
  |some z=>rw[hn]at hm;cases hm
 ·rintro ⟨hn, hl, hk⟩
  refine⟨_,_,?_,by rw[<-hx]at hk;exact hk⟩
  unfold HM.new
  simp only[HM.run,hn]
  have hl':Nat.blt n lim=true:=by simp_all
  rw[hl'];rfl
theorem QkM {x:AV}:wM P N (aBox .dyn n x) d r dead fs n T h Q=if x.boxable=true then wN P N x.cells (.ptr n 0 0) d r dead fs n T h Q else False:=by
 split
 ·simp_all [QpG]
 simp_all [aBox,QdM]
theorem Qeg {sz len:Nat} {z:List AV} {ps:List (Nat×Nat×AV)}:wM P N (aBuildSlice false .dyn n sz len z ps) d r dead fs n T h Q=wL P N (fillA z ps) (len*sz) (.sl n 0 0 len sz) d r dead fs n T h Q:=by
 unfold aBuildSlice
 cases fillA z ps with
 |none=>simp[QdM,wL]
 |some cs=>
  simp only[Qiq,Bool.false_eq_true,if_false]
  split
  ·exact QfJ rfl
  ·exact QdM
theorem QeD {sz bytes:Nat} {z:List AV} {k1 k2:IntKind} {l c:Int}:wM P N (aMakeSlice .dyn n sz bytes z (.int k1 l) (.int k2 c)) d r dead fs n T h Q=
  if 0<=l/\l<=c/\bytes*c<=140737488355328/\c<=140737488355328 then wN P N (List.replicate c.toNat z).flatten (.sl n 0 0 l.toNat sz) d r dead fs n T h Q else False:=by
 by_cases hc:0<=l/\l<=c/\bytes*c<=140737488355328/\c<=140737488355328
 ·simp only[aMakeSlice,if_pos hc];exact QfJ (x:=fun g=> .cells g (List.replicate c.toNat z).flatten) rfl
 simp_all [aMakeSlice,if_neg,QdM]
theorem Qjb {cs:List AV}:fillA cs []=some cs:=rfl
theorem QhS {cs:List AV} {off size:Nat} {v:AV} {r:List (Nat×Nat×AV)}:fillA cs ((off,size,v)::r)=if v.cells.length=size/\off+size<=cs.length/\v.boxable=true then fillA (putR cs off v.cells) r else none:=rfl
theorem Qjc {z:List AV} {ps:List (Nat×Nat×AV)}:aBuild z ps=(fillA z ps).map AV.agg:=by grind [aBuild]
theorem Qjd {k:IntKind} {a:Int}:(AV.int k a).cells=[.int k a]:=rfl
theorem Qje {cs:List AV}:(AV.agg cs).cells=cs:=rfl
theorem QkN {b g off len sz:Nat}:(AV.sl b g off len sz).cells=[.sl b g off len sz]:=rfl
theorem Qjf {cs:List AV} {len sz:Nat}:(AV.fsl cs len sz).cells=[.fsl cs len sz]:=rfl
theorem QgJ:AV.nilsl.cells=[.nilsl]:=rfl
theorem Qmz {k:IntKind} {a:Int}:(AV.int k a).boxable=true:=rfl
theorem QmA {cs:List AV}:(AV.agg cs).boxable=true:=rfl
theorem Qou {b g off len sz:Nat}:(AV.sl b g off len sz).boxable=true:=rfl
theorem QmB {cs:List AV} {len sz:Nat}:(AV.fsl cs len sz).boxable=true:=rfl
theorem Qjg:AV.nilsl.boxable=true:=rfl
theorem QmC {k:IntKind} {a:Int}:(AV.int k a).one=true:=rfl
theorem Qov {b g off len sz:Nat}:(AV.sl b g off len sz).one=true:=rfl
theorem QmD {cs:List AV} {len sz:Nat}:(AV.fsl cs len sz).one=true:=rfl
theorem Qjh:AV.nilsl.one=true:=rfl
theorem QkO {cs:List AV} {off:Nat} {v:AV}:putR cs off [v]=cs.set off v:=rfl
theorem Qji {cs:List AV} {off:Nat} {v w:AV} {vs:List AV}:putR cs off (v::w::vs)=cs.take off++(v::w::vs)++cs.drop (off+(v::w::vs).length):=rfl
def srcB (o:Option Blk) (g off len sz:Nat):Option (List AV):=
 match o with
 |some (.cells g' cs)=>if g'=g/\off+len*sz<=cs.length then some ((cs.drop off).take (len*sz))else none
 |_=>none
theorem QcS {g g' off len sz:Nat} {cs:List AV}:srcB (some (.cells g' cs)) g off len sz=if g'=g/\off+len*sz<=cs.length then some ((cs.drop off).take (len*sz))else none:=rfl
theorem Ql2 {sz bytes b g off len:Nat}:wM P N (aAppend .dyn n sz bytes .nilsl (.sl b g off (len+1) sz)) d r dead fs n T h Q=
  ∃ys,srcB (h.get b) g off (len+1) sz=some ys/\((len+1)*bytes<=140737488355328/\len+1<=140737488355328)/\ys.all AV.one=true/\wN P N ys (.sl n 0 0 (len+1) sz) d r dead fs n T h Q:=by
 simp only[aAppend,aSrc,if_true,slLen,Nat.zero_add,Qdi,Qc4]
 apply propext;constructor
 ·rintro ⟨cs, hb, h1, h2, h3⟩
  rw[hb,QcS,if_pos ⟨rfl,h1⟩]
  exact⟨_,rfl,⟨h2.1,h2.2.1⟩,h2.2.2,by rw[QfJ rfl]at h3;exact h3⟩
 ·rintro ⟨ys, hy, h2, h3, h4⟩
  unfold srcB at hy
  split at hy
  ·rename_i g' cs hb
   split at hy
   ·rename_i e
    obtain⟨rfl,e⟩:=e
    cases hy
    exact⟨cs,hb,e,⟨h2.1,h2.2,h3⟩,by rw[QfJ rfl];exact h4⟩
   ·cases hy
  ·cases hy
theorem Qns {sz bytes b g off len b2 g2 off2 len2:Nat}:wM P N (aAppend .dyn n sz bytes (.sl b2 g2 off2 len2 sz) (.sl b g off len sz)) d r dead fs n T h Q=
  ∃ys zs,srcB (h.get b) g off len sz=some ys/\srcB (h.get b2) g2 off2 len2 sz=some zs/\((len2+len)*bytes<=140737488355328/\len2+len<=140737488355328)/\ys.all AV.one=true/\
   wB P N (some (.cells (g2+1) (zs++ys))) b2 (.sl b2 (g2+1) 0 (len2+len) sz) d r dead fs n T h Q:=by
 simp only[aAppend,aSrc,if_true,slLen,Qdi,Qc4,QfC]
 apply propext;constructor
 ·rintro ⟨cs, hb, h1, h2, cs2, hb2, h3, h4⟩
  rw[hb,hb2,QcS,QcS,if_pos ⟨rfl,h1⟩,if_pos ⟨rfl,h3⟩]
  simp_all
 ·rintro ⟨ys, zs, hy, hz, h2, h3, h4⟩
  unfold srcB at hy hz
  grind
end
def Fresh (n:Nat) (h:Heap):Prop:=∀b,n<=b->h.get b=none
theorem Fresh.e {n:Nat}:Fresh n .e:=fun b _=>by simp[Tr.get]
theorem Fresh.le {n m:Nat} {h:Heap} (hf:Fresh n h) (hl:n<=m):Fresh m h:=fun b hb=>hf b (Nat.le_trans hl hb)
theorem Fresh.set {n k:Nat} {h:Heap} {x:Blk} (hf:Fresh n h) (hk:k<1099511627775) (hl:k<n):Fresh n (h.set k x):=fun b hb=>by
 rw[QaE hk (by omega)];exact hf b hb
end Go.AM
namespace Go.AM
variable {P:Program}
def FrzTo (h:Heap) (x y:AV):Prop:=∀(ok:Okc) (c:Ctx ok) (w:World) (v:Value),HRel c h w->VRel c w x v->VRel (lent c) w y v
def FrzL (h:Heap):List AV->List AV->Prop
 |[],[]=>True
 |x::xs,y::ys=>FrzTo h x y/\FrzL h xs ys
 |_,_=>False
variable {h:Heap}
theorem FrzTo.same (x:AV):FrzTo h x x:=fun _ c w v _ hv=>VRel.mono (Qg6 c w) _ _ hv
theorem FrzL.same:∀(xs:List AV),FrzL h xs xs
 |[]=>trivial
 |x::xs=>⟨.same x,FrzL.same xs⟩
theorem FrzL.length:∀{xs ys:List AV},FrzL h xs ys->ys.length=xs.length
 |[],[],_=>rfl
 |[],_::_,hh=>hh.elim
 |_::_,[],hh=>hh.elim
 |x::xs,y::ys,hh=>by simp[FrzL.length hh.2]
theorem FrzL.pre {ok:Okc} {c:Ctx ok} {w:World} (H:HRel c h w):∀{xs ys:List AV} {vs:List Value},FrzL h xs ys->VPre c w xs vs->VPre (lent c) w ys vs
 |[],[],_,_,_=>by simp[VPre]
 |[],_::_,_,hh,_=>hh.elim
 |_::_,[],_,hh,_=>hh.elim
 |x::xs,y::ys,vs,hh,hv=>by
  simp only[VPre]at hv⊢
  obtain⟨v,vs',rfl,g1,g2⟩:=hv
  exact⟨v,vs',rfl,hh.1 _ c w v H g1,FrzL.pre H hh.2 g2⟩
theorem FrzL.rels {ok:Okc} {c:Ctx ok} {w:World} (H:HRel c h w):∀{xs ys:List AV} {vs:List Value},FrzL h xs ys->VRels c w xs vs->VRels (lent c) w ys vs
 |[],[],_,_,hv=>by grind [VRels]
 |[],_::_,_,hh,_=>hh.elim
 |_::_,[],_,hh,_=>hh.elim
 |x::xs,y::ys,vs,hh,hv=>by
  simp only[VRels]at hv⊢
  obtain⟨v,vs',rfl,g1,g2⟩:=hv
  exact⟨v,vs',rfl,hh.1 _ c w v H g1,FrzL.rels H hh.2 g2⟩
theorem FrzTo.sl {b g off len sz : Nat} {cs ys : List AV} (hb : h.get b = some (.cells g cs)) (hl : off + len * sz <= cs.length) (hL : FrzL h ((cs.drop off).take (len * sz)) ys) :
    FrzTo h (.sl b g off len sz) (.fsl ys len sz):=fun _ c w v H hv=>by
  have hlen:=hL.length
  simp only[VRel]at hv
  rcases hv with⟨hp,rfl,rfl,rfl⟩|⟨cb,base,o,cap,C,e,fr,hp,rfl,hlc,hC,hcap⟩
  · simp_all [VRel]
  · obtain ⟨C', e', fr', hO, hC', hfr, hbs, hpre⟩ := H.here hb hp
    rw[hC]at hC';cases hC'
    by_cases h0:cap=0
    · have hl0 : len = 0 := by omega
      subst hl0
      have hys:ys=[]:=by
        simp_all
      subst hys
      simp only[VRel]
      simp_all
    · obtain ⟨rfl, hbd⟩ := hcap.resolve_left h0
      have hp2:=Qb6 (len*sz) (Qbi off hpre)
      rw[List.drop_drop]at hp2
      simp only[VRel]
      exact .inr ⟨cb,base+off,cap,C,e,fr,rfl,hlc,by grind,.inr hO,hC,hL.pre H hp2⟩
section
variable {N:NM} {n:Nat} {d:Option Nat} {af dead:List Nat} {r:List SOper} {T:Tmps} {Q:QC} {fs:List Fr}
end
end Go.AM
namespace Go.AM
variable {P:Program}
abbrev HL:=List (Nat×Blk)
def hp:HL->Heap
 |[]=> .e
 |p::r=>(hp r).set p.1 p.2
theorem QkP:hp []= .e:=rfl
theorem Qa4 {b:Nat} {x:Blk} {r:HL}:hp ((b,x)::r)=(hp r).set b x:=rfl
theorem get_e {b:Nat}:Tr.get (α:=Blk) .e b=none:=by simp[Tr.get]
def lkS:List (Nat×Src)->Nat->Option Src
 |[],_=>none
 |(b,s)::r,k=>if k=b then some s else lkS r k
def srcNew (s:Src):List (Nat×Src)->Bool
 |[]=>true
 |(_,t)::r=>(match s,t with| .blk b _,.blk b' _=> !Nat.beq b b'|_,_=>true)&&srcNew s r
def okPs (m:Nat):List (Nat×Src)->HL->Bool
 |[],[]=>true
 |(b,s)::r,(b',_)::l=>Nat.beq b b'&&Nat.blt b 1099511627775&&(Nat.blt b m||((match s with| .blk k _=>Nat.ble m k| .nil=>true)&&srcNew s r))&&(r.all fun p=> !Nat.beq p.1 b)&&okPs m r l
 |_,_=>false
def ow (m:Nat) (ps:List (Nat×Src)):Nat->Option Src:=fun b=>if b<m then none else lkS ps b
def RB (m:Nat) (π:Nat->Option Src) (h:Heap):HL->Prop
 |[]=>True
 |(b',x)::r=>((b'<m/\BRn m π h (some (.blk b' x.gen)) x)\/(m<=b'/\x.gen=0/\(∀g,x≠ .dead g)/\BRn m π h (π b') x))/\RB m π h r
section
variable {m:Nat} {π:Nat->Option Src} {h:Heap}
theorem Qow:∀{L:HL} {ps:List (Nat×Src)},okPs m ps L=true->∀{b:Nat} {x:Blk},(hp L).get b=some x->(b,x)∈L
 |[],[],_,b,x,hx=>by simp[hp,Tr.get]at hx
 |[],_::_,hh,_,_,_=>by simp[okPs]at hh
 |(b',x')::L,[],hh,_,_,_=>by simp[okPs]at hh
 | (b', x') :: L, (k, s) :: ps, hh, b, x, hx => by
  simp only[okPs,Bool.and_eq_true,Nat.blt_eq,Nat.beq_eq]at hh
  obtain⟨⟨⟨⟨rfl,h3⟩,_⟩,_⟩,h4⟩:=hh
  simp only[hp]at hx
  by_cases e:b=k
  ·simp_all [QaA]
  ·rw [QaE h3 e] at hx
   simp[Qow h4 hx]
theorem QmE:∀{L:HL} {ps:List (Nat×Src)},okPs m ps L=true->∀{b:Nat},(hp L).get b=none->lkS ps b=none
 |[],[],_,b,_=>rfl
 |[],_::_,hh,_,_=>by simp[okPs]at hh
 |(b',x')::L,[],hh,_,_=>by simp[okPs]at hh
 | (b', x') :: L, (k, s) :: ps, hh, b, hx => by
  simp only[okPs,Bool.and_eq_true,Nat.blt_eq,Nat.beq_eq]at hh
  obtain⟨⟨⟨⟨rfl,h3⟩,_⟩,_⟩,h4⟩:=hh
  simp only[hp]at hx
  by_cases e:b=k
  ·simp_all [QaA]
  ·rw [QaE h3 e] at hx
   simp only[lkS,if_neg e]
   exact QmE h4 hx
theorem RB.mem:∀{L:HL},RB m π h L->∀{b:Nat} {x:Blk},(b,x)∈L->(b<m/\BRn m π h (some (.blk b x.gen)) x)\/(m<=b/\x.gen=0/\(∀g,x≠ .dead g)/\BRn m π h (π b) x)
 |[],_,_,_,hm=>by cases hm
 |(b',x')::L,hh,b,x,hm=>by
  rcases List.mem_cons.1 hm with e|hm
  ·cases e;exact hh.1
  ·exact RB.mem hh.2 hm
theorem QkQ:∀{ps:List (Nat×Src)} {L:HL},okPs m ps L=true->∀{b b1 g:Nat},m<=b->lkS ps b=some (.blk b1 g)->m<=b1
 |[],_,_,_,_,_,_,hs=>by simp[lkS]at hs
 |_::_,[],hh,_,_,_,_,_=>by simp[okPs]at hh
 | (k, s) :: ps, (b', x') :: L, hh, b, b1, g, hb, hs => by
  simp only[okPs,Bool.and_eq_true,Bool.or_eq_true,Nat.blt_eq]at hh
  obtain⟨⟨⟨_,h3⟩,_⟩,h4⟩:=hh
  simp only[lkS]at hs
  split at hs
  ·rename_i e
   cases hs
   rcases h3 with h3|h3
   ·omega
   simp_all
  ·exact QkQ h4 hb hs
theorem QfK:∀{ps:List (Nat×Src)} {b g b' g' k:Nat},srcNew (.blk b g) ps=true->lkS ps k=some (.blk b' g')->b≠b'
 |[],_,_,_,_,_,_,hs=>by simp[lkS]at hs
 | (j, s) :: ps, b, g, b', g', k, hh, hs => by
  simp only[srcNew,Bool.and_eq_true]at hh
  simp only[lkS]at hs
  split at hs
  ·cases hs
   have:=hh.1
   simp only[Bool.not_eq_true']at this
   intro e;simp_all
  ·exact QfK hh.2 hs
theorem QkR:∀{ps:List (Nat×Src)} {L:HL},okPs m ps L=true->∀{b1 b2 b g g2:Nat},m<=b1->m<=b2->lkS ps b1=some (.blk b g)->lkS ps b2=some (.blk b g2)->b1=b2
 |[],_,_,_,_,_,_,_,_,_,hs,_=>by simp[lkS]at hs
 |_::_,[],hh,_,_,_,_,_,_,_,_,_=>by simp[okPs]at hh
 | (k, s) :: ps, (b', x') :: L, hh, b1, b2, b, g, g2, m1, m2, h1, h2 => by
  simp only[okPs,Bool.and_eq_true,Bool.or_eq_true,Nat.blt_eq]at hh
  obtain⟨⟨⟨_,hn⟩,_⟩,h4⟩:=hh
  simp only[lkS]at h1 h2
  split at h1<;>split at h2
  ·omega
  ·rename_i e1 e2
   cases h1
   rcases hn with hn|hn
   ·omega
   ·exact absurd rfl (QfK hn.2 h2)
  ·rename_i e1 e2
   cases h2
   rcases hn with hn|hn
   ·omega
   ·exact absurd rfl (QfK hn.2 h1)
  ·exact QkR h4 m1 m2 h1 h2
theorem QmF:∀{ps:List (Nat×Src)} {L:HL},okPs m ps L=true->∀{b:Nat} {s:Src},lkS ps b=some s->∃x,(b,x)∈L
 |[],_,_,_,_,hs=>by simp[lkS]at hs
 |_::_,[],hh,_,_,_=>by simp[okPs]at hh
 | (k, t) :: ps, (b', x') :: L, hh, b, s, hs => by
  simp only[okPs,Bool.and_eq_true,Nat.beq_eq]at hh
  obtain⟨⟨⟨⟨rfl,_⟩,_⟩,_⟩,h4⟩:=hh
  simp only[lkS]at hs
  split at hs
  ·simp_all
  ·obtain ⟨x, hx⟩ := QmF h4 hs
   grind
def RO (m:Nat) (L:HL) (h:Heap):Prop:=∀b,b<m->(∀p∈L,p.1≠b)->h.get b=none
theorem RO.zero {L:HL}:RO 0 L h:=fun b hb=>absurd hb (Nat.not_lt_zero _)
theorem RO.e {L:HL}:RO m L .e:=fun b _ _=>get_e
theorem RO.set {L:HL} {k:Nat} {x:Blk} (hk:(Nat.blt k 1099511627775&&(Nat.ble m k||L.any fun p=>Nat.beq p.1 k))=true) (hr:RO m L h):RO m L (h.set k x):=fun b hb hn=>by
 simp only[Bool.and_eq_true,Bool.or_eq_true,Nat.blt_eq,Nat.ble_eq,List.any_eq_true,Nat.beq_eq]at hk
 obtain⟨h1,h2⟩:=hk
 have:b≠k:=by
  grind
 rw[QaE h1 this];exact hr b hb hn
def Rec (m:Nat) (T':Tmps) (L:HL) (T:Tmps) (h:Heap):Prop:=∃ps,okPs m ps L=true/\RO m L h/\RB m (ow m ps) h L/\RT m (ow m ps) h T' T
theorem ow_ge {ps:List (Nat×Src)} {b:Nat} (hb:m<=b):ow m ps b=lkS ps b:=if_neg (by omega)
theorem Rec.maps {ps:List (Nat×Src)} {L:HL} (ho:okPs m ps L=true) (hb:RB m (ow m ps) h L):Maps m (ow m ps) h:=by
 refine⟨fun b' b g hm hs=>?_,fun b1 b2 b g g2 m1 m2 h1 h2=>QkR ho m1 m2 (by rw[<-ow_ge m1];exact h1) (by rw[<-ow_ge m2];exact h2)⟩
 rw[ow_ge hm]at hs
 refine⟨?_,QkQ ho hm hs⟩
 obtain⟨x,hx⟩:=QmF ho hs
 rcases hb.mem hx with⟨q0,_⟩|⟨_,q1,q2,q3⟩
 ·omega
 rw[ow_ge hm,hs]at q3
 cases x with
 |cells g' cs=>obtain⟨ds,_,k1,_⟩:=q3;exact⟨_,k1,rfl,fun k=>by simp⟩
 |map g' es=>obtain⟨ds,k1,_⟩:=q3;exact⟨_,k1,rfl,fun k=>by simp⟩
 |loop g' N T ps asg body st=>obtain⟨T0,k1,_⟩:=q3;exact⟨_,k1,rfl,fun k=>by simp⟩
 |dead g'=>exact absurd rfl (q2 g')
theorem Rec.heap {ps:List (Nat×Src)} {L:HL} (ho:okPs m ps L=true) (hb:RB m (ow m ps) h L):RH m (ow m ps) h (hp L):=fun b' x' hx=>hb.mem (Qow ho hx)
theorem Qox:∀{L:HL} {ps:List (Nat×Src)},okPs m ps L=true->∀{b:Nat},(hp L).get b=none->∀p∈L,p.1≠b
 |[],_,_,_,_,p,hp=>by cases hp
 |(b',x')::L,[],hh,_,_,_,_=>by simp[okPs]at hh
 | (b', x') :: L, (k, s) :: ps, hh, b, hx, p, hpm => by
  simp only[okPs,Bool.and_eq_true,Nat.blt_eq,Nat.beq_eq]at hh
  obtain⟨⟨⟨⟨rfl,h3⟩,_⟩,_⟩,h4⟩:=hh
  simp only[hp]at hx
  by_cases e:b=k
  ·simp_all [QaA]
  ·rw [QaE h3 e] at hx
   rcases List.mem_cons.1 hpm with rfl|hpm
   ·omega
   ·exact Qox h4 hx p hpm
theorem Rec.dom {ps:List (Nat×Src)} {L:HL} (ho:okPs m ps L=true) (hr:RO m L h):RD m (ow m ps) h (hp L):=fun b' hx=>
 ⟨fun hlt=>hr b' hlt (Qox ho hx),fun hge=>by grind [ow_ge,QmE]⟩
theorem W2.recL {sc:SCode} {n:Nat} {Q:SX->St->Prop} {T T':Tmps} {L:HL} (hr:Rec m T' L T h) (hw:W2 P ⟨n,m⟩ sc Q ⟨T',hp L⟩):W2 P ⟨n,m⟩ sc Q ⟨T,h⟩:=by
 obtain⟨ps,ho,hro,hb,ht⟩:=hr
 exact W2.recast (N:=⟨n,m⟩) (Rec.maps ho hb) (Rec.heap ho hb) (Rec.dom ho hro) ht hw
theorem W2.post {sc:SCode} {k:Nat} {Q:SX->St->Prop} {A:St} (hw:W2 P ⟨k,m⟩ sc (fun e B=>Q e B\/∃T' L,Rec m T' L B.T B.h/\Q e ⟨T',hp L⟩) A):W2 P ⟨k,m⟩ sc Q A:=by
 intro code hok c a w S ro hro Q' hQ
 refine hw code hok c a w S ro hro Q' ?_
 rintro e B c' a' w' (hq|⟨T',L,⟨ps,ho,hro,hb,ht⟩,hq⟩) S' E'
 ·grind
 ·have M := Rec.maps ho hb
  exact hQ e ⟨T',hp L⟩ (nctx m (ow m ps) B.h c') a' w' hq ⟨(Rec.heap ho hb).hrel (Rec.dom ho hro) M S'.heap,fun i=>ht i _ c' w' _ S'.heap M (S'.tmps i),S'.size,S'.defers.mono2 (QdX (m:=m) (π:=ow m ps) (h:=B.h) c' w')⟩ (E'.trans (QdX c' w'))
theorem RT.nil {T:Tmps}:RT m π h [] T:=fun _=>Rn.any
theorem RT.cons {T' T:Tmps} {j:Nat} {v:AV} (hv:Rn m π h v (lk T j)) (hr:RT m π h T' T):RT m π h ((j,v)::T') T:=by
 intro i
 rw[QaY]
 split
 ·simp_all
 ·exact hr i
theorem RB.nil:RB m π h []:=trivial
theorem RB.cells {b b' g:Nat} {cs ds:List AV} {r:HL} (hm:Nat.ble m b'=true) (hp:π b'=some (.blk b g)) (hg:h.get b=some (.cells g ds)) (hc:RnL m π h cs ds) (hr:RB m π h r):RB m π h ((b',.cells 0 cs)::r):=
 ⟨.inr ⟨Nat.le_of_ble_eq_true hm,rfl,fun _=>by simp,by rw[hp];exact⟨ds,ds.length,hg,by simp_all⟩⟩,hr⟩
theorem RB.newnil {b':Nat} {r:HL} (hm:Nat.ble m b'=true) (hp:π b'=some .nil) (hr:RB m π h r):RB m π h ((b',.cells 0 [])::r):=⟨.inr ⟨Nat.le_of_ble_eq_true hm,rfl,fun _=>by simp,by rw[hp];rfl⟩,hr⟩
theorem RB.map {b b' g:Nat} {es fs:List (AV×AV)} {r:HL} (hm:Nat.ble m b'=true) (hp:π b'=some (.blk b g)) (hg:h.get b=some (.map g fs)) (hc:RnM m π h es fs) (hr:RB m π h r):RB m π h ((b',.map 0 es)::r):=
 ⟨.inr ⟨Nat.le_of_ble_eq_true hm,rfl,fun _=>by simp,by rw[hp];exact⟨fs,hg,hc⟩⟩,hr⟩
theorem RB.cellsB {b g:Nat} {cs ds:List AV} {r:HL} (hm:Nat.blt b m=true) (hg:h.get b=some (.cells g ds)) (hc:RnL m π h cs ds) (hr:RB m π h r):RB m π h ((b,.cells g cs)::r):=
 ⟨.inl ⟨by simpa using hm,ds,ds.length,hg,by simp_all⟩,hr⟩
theorem RB.mapB {b g:Nat} {es fs:List (AV×AV)} {r:HL} (hm:Nat.blt b m=true) (hg:h.get b=some (.map g fs)) (hc:RnM m π h es fs) (hr:RB m π h r):RB m π h ((b,.map g es)::r):=
 ⟨.inl ⟨by simpa using hm,fs,hg,hc⟩,hr⟩
theorem Qir {s:Src}:∀{ps:List (Nat×Src)},srcNew s ps=true->∀b' g',lkS ps b'=some g'->(match s,g' with| .blk b _,.blk b2 _=>b≠b2|_,_=>True)
 |[],_,b',g',hs=>by simp[lkS]at hs
 | (j, t) :: ps, hh, b', g', hs => by
  simp only[srcNew,Bool.and_eq_true]at hh
  simp only[lkS]at hs
  split at hs
  ·cases hs
   have:=hh.1
   cases s<;>cases t<;>simp_all
   intro e;simp_all
  ·exact Qir hh.2 b' g' hs
theorem RnL.nil {m:Nat} {π:Nat->Option Src} {h:Heap}:RnL m π h [] []:=trivial
theorem RnL.cons {m:Nat} {π:Nat->Option Src} {h:Heap} {x y:AV} {xs ys:List AV} (h1:Rn m π h x y) (h2:RnL m π h xs ys):RnL m π h (x::xs) (y::ys):=⟨h1,h2⟩
theorem Rn.fz {ps:List (Nat×Src)} {b g len sz:Nat} {cs ds:List AV} (hb:h.get b=some (.cells g ds)) (hn:srcNew (.blk b g) ps=true) (hm:Nat.ble m b=true) (hl:ds.length=len*sz)
  (hL:RnL m (ow m ps) h cs ds):Rn m (ow m ps) h (.fsl cs len sz) (.sl b g 0 len sz):=by
 refine Rn.frz hb (by simpa using hm) (fun b' g' hb' e=>?_) (by omega) ?_
 ·rw[ow_ge hb']at e;exact Qir hn b' _ e rfl
 grind
theorem Rn.fzm {ps:List (Nat×Src)} {b g len sz k:Nat} {cs ds:List AV} (hb:h.get b=some (.cells g ds)) (hn:srcNew (.blk b g) ps=true) (hm:Nat.ble m b=true) (hk:k=len) (hl:ds.length=len*sz)
  (hL:RnL m (ow m ps) h cs ds):Rn m (ow m ps) h (.fsl cs k sz) (.sl b g 0 len sz):=by simp_all [Rn.fz]
theorem Rn.fz0 {b g len sz:Nat} {cs ds:List AV} (hb:h.get b=some (.cells g ds)) (hl:ds.length=len*sz)
  (hL:RnL 0 π0 h cs ds):Rn 0 π0 h (.fsl cs len sz) (.sl b g 0 len sz):=by
 refine Rn.frz hb (Nat.zero_le _) (fun b' g' _ e=>by simp[π0]at e) (by omega) ?_
 grind
end
theorem Rn.slot {m:Nat} {π:Nat->Option Src} {h:Heap} {T:Tmps} {j:Nat} {v:AV} (hv:lk T j=v) (hn:noRef v=true):Rn m π h v (lk T j):=by simp_all [Rn.same]
section
variable {m:Nat} {π:Nat->Option Src} {h:Heap}
theorem Rn.x1 {b' b g off len sz:Nat} (hm:Nat.ble m b'=true) (hp:π b'=some (.blk b g)):Rn m π h (.sl b' 0 off len sz) (.sl b g off len sz):=Rn.sl (Nat.le_of_ble_eq_true hm) hp
theorem Rn.x2 {b' b g off:Nat} (hm:Nat.ble m b'=true) (hp:π b'=some (.blk b g)):Rn m π h (.ptr b' 0 off) (.ptr b g off):=Rn.ptr (Nat.le_of_ble_eq_true hm) hp
theorem Rn.x3 {b' b g:Nat} (hm:Nat.ble m b'=true) (hp:π b'=some (.blk b g)):Rn m π h (.map b' 0) (.map b g):=Rn.map (Nat.le_of_ble_eq_true hm) hp
theorem Rn.x4 {b' sz:Nat} (hm:Nat.ble m b'=true) (hp:π b'=some .nil):Rn m π h (.sl b' 0 0 0 sz) .nilsl:=Rn.slnil (Nat.le_of_ble_eq_true hm) hp
theorem Rn.x5 {b g off len sz:Nat} (hm:Nat.ble (b+1) m=true):Rn m π h (.sl b g off len sz) (.sl b g off len sz):=Rn.slB (Nat.le_of_ble_eq_true hm)
theorem Rn.x6 {b g off:Nat} (hm:Nat.ble (b+1) m=true):Rn m π h (.ptr b g off) (.ptr b g off):=Rn.ptrB (Nat.le_of_ble_eq_true hm)
theorem Rn.x7 {b g:Nat} (hm:Nat.ble (b+1) m=true):Rn m π h (.map b g) (.map b g):=Rn.mapB (Nat.le_of_ble_eq_true hm)
end
section
variable {k m n:Nat} {T:Tmps} {h:Heap} {Q:QC} {fs:List Fr} {α:Type} {env:α->Tmps} {H:α->HL} {I:α->Prop} {μ:α->Nat} {a:α}
def loopR (P:Program) (k m:Nat) {α:Type} (env:α->Tmps) (H:α->HL) (I:α->Prop) (μ:α->Nat) (a:α) (fs:List Fr) (Q:QC):QC:=fun e T h n=>
 match e with
 | .normal=>∃a',μ a'<μ a/\I a'/\Rec m (env a') (H a') T h
 |e=>wX P ⟨k,m⟩ e fs n T h Q
theorem QfL:loopR P k m env H I μ a fs Q .normal T h n=∃a',μ a'<μ a/\I a'/\Rec m (env a') (H a') T h:=rfl
theorem QhT {i:Nat}:loopR P k m env H I μ a fs Q (.exit i) T h n=wX P ⟨k,m⟩ (.exit i) fs n T h Q:=rfl
theorem Qjj:loopR P k m env H I μ a fs Q .ret T h n=wX P ⟨k,m⟩ .ret fs n T h Q:=rfl
theorem Qbh {b:SCode} (n0:Nat) (env:α->Tmps) (H:α->HL) (I:α->Prop) (μ:α->Nat) (a0:α)
  (h0:Rec m (env a0) (H a0) T h) (hI:I a0) (round:∀a,I a->wS P ⟨k,m⟩ b [] n0 (env a) (hp (H a)) (loopR P k m env H I μ a fs Q)):wS P ⟨k,m⟩ (.loop b) fs n T h Q:=by
 show W2 P ⟨k,m⟩ (.loop b) (fun e B=>∃n,ct P ⟨k,m⟩ fs Q e B.T B.h n) ⟨T,h⟩
 refine W2.loop (fun q B=>∃a,μ a=q/\I a/\Rec m (env a) (H a) B.T B.h) (μ a0) ⟨a0,rfl,hI,h0⟩ ?_
 rintro q B ⟨a,rfl,hi,hr⟩
 refine W2.recL hr ((wpC.toW (round a hi)).mono ?_)
 rintro e C ⟨n2,hq⟩
 cases e with
 |normal=>obtain⟨a',h1,h2,h3⟩:=hq;exact⟨μ a',h1,a',rfl,h2,h3⟩
 |exit i=>exact⟨n2,hq⟩
 |ret=>exact⟨n2,hq⟩
def loopX (P:Program) (k m:Nat) {α β:Type} (env:α->Tmps) (H:α->HL) (I:α->Prop) (μ:α->Nat) (i:Nat) (T1:β->Tmps) (L1:β->HL) (J:β->Prop) (a:α) (fs:List Fr) (Q:QC):QC:=fun e T h n=>
 match e with
 | .normal=>∃a',μ a'<μ a/\I a'/\Rec m (env a') (H a') T h
 | .exit j=>if j=i then ∃b,J b/\Rec m (T1 b) (L1 b) T h else wX P ⟨k,m⟩ (.exit j) fs n T h Q
 | .ret=>wX P ⟨k,m⟩ .ret fs n T h Q
section
variable {β:Type} {i:Nat} {T1:β->Tmps} {L1:β->HL} {J:β->Prop}
theorem QfM:loopX P k m env H I μ i T1 L1 J a fs Q .normal T h n=∃a',μ a'<μ a/\I a'/\Rec m (env a') (H a') T h:=rfl
theorem QeW {j:Nat}:loopX P k m env H I μ i T1 L1 J a fs Q (.exit j) T h n=if j=i then ∃b,J b/\Rec m (T1 b) (L1 b) T h else wX P ⟨k,m⟩ (.exit j) fs n T h Q:=rfl
theorem Qjk:loopX P k m env H I μ i T1 L1 J a fs Q .ret T h n=wX P ⟨k,m⟩ .ret fs n T h Q:=rfl
end
theorem Qay {b:SCode} {β:Type} (n0:Nat) (env:α->Tmps) (H:α->HL) (I:α->Prop) (μ:α->Nat) (a0:α) (i n1:Nat) (T1:β->Tmps) (L1:β->HL) (J:β->Prop)
  (h0:Rec m (env a0) (H a0) T h) (hI:I a0) (round:∀a,I a->wS P ⟨k,m⟩ b [] n0 (env a) (hp (H a)) (loopX P k m env H I μ i T1 L1 J a fs Q))
  (cont:∀b,J b->wX P ⟨k,m⟩ (.exit i) fs n1 (T1 b) (hp (L1 b)) Q):wS P ⟨k,m⟩ (.loop b) fs n T h Q:=by
 show W2 P ⟨k,m⟩ (.loop b) (fun e B=>∃n,ct P ⟨k,m⟩ fs Q e B.T B.h n) ⟨T,h⟩
 refine W2.post ?_
 refine W2.loop (fun q B=>∃a,μ a=q/\I a/\Rec m (env a) (H a) B.T B.h) (μ a0) ⟨a0,rfl,hI,h0⟩ ?_
 rintro q B ⟨a,rfl,hi,hr⟩
 refine W2.recL hr ((wpC.toW (round a hi)).mono ?_)
 rintro e C ⟨n2,hq⟩
 cases e with
 |normal=>obtain⟨a',h1,h2,h3⟩:=hq;exact⟨μ a',h1,a',rfl,h2,h3⟩
 | exit j =>
  replace hq:loopX P k m env H I μ i T1 L1 J a fs Q (.exit j) C.T C.h n2:=hq
  rw[QeW]at hq
  split at hq
  ·rename_i e; subst e
   obtain⟨b,hJ,hr⟩:=hq
   exact .inr ⟨_,_,hr,n1,cont b hJ⟩
  ·exact .inl ⟨n2,hq⟩
 |ret=>exact .inl ⟨n2,hq⟩
end
section
variable {N:NM} {n:Nat} {d:Option Nat} {af dead:List Nat} {r:List SOper} {T:Tmps} {h:Heap} {Q:QC} {fs:List Fr}
def wA (P:Program) (N:NM) (zs ys:Option (List AV)) (g len2 len sz bytes b:Nat) (d:Option Nat) (ops:List SOper) (dead:List Nat) (fs:List Fr) (n:Nat) (T:Tmps) (h:Heap) (Q:QC):Prop:=
 ∃ y z, ys = some y /\ zs = some z /\ ((len2 + len) * bytes <= 140737488355328 /\ len2 + len <= 140737488355328) /\ y.all AV.one = true /\
   wB P N (some (.cells (g+1) (z++y))) b (.sl b (g+1) 0 (len2+len) sz) d ops dead fs n T h Q
theorem QgK {sz bytes b g off len b2 g2 off2 len2:Nat}:wM P N (aAppend .dyn n sz bytes (.sl b2 g2 off2 len2 sz) (.sl b g off len sz)) d r dead fs n T h Q=
  wA P N (srcB (h.get b2) g2 off2 len2 sz) (srcB (h.get b) g off len sz) g2 len2 len sz bytes b2 d r dead fs n T h Q:=by
 rw[Qns]
 apply propext;constructor
 ·rintro⟨ys,zs,h1,h2,h3,h4,h5⟩;exact⟨ys,zs,h1,h2,h3,h4,h5⟩
 ·rintro⟨ys,zs,h1,h2,h3,h4,h5⟩;simp_all
theorem QmG {zs ys:List AV} {g len2 len sz bytes b:Nat} (h1:(len2+len)*bytes<=140737488355328) (h2:len2+len<=140737488355328):
  wA P N (some zs) (some ys) g len2 len sz bytes b d r dead fs n T h Q=if ys.all AV.one=true then wB P N (some (.cells (g+1) (zs++ys))) b (.sl b (g+1) 0 (len2+len) sz) d r dead fs n T h Q else False:=by
 by_cases ho:ys.all AV.one=true
 ·rw [if_pos ho]; apply propext; constructor
  ·rintro⟨y,z,e1,e2,_,_,h5⟩;simp_all
  ·intro h5;exact⟨ys,zs,rfl,rfl,⟨h1,h2⟩,ho,h5⟩
 ·rw [if_neg ho]; apply propext; constructor
  ·rintro⟨y,z,e1,e2,_,h4,h5⟩;grind
  simp_all
theorem QkS {g len sz:Nat} {cs:List AV} (hl:cs.length=len*sz):srcB (some (.cells g cs)) g 0 len sz=some cs:=by
 rw[QcS,if_pos ⟨rfl,by omega⟩,List.drop_zero,<-hl,List.take_length]
end
end Go.AM
namespace Go.AM
theorem words:type_of% @Qmc/\type_of% @Qn6/\type_of% @Qmd/\type_of% @QiR/\type_of% @Qn7/\type_of% @Qme/\type_of% @Qki/\type_of% @Qmf/\type_of% @Qkj/\type_of% @Qmg/\type_of% @Qn8/\type_of% @wX_sq/\type_of% @QiS/\type_of% @QhD/\type_of% @Qn9/\type_of% @QhE/\type_of% @Qgv/\type_of% @QfG/\type_of% @QhO/\type_of% @Qi8/\type_of% @ev_t/\type_of% @ev_c/\type_of% @ev_f/\type_of% @Qoa/\type_of% @QaY/\type_of% @Qik/\type_of% @Qob/\type_of% @Qoc/\type_of% @rm_no/\type_of% @Qmh/\type_of% @QiT/\type_of% @QiU/\type_of% @Qkk/\type_of% @QiV/\type_of% @Qmi/\type_of% @Qkl/\type_of% @Qkm/\type_of% @Qkn/\type_of% @Qgw/\type_of% @QfB/\type_of% @Qod/\type_of% @Qko/\type_of% @Qmj/\type_of% @Qmk/\type_of% @Qoe/\type_of% @Qml/\type_of% @Qmm/\type_of% @Qkp/\type_of% @QiW/\type_of% @Qof/\type_of% @wR_eq/\type_of% @wR_un/\type_of% @Qmn/\type_of% @QeU/\type_of% @Qkr/\type_of% @Qks/\type_of% @Qkt/\type_of% @Qku/\type_of% @Qkv/\type_of% @QhF/\type_of% @QiX/\type_of% @Qkw/\type_of% @Qoh/\type_of% @QiY/\type_of% @Qmo/\type_of% @Qkx/\type_of% @Qky/\type_of% @QhG/\type_of% @QiZ/\type_of% @Qmp/\type_of% @Qoi/\type_of% @Qi0/\type_of% @Qmq/\type_of% @Qmr/\type_of% @QdL/\type_of% @Qkz/\type_of% @Qoj/\type_of% @Qcr/\type_of% @Qil/\type_of% @Qi3/\type_of% @Qgx/\type_of% @Qgy/\type_of% @QhH/\type_of% @Qi4/\type_of% @QkB/\type_of% @Qi5/\type_of% @Qgz/\type_of% @Qi6/\type_of% @Qi1/\type_of% @Qi2/\type_of% @Qha/\type_of% @Qhb/\type_of% @Qhc/\type_of% @Qhd/\type_of% @QkC/\type_of% @QkD/\type_of% @QdY/\type_of% @QdZ/\type_of% @Qd0/\type_of% @Qd1/\type_of% @Qd2/\type_of% @Qd3/\type_of% @Qmt/\type_of% @Qmu/\type_of% @QfD/\type_of% @QhJ/\type_of% @QgA/\type_of% @QhI/\type_of% @QfE/\type_of% @QkE/\type_of% @QkF/\type_of% @QfF/\type_of% @wr_u8/\type_of% @Qol/\type_of% @Qom/\type_of% @Qok/\type_of% @Qon/\type_of% @QhK/\type_of% @Qi7/\type_of% @QhL/\type_of% @QgB/\type_of% @QhM/\type_of% @QgC/\type_of% @QgD/\type_of% @QgE/\type_of% @List.elem_cons.{0}/\type_of% @List.elem_nil.{0}/\type_of% @Bool.false_eq_true/\type_of% @Bool.true_eq_false/\type_of% @List.getElem?_cons_zero.{0}/\type_of% @List.getElem?_cons_succ.{0}/\type_of% @decide_eq_true_eq/\type_of% @decide_eq_false_iff_not/\type_of% @decide_true/\type_of% @decide_false/\type_of% @Bool.not_true/\type_of% @Bool.not_false/\type_of% @Bool.not_eq_true'/\type_of% @Bool.not_eq_eq_eq_not/\type_of% @List.nil_append.{0}/\type_of% @List.append_nil.{0}/\type_of% @List.cons_append.{0}/\type_of% @and_true/\type_of% @true_and/\type_of% @Int.natCast_nonneg/\type_of% @Int.toNat_natCast/\type_of% @Nat.mul_one/\type_of% @Nat.zero_add/\type_of% @Int.toNat_zero/\type_of% @QhP/\type_of% @QkG/\type_of% @Qmv/\type_of% @QhN:=
 ⟨@Qmc,@Qn6,@Qmd,@QiR,@Qn7,@Qme,@Qki,@Qmf,@Qkj,@Qmg,@Qn8,@wX_sq,@QiS,@QhD,@Qn9,@QhE,@Qgv,@QfG,@QhO,@Qi8,@ev_t,@ev_c,@ev_f,@Qoa,@QaY,@Qik,@Qob,@Qoc,@rm_no,@Qmh,@QiT,@QiU,@Qkk,@QiV,@Qmi,@Qkl,@Qkm,@Qkn,@Qgw,@QfB,@Qod,@Qko,@Qmj,@Qmk,@Qoe,@Qml,@Qmm,@Qkp,@QiW,@Qof,@wR_eq,@wR_un,@Qmn,@QeU,@Qkr,@Qks,@Qkt,@Qku,@Qkv,@QhF,@QiX,@Qkw,@Qoh,@QiY,@Qmo,@Qkx,@Qky,@QhG,@QiZ,@Qmp,@Qoi,@Qi0,@Qmq,@Qmr,@QdL,@Qkz,@Qoj,@Qcr,@Qil,@Qi3,@Qgx,@Qgy,@QhH,@Qi4,@QkB,@Qi5,@Qgz,@Qi6,@Qi1,@Qi2,@Qha,@Qhb,@Qhc,@Qhd,@QkC,@QkD,@QdY,@QdZ,@Qd0,@Qd1,@Qd2,@Qd3,@Qmt,@Qmu,@QfD,@QhJ,@QgA,@QhI,@QfE,@QkE,@QkF,@QfF,@wr_u8,@Qol,@Qom,@Qok,@Qon,@QhK,@Qi7,@QhL,@QgB,@QhM,@QgC,@QgD,@QgE,@List.elem_cons.{0},@List.elem_nil.{0},@Bool.false_eq_true,@Bool.true_eq_false,@List.getElem?_cons_zero.{0},@List.getElem?_cons_succ.{0},@decide_eq_true_eq,@decide_eq_false_iff_not,@decide_true,@decide_false,@Bool.not_true,@Bool.not_false,@Bool.not_eq_true',@Bool.not_eq_eq_eq_not,@List.nil_append.{0},@List.append_nil.{0},@List.cons_append.{0},@and_true,@true_and,@Int.natCast_nonneg,@Int.toNat_natCast,@Nat.mul_one,@Nat.zero_add,@Int.toNat_zero,@QhP,@QkG,@Qmv,@QhN⟩
theorem wordsN:type_of% @QkM/\type_of% @QeD/\type_of% @Qeg/\type_of% @Qjc/\type_of% @Option.map_some.{0,0}/\type_of% @Qiq/\type_of% @wN_go/\type_of% @wB_go/\type_of% @QaA/\type_of% @QaE/\type_of% @Qjb/\type_of% @QhS/\type_of% @Qjd/\type_of% @Qje/\type_of% @QkN/\type_of% @Qjf/\type_of% @QgJ/\type_of% @Qmz/\type_of% @QmA/\type_of% @Qou/\type_of% @QmB/\type_of% @Qjg/\type_of% @QmC/\type_of% @Qov/\type_of% @QmD/\type_of% @Qjh/\type_of% @QkO/\type_of% @List.set_cons_zero.{0}/\type_of% @List.set_cons_succ.{0}/\type_of% @List.length_cons.{0}/\type_of% @List.length_nil.{0}/\type_of% @List.all_cons.{0}/\type_of% @List.all_nil.{0}/\type_of% @Bool.and_true/\type_of% @Bool.true_and/\type_of% @List.drop_zero.{0}/\type_of% @List.drop_succ_cons.{0}/\type_of% @List.take_succ_cons.{0}/\type_of% @List.take_zero.{0}/\type_of% @List.head?_cons.{0}/\type_of% @Qji/\type_of% @Nat.le_refl/\type_of% @Int.cast_ofNat_Int/\type_of% @Int.natCast_zero/\type_of% @Int.natCast_one:=
 ⟨@QkM,@QeD,@Qeg,@Qjc,@Option.map_some.{0,0},@Qiq,@wN_go,@wB_go,@QaA,@QaE,@Qjb,@QhS,@Qjd,@Qje,@QkN,@Qjf,@QgJ,@Qmz,@QmA,@Qou,@QmB,@Qjg,@QmC,@Qov,@QmD,@Qjh,@QkO,@List.set_cons_zero.{0},@List.set_cons_succ.{0},@List.length_cons.{0},@List.length_nil.{0},@List.all_cons.{0},@List.all_nil.{0},@Bool.and_true,@Bool.true_and,@List.drop_zero.{0},@List.drop_succ_cons.{0},@List.take_succ_cons.{0},@List.take_zero.{0},@List.head?_cons.{0},@Qji,@Nat.le_refl,@Int.cast_ofNat_Int,@Int.natCast_zero,@Int.natCast_one⟩
theorem wordsR:type_of% @QkP/\type_of% @Qa4/\type_of% @get_e/\type_of% @QfL/\type_of% @QhT/\type_of% @Qjj/\type_of% @QfM/\type_of% @QeW/\type_of% @Qjk/\type_of% @QgK/\type_of% @QmG/\type_of% @QkS/\type_of% @Int.ofNat_lt/\type_of% @Int.ofNat_le/\type_of% @Int.ofNat_inj/\type_of% @Int.natCast_pos/\type_of% @Int.natCast_add/\type_of% @List.length_map.{0,0}/\type_of% @List.length_append.{0}/\type_of% @List.take_length.{0}/\type_of% @Nat.zero_mul/\type_of% @Nat.one_mul/\type_of% @Nat.add_zero/\type_of% @Int.zero_add/\type_of% @Nat.not_lt_zero/\type_of% @Int.le_refl/\type_of% @not_true/\type_of% @not_false_iff/\type_of% @Nat.lt_irrefl/\type_of% @Int.lt_irrefl:=
 ⟨@QkP,@Qa4,@get_e,@QfL,@QhT,@Qjj,@QfM,@QeW,@Qjk,@QgK,@QmG,@QkS,@Int.ofNat_lt,@Int.ofNat_le,@Int.ofNat_inj,@Int.natCast_pos,@Int.natCast_add,@List.length_map.{0,0},@List.length_append.{0},@List.take_length.{0},@Nat.zero_mul,@Nat.one_mul,@Nat.add_zero,@Int.zero_add,@Nat.not_lt_zero,@Int.le_refl,@not_true,@not_false_iff,@Nat.lt_irrefl,@Int.lt_irrefl⟩
end Go.AM
namespace Go.AM
variable {P:Program}
def FSpec (P:Program) (f:Nat) (args:List AV) (v:AV):Prop:=
 Callable P f/\noRefs args=true/\noRef v=true/\∀(F:Nat->Prop) (w:World) (cargs:Array Value),(∀k,F k->k<w.heap.size)->VRels (only (ok:=okc P) F) w args cargs.toList->
  Calls P f cargs w fun e w'=>∃cv F',e= .returned cv/\Evo2 0 (only (ok:=okc P) F) w (only (ok:=okc P) fun k=>F k\/F' k) w'/\(∀k,F' k->w.heap.size<=k/\k<w'.heap.size)/\VRel (only (ok:=okc P) F') w' v cv
def RnO (h:Heap) (x y:AV):Prop:=∀(ok:Okc) (c:Ctx ok) (w:World) (v:Value),HRel c h w->VRel c w y v->VRel (only (ok:=ok) c.O) w x v
def RnOL (h:Heap):List AV->List AV->Prop
 |[],[]=>True
 |x::xs,y::ys=>RnO h x y/\RnOL h xs ys
 |_,_=>False
section
variable {h:Heap}
theorem RnO.flat {x:AV} (hf:flatV x=true):RnO h x x:=fun _ c w v _ hv=>VRel.flat _ _ hf hv
theorem RnOL.nil:RnOL h [] []:=trivial
theorem RnOL.cons {x y:AV} {xs ys:List AV} (h1:RnO h x y) (h2:RnOL h xs ys):RnOL h (x::xs) (y::ys):=⟨h1,h2⟩
theorem RnOL.rels {ok:Okc} {c:Ctx ok} {w:World} (H:HRel c h w):∀{xs ys:List AV} {vs:List Value},RnOL h xs ys->VRels c w ys vs->VRels (only (ok:=ok) c.O) w xs vs
 |[],[],_,_,hv=>by grind [VRels]
 |[],_::_,_,hh,_=>hh.elim
 |_::_,[],_,hh,_=>hh.elim
 |x::xs,y::ys,vs,hh,hv=>by
  simp only[VRels]at hv⊢
  obtain⟨v,vs',rfl,g1,g2⟩:=hv
  exact⟨v,vs',rfl,hh.1 _ c w v H g1,RnOL.rels H hh.2 g2⟩
theorem RnO.tup {xs ys:List AV} (hL:RnOL h xs ys):RnO h (.tup xs) (.tup ys):=fun _ c w v H hv=>by
 simp only[VRel]at hv⊢
 obtain⟨vs,rfl,hv⟩:=hv
 exact⟨vs,rfl,hL.rels H hv⟩
theorem RnO.sl {b g len sz:Nat} {ds:List AV} (hb:h.get b=some (.cells g ds)) (hf:flatVs ds=true) (hl:ds.length=len*sz):RnO h (.fsl ds len sz) (.sl b g 0 len sz):=fun _ c w v H hv=>by
  simp only[VRel]at hv
  rcases hv with⟨hp,rfl,_,rfl⟩|⟨cb,base,o,cap,C,e,fr,hp,rfl,hlc,hC,hcap⟩
  · simp_all [VRel]
  · obtain ⟨C', e', fr', hO, hC', hfr, hbs, hpre⟩ := H.here hb hp
    rw[hC]at hC';cases hC'
    by_cases h0:cap=0
    · have hl0 : len = 0 := by omega
      subst hl0
      have:ds=[]:=List.eq_nil_of_length_eq_zero (by rw[hl];simp)
      subst this
      simp only[VRel]
      simp_all
    · obtain ⟨ho, hbd⟩ := hcap.resolve_left h0
      simp only[VRel]
      exact .inr ⟨cb,o,cap,C,e,fr,rfl,hlc,hl,hO,hC,by grind [VPre.flat]⟩
theorem RnO.slm {b g len k sz:Nat} {ds es:List AV} (hb:h.get b=some (.cells g ds)) (he:es=ds) (hk:k=len) (hf:flatVs ds=true) (hl:ds.length=len*sz):RnO h (.fsl es k sz) (.sl b g 0 len sz):=by
 simp_all [RnO.sl]
end
theorem FSpec.of_W2 {f:Nat} {sf:SFn} {args:List AV} {v:AV} (hok:okFn P f sf=true) (hl:args.length<=sf.n) (ha:noRefs args=true) (hv:noRef v=true)
  (hw:W2 P ⟨sf.n,0⟩ sf.body (fun e B=>(e= .normal\/e= .ret)/\∃vs,resV B.T B.h sf.res=some vs/\RnO B.h v (resOf vs)) ⟨argT 0 args,.e⟩):FSpec P f args v:=by
 obtain⟨_,_,_,_,_,_,_,hc⟩:=Qb8 hok
 refine⟨hc,ha,hv,fun F w cargs hF ha=>(Qc3 (R:=fun vs k=>RnO k v (resOf vs)) hok hl hw (HRel.only hF) ha).mono ?_⟩
 rintro e w' ⟨cv,c',vs,k,rfl,E,H',V,hk⟩
 have hnew:∀k,c'.O k->w.heap.size<=k:=fun k hO=>(E.own k hO).elim (fun h=>h.elim) id
 refine⟨cv,c'.O,rfl,?_,fun k hO=>⟨hnew k hO,H'.inO k hO⟩,hk _ c' w' cv H' V⟩
 refine⟨E.os,E.tape,E.output,E.size,E.shape,fun k hk _=>E.keep k hk (fun h=>h),fun b g p hb=>absurd hb (Nat.not_lt_zero _),fun k hk=> .inl hk,fun k hk=>?_,fun k hk=>hk.elim,rfl⟩
 rcases hk with hk|hk
 ·exact .inl hk
 simp_all
theorem FSpec.of_wS {f:Nat} {sf:SFn} {args:List AV} {v:AV} (n:Nat) (hok:okFn P f sf=true) (hl:Nat.ble args.length sf.n=true) (ha:noRefs args=true) (hv:noRef v=true)
  (hw:wS P ⟨sf.n,0⟩ sf.body [] n (argT 0 args) .e fun e T h _=>(e= .normal\/e= .ret)/\∃vs,resV T h sf.res=some vs/\RnO h v (resOf vs)):FSpec P f args v:=
 FSpec.of_W2 hok (Nat.le_of_ble_eq_true hl) ha hv ((wpC.toW hw).mono fun e B ⟨_,h⟩=>h)
section
variable {h:Heap}
theorem FrzTo.fn {f:Nat} {xs ys us vs:List AV} (hL:FrzL h xs ys) (hK:FrzL h us vs):FrzTo h (.fn f xs us) (.fn f ys vs):=fun _ c w v H hv=>by
 simp only[VRel]at hv⊢
 obtain⟨x',y',rfl,h1,h2⟩:=hv
 exact⟨x',y',rfl,hL.rels H h1,hK.rels H h2⟩
theorem FrzTo.ptr {b g off:Nat} {cs ys:List AV} (hb:h.get b=some (.cells g cs)) (hL:FrzL h (cs.drop off) ys):FrzTo h (.ptr b g off) (.fptr ys):=fun _ c w v H hv=>by
 simp only[VRel]at hv
 obtain⟨cb,base,hp,rfl⟩:=hv
 obtain⟨C',e',fr',hO,hC',hfr,hbs,hpre⟩:=H.here hb hp
 have hp2:=Qbi off hpre
 rw[List.drop_drop]at hp2
 simp only[VRel]
 exact⟨cb,base+off,C',e',fr',rfl,.inr hO,hC',hL.pre H hp2⟩
theorem FrzTo.map {b g:Nat} {es:List (AV×AV)} {ks vs:List AV} (hb:h.get b=some (.map g es)) (hk:FrzL h (es.map (·.1)) ks) (hv:FrzL h (es.map (·.2)) vs):FrzTo h (.map b g) (.fmap ks vs):=fun _ c w v H hx=>by
 simp only[VRel]at hx
 obtain⟨cb,hp,rfl⟩:=hx
 obtain⟨ms,clock,hO,hC,hR,hcl⟩:=H.atMap hb hp
 obtain⟨g1,g2,g3⟩:=Qih hR
 have hl:=QbO hR
 simp only[VRel]
 exact⟨cb,ms,clock,rfl,.inr hO,hC,by simp_all,g1,hk.rels H g2,hv.rels H g3⟩
theorem HSpec.lend {f:Nat} {args bs:List AV} {v:AV} (hL:FrzL h args bs) (hp:PSpec P f bs v) (hv:flatV v=true):HSpec P f args h v h:=by
 obtain⟨h',hc,_⟩:=hp.2.2
 exact⟨hc,fun c w cargs H ha=>(hp.borrow hv H (hL.rels H ha)).2⟩
theorem HSpec.of_F {f:Nat} {args bs:List AV} {v:AV} (hL:FrzL h args bs) (hp:FSpec P f bs v):HSpec P f args h v h:=by
 obtain⟨hc,n1,n2,hs⟩:=hp
 refine⟨hc,fun c w cargs H ha=>?_⟩
 have hF:∀k,(c.F k\/c.O k)->k<w.heap.size:=fun k hk=>hk.elim (H.inF k) (H.inO k)
 refine(hs (fun k=>c.F k\/c.O k) w cargs hF (VRels.noRef (c:=lent c) (c':=only fun k=>c.F k\/c.O k) (fun _ h=>h) _ _ n1 (hL.rels H ha))).mono ?_
 rintro e w' ⟨cv,F',rfl,E,hnew,V⟩
 have hk:∀k,k<w.heap.size->w'.heap[k]?=w.heap[k]?:=fun k hk=>E.keep k hk (fun h=>h)
 obtain⟨E1,H1⟩:=H.grow E.os E.tape E.output E.size hk
 refine⟨cv,{c with F:=fun k=>c.F k\/F' k},rfl,?_,H1.frozen (fun k=>c.F k\/F' k) (fun k hk=> .inl hk) (fun k hk=>?_),VRel.noRef (c:=only F') (c':={c with F:=fun k=>c.F k\/F' k}) (fun _ h=> .inr h) _ _ n2 V⟩
 ·refine ⟨E1.os, E1.tape, E1.output, E1.size, E1.shape, E1.keep, E1.rho, fun k hk => .inl hk, fun k hk => ?_, E1.own, rfl⟩
  grind
 ·rcases hk with hk | hk
  ·exact⟨fun hO=>H.disj k hk hO,Nat.lt_of_lt_of_le (H.inF k hk) E.size⟩
  grind
end
end Go.AM
namespace Go.AM
variable {P:Program}
def noLoop:SCode->Bool
 | .loop _| .mloop .. =>false
 | .seq a b=>noLoop a&&noLoop b
 | .cond _ a b=>noLoop a&&noLoop b
 | .block _ b=>noLoop b
 | .rfunc .. =>false
 |_=>true
theorem wpC.toW1 {N:NM}:∀{c:SCode} {n:Nat} {T:Tmps} {h:Heap} {Q:QC},noLoop c=true->wpC P N c n T h Q->W P N.n c (fun e B=>∃n,Q e B.T B.h n) ⟨T,h⟩
 | .skip,n,T,h,Q,_,hk=>W.skip ⟨n,hk⟩
 | .ret,n,T,h,Q,_,hk=>W.ret ⟨n,hk⟩
 | .exit i,n,T,h,Q,_,hk=>W.exit ⟨n,hk⟩
 | .bad,_,_,_,_,_,hk=>hk.elim
 | .mloop ..,n,T,h,Q,hn,hk=>by simp[noLoop]at hn
 | .rfunc ..,n,T,h,Q,hn,hk=>by simp[noLoop]at hn
 | .loop _,n,T,h,Q,hn,hk=>by simp[noLoop]at hn
 | .region ops [] dead,n,T,h,Q,_,hk=>by
  have:=wpR.toWR (i:=0) hk
  exact W.regionR n (this|>fun h=>by simpa using(show _ from(wpC.toW.wr_mono h)))
 | .region ops (p::ps) dead,n,T,h,Q,_,hk=>by
  obtain⟨fs,T',h',h1,h2,h3⟩:=wpRF.toF (i:=0) hk
  grind [W.regionF]
 | .seq a b,n,T,h,Q,hn,hk=>by
  simp only[wpC]at hk
  simp only[noLoop,Bool.and_eq_true]at hn
  refine W.seq ((wpC.toW1 (c:=a) hn.1 hk).mono ?_)
  rintro e B ⟨n',hq⟩
  cases e with
  |normal=>exact wpC.toW1 hn.2 hq
  |exit i=>exact⟨n',hq⟩
  |ret=>exact⟨n',hq⟩
 | .cond x a b,n,T,h,Q,hn,⟨t,hx,hk⟩=>by
  simp only[noLoop,Bool.and_eq_true]at hn
  refine W.cond hx ?_ ?_
  ·intro e;rw[if_pos e]at hk;exact wpC.toW1 hn.1 hk
  ·intro e;rw[if_neg (by simp[e])]at hk;exact wpC.toW1 hn.2 hk
 | .block i b,n,T,h,Q,hn,hk=>by
  simp only[wpC]at hk
  refine W.block ((wpC.toW1 (c:=b) hn hk).mono ?_)
  grind
section
variable {N:NM} {n:Nat} {T L:Tmps} {h:Heap} {Q:QC} {fs:List Fr} {b2:Nat} {G:Prop}
end
end Go.AM
namespace Go.AM.KN
open Go.Proofs
noncomputable section
def isTrue:AV->Bool| .bool true=>true|_=>false
theorem Qoy:∀u,isTrue u=true->u= .bool true:=by
 intro u h
 unfold isTrue at h
 split at h
 ·rfl
 ·cases h
theorem known5:PSpec Tryz.prog 5 [] (.bool true):=
 QdB (t:=ft) ft_ok Qd5 (d:=100000) isTrue Qoy (by kernel_rfl)
end
end Go.AM.KN
namespace Go.AM.TP
open Go.Proofs
set_option maxHeartbeats 4000000
noncomputable section
def cf:YA.Cf:={most:= .pure,always:=[43].map fun k=>(k,.heap)}
def s10:SFn:=by
 refine(?f:YA.Yt Tryz.prog cf 10 [[0,3,4],[6,7],[8],[1,5,9,10,11],[1,5,9,12,13,14,15,16,17,18]]) ?s ?h
 case h=>exact YA.rr
 exact fun s _=>s
def s30:SFn:=by
 refine(?f:YA.Yt Tryz.prog cf 30 [[3,4],[17,18],[19],[0,5,20,21,22],[3,4,0,5,20,23,24],[25,26,27],[29,30,28,31,32],[8,33],[6,7,34,35],[4,34,36,37],[7,38,39,40,41],[],[42,43,44],[45,48,49,50,51,52],[53,54,55,56,57,58,59],[53,60],[],[64,65,66],[68,69,70,71,72,73,74,67,75,76],[14,77],[78,80,81,82,83,79,84,85],[16,86],[15,87,88,89],[6,9,10,61,62,63,12,13,90,91],[4,90,92,93],[94,95,96,97],[13,98,99,100,101],[12,15,13,87,102,103,104,105,106,107,108,109,110],[111],[61,62,63,46,47],[6,9,10,112,113,114],[115,116]]) ?s ?h
 case h=>exact YA.rr
 exact fun s _=>s
def s31:SFn:=by
 refine(?f:YA.Yt Tryz.prog cf 31 [[2],[],[0],[],[9,10,11],[5,12,13,14,15,16],[17],[3,6,7,8,18]]) ?s ?h
 case h=>exact YA.rr
 exact fun s _=>s
def s64:SFn:=by
 refine(?f:YA.Yt Tryz.prog cf 64 [[2],[6,7],[0,8],[2,0,8],[],[12,13,14],[4,15,16],[17],[9,10,11,5,18,19],[2,5,18,20],[9,10,11]]) ?s ?h
 case h=>exact YA.rr
 exact fun s _=>s
def s65:SFn:=by
 refine(?f:YA.Yt Tryz.prog cf 65 [[],[9,10,11,12],[0],[],[16,17,18],[19],[5,20],[],[24,25,26],[8,27,28,29,30,31,32,33,34],[35],[6,21,22,23,36,37,38,39,40,41],[42],[3,13,14,15,43]]) ?s ?h
 case h=>exact YA.rr
 exact fun s _=>s
def s66:SFn:=by
 refine(?f:YA.Yt Tryz.prog cf 66 [[0,2,3],[6],[],[10,11,12],[5,13,14],[1,7,8,9,15],[2,3,15,16],[1,7,8,9,17,18,19,20]]) ?s ?h
 case h=>exact YA.rr
 exact fun s _=>s
def s68:SFn:=by
 refine(?f:YA.Yt Tryz.prog cf 68 [[0,4],[2,7],[],[11,12,13,14],[6,5,15,16,17,18,19,20,21],[1,8,9,10,22],[4,22,23],[1,8,9,10]]) ?s ?h
 case h=>exact YA.rr
 exact fun s _=>s
def s69:SFn:=by
 refine(?f:YA.Yt Tryz.prog cf 69 [[0,6,7],[13,14],[15],[],[19,20,21,22],[10,23,24,25,26],[27,29,30,31,32,33,34,35,36,37,38,39,40,28,41,42],[12,43],[1,2,3,8,16,17,18,9,11,44],[6,7,9,11,44,45,46,47,48],[49],[1,2,3,8,16,17,18,50]]) ?s ?h
 case h=>exact YA.rr
 exact fun s _=>s
def s102:SFn:=by
 refine(?f:YA.Yt Tryz.prog cf 102 [[2],[],[0],[],[9,10,11],[5,12,13,14,15],[16],[3,6,7,8,17]]) ?s ?h
 case h=>exact YA.rr
 exact fun s _=>s
def s104:SFn:=by
 refine(?f:YA.Yt Tryz.prog cf 104 [[4],[0,1,8,9,10,7,11,12,5],[6,13]]) ?s ?h
 case h=>exact YA.rr
 exact fun s _=>s
theorem ok10:okFn Tryz.prog 10 s10=true:=by kernel_rfl
theorem ok30:okFn Tryz.prog 30 s30=true:=by kernel_rfl
theorem ok31:okFn Tryz.prog 31 s31=true:=by kernel_rfl
theorem ok64:okFn Tryz.prog 64 s64=true:=by kernel_rfl
theorem ok65:okFn Tryz.prog 65 s65=true:=by kernel_rfl
theorem ok66:okFn Tryz.prog 66 s66=true:=by kernel_rfl
theorem ok68:okFn Tryz.prog 68 s68=true:=by kernel_rfl
theorem ok69:okFn Tryz.prog 69 s69=true:=by kernel_rfl
theorem ok102:okFn Tryz.prog 102 s102=true:=by kernel_rfl
theorem ok104:okFn Tryz.prog 104 s104=true:=by kernel_rfl
end
end Go.AM.TP
namespace Go.AM
variable {P:Program}
section
variable {N:NM} {n:Nat} {d:Option Nat} {dead:List Nat} {r:List SOper} {T:Tmps} {h:Heap} {Q:QC} {fs:List Fr}
theorem QgL {sz bytes len b2 g2 off2 len2:Nat} {cs:List AV}:wM P N (aAppend .dyn n sz bytes (.sl b2 g2 off2 len2 sz) (.fsl cs len sz)) d r dead fs n T h Q=
  wA P N (srcB (h.get b2) g2 off2 len2 sz) (some cs) g2 len2 len sz bytes b2 d r dead fs n T h Q:=by
 simp only[aAppend,aSrc,if_true,slLen,Qdi,Qc4,QfC]
 apply propext;constructor
 ·rintro ⟨h2, cs2, hb2, h3, h4⟩
  rw[hb2,QcS,if_pos ⟨rfl,h3⟩]
  exact⟨_,_,rfl,rfl,⟨h2.1,h2.2.1⟩,h2.2.2,h4⟩
 ·rintro ⟨ys, zs, hy, hz, h2, h3, h4⟩
  cases hy
  unfold srcB at hz
  grind
theorem Qet {sz bytes b2 g2 off2 len2:Nat}:wM P N (aAppend .dyn n sz bytes (.sl b2 g2 off2 len2 sz) .nilsl) d r dead fs n T h Q=
  wA P N (srcB (h.get b2) g2 off2 len2 sz) (some []) g2 len2 0 sz bytes b2 d r dead fs n T h Q:=by
 simp only[aAppend,aSrc,if_true,slLen,Qdi,Qc4,QfC]
 apply propext;constructor
 ·rintro ⟨h2, cs2, hb2, h3, h4⟩
  rw[hb2,QcS,if_pos ⟨rfl,h3⟩]
  exact⟨_,_,rfl,rfl,⟨h2.1,h2.2.1⟩,h2.2.2,h4⟩
 ·rintro ⟨ys, zs, hy, hz, h2, h3, h4⟩
  cases hy
  unfold srcB at hz
  grind
end
theorem QgM {cs:List AV} {len sz:Nat} {k:IntKind} {a:Int}:aSliceC (some sz) (.fsl cs len sz) (some (.int k a)) none none=
  if 0<=a/\a<=len then some (.fsl ((cs.drop (a.toNat*sz)).take ((len-a.toNat)*sz)) (len-a.toNat) sz)else none:=by
 simp_all [aSliceC,aSlice,bnd]
theorem QgN {cs:List AV} {len sz:Nat} {k:IntKind} {b:Int}:aSliceC (some sz) (.fsl cs len sz) none (some (.int k b)) none=
  if 0<=b/\b<=len then some (.fsl (cs.take (b.toNat*sz)) b.toNat sz)else none:=by
 simp_all [aSliceC,aSlice,bnd]
theorem QgO {cs:List AV} {len sz:Nat} {k k2:IntKind} {a b:Int}:aSliceC (some sz) (.fsl cs len sz) (some (.int k a)) (some (.int k2 b)) none=
  if 0<=a/\a<=b/\b<=len then some (.fsl ((cs.drop (a.toNat*sz)).take ((b.toNat-a.toNat)*sz)) (b.toNat-a.toNat) sz)else none:=by
 simp_all [aSliceC,aSlice,bnd]
theorem QhU {b g off len sz:Nat} {k:IntKind} {a:Int}:aSliceC (some sz) (.sl b g off len sz) (some (.int k a)) none none=
  if 0<=a/\a<=len then some (.sl b g (off+a.toNat*sz) (len-a.toNat) sz)else none:=by
 simp_all [aSliceC,aSlice,bnd]
theorem QhV {b g off len sz:Nat} {k:IntKind} {c:Int}:aSliceC (some sz) (.sl b g off len sz) none (some (.int k c)) none=
  if 0<=c/\c<=len then some (.sl b g off c.toNat sz)else none:=by
 simp_all [aSliceC,aSlice,bnd]
theorem QhW {b g off len sz:Nat} {k k2:IntKind} {a c:Int}:aSliceC (some sz) (.sl b g off len sz) (some (.int k a)) (some (.int k2 c)) none=
  if 0<=a/\a<=c/\c<=len then some (.sl b g (off+a.toNat*sz) (c.toNat-a.toNat) sz)else none:=by
 simp_all [aSliceC,aSlice,bnd]
end Go.AM
namespace Go.AM
variable {P:Program}
def HM.tch {α:Type} (B:Nat->Prop):HM α->Prop
 | .ret _=>True
 | .fail=>True
 | .look b k=>B b/\∀x,(k x).tch B
 | .put b _ k=>B b/\k.tch B
theorem HM.Qrq {α:Type} {B:Nat->Prop} (m:HM α):m.tch B->∀h b,b∈(m.fp h).1\/b∈(m.fp h).2->B b:=by
 induction m with
 |ret a=>intro _ h b hb;simp[HM.fp]at hb
 |fail=>intro _ h b hb;simp[HM.fp]at hb
 |look b k ih=>
  rintro⟨h1,h2⟩ h b' hb
  simp only[HM.fp,List.mem_cons]at hb
  rcases hb with(rfl|hb)|hb
  ·exact h1
  ·grind
  ·grind
 |put b x k ih=>
  rintro⟨h1,h2⟩ h b' hb
  simp only[HM.fp,List.mem_cons]at hb
  rcases hb with hb|rfl|hb
  ·grind
  ·exact h1
  ·grind
theorem HM.QpJ {α β:Type} {B:Nat->Prop} {m:HM α} {f:α->HM β} (h1:m.tch B) (h2:∀a,(f a).tch B):(m.bind f).tch B:=by
 induction m with
 |ret a=>exact h2 a
 |fail=>trivial
 |look b k ih=>exact⟨h1.1,fun x=>ih x (h1.2 x)⟩
 |put b x k ih=>exact⟨h1.1,ih h1.2⟩
theorem QmH {α:Type} {B:Nat->Prop} (o:Option α):(HM.opt o).tch B:=by cases o<;>trivial
theorem Qdw {α:Type} {B:Nat->Prop} {b g:Nat} {k:List AV->HM α} (hb:B b) (hk:∀cs,(k cs).tch B):(HM.cells b g k).tch B:=by
 refine⟨hb,fun x=>?_⟩
 match x with
 |some (.cells g' cs)=>
  simp only
  cases Nat.beq g' g<;>first|exact trivial|exact hk cs
 |some (.map _ _)=>trivial
 |some (.dead _)=>trivial
 |some (.loop ..)=>trivial
 |none=>trivial
theorem Qis {α:Type} {B:Nat->Prop} {i:Nat} {x:Nat->Blk} {k:Nat->Nat->HM α} (hb:B i) (hk:∀b g,(k b g).tch B):(HM.new .dyn i x k).tch B:=by
 refine⟨hb,fun y=>?_⟩
 match y with
 |none=>exact⟨hb,hk _ _⟩
 |some z=>trivial
def blks:AV->Option (List Nat)
 | .ptr b _ _=>some [b]
 | .sl b _ _ _ _=>some [b]
 | .map b _=>some [b]
 | .any=>none
 | .agg _=>none
 | .tup []=>some []
 | .tup _=>none
 | .fn _ _ _=>none
 | .ifc _ _=>none
 | .typed _ _ _=>none
 |_=>some []
def Pts (v:AV) (bs:List Nat):Prop:=∃cs,blks v=some cs/\∀b∈cs,b∈bs
abbrev Abs:=List (Nat×Option (List Nat))
def absT (T:Tmps):Abs->Nat->Option (List Nat)
 |[],i=>blks (lk T i)
 |(j,a)::r,i=>bif Nat.beq j i then a else absT T r i
def absO (T:Tmps) (A:Abs):Opd->Option (List Nat)
 | .t i=>absT T A i
 | .c v=>blks v
 |_=>none
def SOp.absV (i:Nat) (ax:Opd->Option (List Nat)):SOp->Option (List Nat)
 | .mov x=>ax x
 | .slice _ x _ _ _=>ax x
 | .iaddr _ _ x _=>ax x
 | .faddr _ x=>ax x
 | .alloc .dyn _=>some [i]
 | .box .dyn _=>some [i]
 | .bslice false .dyn _ _ _ _=>some [i]
 | .mkslice .dyn _ _ _ _ _=>some [i]
 | .mkmap .dyn=>some [i]
 | .append .dyn _ _ x _=>(ax x).map fun bs=>i::bs
 |_=>none
def SOp.touch (i:Nat) (ax:Opd->Option (List Nat)):SOp->Option (List Nat)
 | .load _ x=>ax x
 | .store _ x _=>ax x
 | .len _ x=>ax x
 | .alloc .dyn _=>some [i]
 | .box .dyn _=>some [i]
 | .bslice _ .dyn _ _ _ _=>some [i]
 | .mkslice .dyn _ _ _ _ _=>some [i]
 | .mkmap .dyn=>some [i]
 | .append .dyn _ _ x y=>match ax x,ax y with
  |some a,some b=>some (i::(a++b))
  |_,_=>none
 | .copy _ x y=>match ax x,ax y with
  |some a,some b=>some (a++b)
  |_,_=>none
 | .lookup _ _ _ _ x _=>ax x
 | .mupd _ _ x _ _=>ax x
 |s=>bif Nat.beq s.cls 0 then some []else none
def touches (n:Nat) (T:Tmps):List SOper->Abs->List (Option (List Nat))
 |[],_=>[]
 |s::r,A=>s.op.touch n (absO T A)::touches (n+1) T r (match s.dst with|some d=>(d,s.op.absV n (absO T A))::A|none=>A)
def pairsOK (ts:List (Option (List Nat))) (ps:List (Nat×Nat)):Bool:=
 ps.all fun p=>match ts.getD p.1 none,ts.getD p.2 none with
  |some a,some b=>a.all fun x=> !b.elem x
  |_,_=>false
section
variable {i:Nat} {T:Tmps} {ax:Opd->Option (List Nat)} {B:Nat->Prop}
theorem QpK {n:Option Nat} {v:AV} {bs:List Nat} (h:Pts v bs):(aLoad n v).tch (· ∈bs):=by
 obtain⟨cs,h1,h2⟩:=h
 unfold aLoad
 split
 ·simp only [blks, Option.some.injEq] at h1
  subst h1
  refine Qdw (h2 _ (by simp)) fun cs=>?_
  split
  ·exact QmH _
  ·split<;>trivial
 ·split
  ·exact QmH _
  ·split<;>trivial
 ·trivial
theorem Qoz {n:Nat} {v u:AV} {bs:List Nat} (h:Pts v bs):(aStore n v u).tch (· ∈bs):=by
 obtain⟨cs,h1,h2⟩:=h
 unfold aStore
 split
 ·simp only [blks, Option.some.injEq] at h1
  subst h1
  have hb:=h2 _ (List.mem_singleton.2 rfl)
  refine Qdw hb fun cs=>?_
  split
  ·exact⟨hb,trivial⟩
  ·trivial
 ·trivial
theorem QqC {k:Nat} {v:AV} {bs:List Nat} (h:Pts v bs):(aLenC k v).tch (· ∈bs):=by
 obtain⟨cs,h1,h2⟩:=h
 unfold aLenC
 split
 ·unfold aLen
  split<;>try trivial
  simp only[blks,Option.some.injEq]at h1
  subst h1
  refine⟨h2 _ (by simp),fun y=>?_⟩
  match y with
  |some (.map g' es)=>
   simp only
   generalize Nat.beq g' _=t
   cases t<;>trivial
  |some (.cells _ _)=>trivial
  |some (.dead _)=>trivial
  |some (.loop ..)=>trivial
  |none=>trivial
 ·trivial
theorem Qgb {sz:Nat} {v:AV} {bs:List Nat} {k:List AV->Nat->HM AV} (h:Pts v bs) (hs:∀b∈bs,B b) (hk:∀ys n,(k ys n).tch B):(aSrc sz v k).tch B:=by
  obtain⟨cs,h1,h2⟩:=h
  unfold aSrc
  split
  · simp only [blks, Option.some.injEq] at h1
    subst h1
    split
    · refine Qdw (hs _ (h2 _ (by simp))) fun cs => ?_
      split
      · exact hk _ _
      · trivial
    · trivial
  · split
    · exact hk _ _
    · trivial
  · exact hk _ _
  · exact hk _ _
  · exact hk _ _
  · split
    · exact hk _ _
    · trivial
  · trivial
theorem Qnt {sz bytes : Nat} {x y : AV} {a b : List Nat} (hx : Pts x a) (hy : Pts y b) : (aAppend .dyn i sz bytes x y).tch (· ∈ i :: (a ++ b)) := by
  unfold aAppend
  refine Qgb hy (fun c hc=>by simp[hc]) fun ys n=>?_
  split
  · obtain ⟨cs, h1, h2⟩ := hx
    split
    · split
      · trivial
      · exact Qis (by simp) fun _ _=>trivial
    · split
      · trivial
      · exact Qis (by simp) fun _ _=>trivial
    · split<;>trivial
    · simp only [blks, Option.some.injEq] at h1
      subst h1
      have hb:=h2 _ (List.mem_singleton.2 rfl)
      split
      · refine Qdw (by simp [hb]) fun cs => ?_
        split
        · exact⟨by simp[hb],trivial⟩
        · trivial
      · trivial
    · simp[blks]at h1
    · trivial
  · trivial
theorem QpL {sz:Nat} {x y:AV} {a b:List Nat} (hx:Pts x a) (hy:Pts y b):(aCopy sz x y).tch (· ∈a++b):=by
  obtain⟨cs,h1,h2⟩:=hx
  unfold aCopy
  split
  · simp only [blks, Option.some.injEq] at h1
    subst h1
    have hb:=h2 _ (List.mem_singleton.2 rfl)
    split
    · refine Qgb hy (fun c hc => by simp [hc]) fun ys n => ?_
      refine Qdw (by simp[hb]) fun cs=>?_
      split
      · exact⟨by simp[hb],trivial⟩
      · trivial
    · trivial
  · exact Qgb hy (fun c hc=>by simp[hc]) fun ys n=>trivial
  · exact Qgb hy (fun c hc=>by simp[hc]) fun ys n=>trivial
  · trivial
theorem QgP {α:Type} {b g:Nat} {k:List (AV×AV)->HM α} (hb:B b) (hk:∀es,(k es).tch B):(HM.entries b g k).tch B:=by
 refine⟨hb,fun x=>?_⟩
 match x with
 |some (.map g' es)=>
  simp only
  cases Nat.beq g' g<;>first|exact trivial|exact hk es
 |some (.cells _ _)=>trivial
 |some (.dead _)=>trivial
 |some (.loop ..)=>trivial
 |none=>trivial
theorem Qnu {row ok:Bool} {ks:List LK} {z x k:AV} {bs:List Nat} (h:Pts x bs):(aLookup row ks z ok x k).tch (· ∈bs):=by
 obtain⟨cs,h1,h2⟩:=h
 unfold aLookup
 split
 ·split
  ·trivial
  ·simp only [blks, Option.some.injEq] at h1
   subst h1
   refine QgP (h2 _ (by simp)) fun es=>?_
   split<;>trivial
  ·split<;>trivial
  ·trivial
 ·trivial
theorem QpM {row:Bool} {ks:List LK} {x k v:AV} {bs:List Nat} (h:Pts x bs):(aMapUpd row ks x k v).tch (· ∈bs):=by
 obtain⟨cs,h1,h2⟩:=h
 unfold aMapUpd
 split
 ·split
  ·simp only [blks, Option.some.injEq] at h1
   subst h1
   have hb:=h2 _ (List.mem_singleton.2 rfl)
   refine QgP hb fun es=>?_
   split
   ·exact⟨hb,trivial⟩
   ·exact⟨hb,trivial⟩
   ·trivial
  ·trivial
 ·trivial
theorem QbL {m:HM AV} (h:m.tch B):(hval m).tch B:=HM.QpJ h fun _=>trivial
theorem QpN {s:SOp} {ts:List Nat} (hax:∀x bs,ax x=some bs->Pts (ev T x) bs) (h:s.touch i ax=some ts):s.cls≠0->(aop i T s).tch (· ∈ts)/\∀m x asg,s≠ .call m x asg:=by
 intro h0
 have new1:∀{x:Nat->Blk} {r:Nat->Nat->AV},(HM.new .dyn i x fun b g=> .ret (r b g)).tch (· ∈[i]):=fun{x r}=>Qis (by simp) fun _ _=>trivial
 cases s<;>try (exact absurd rfl h0)
 ·rename_i s z
  cases s<;>simp only[SOp.touch,SOp.cls,show Nat.beq 2 0=false from rfl,cond_false,reduceCtorEq,Option.some.injEq]at h
  subst h
  refine⟨QbL ?_,fun _ _ _=>by simp⟩
  unfold aBox;split
  ·exact new1
  ·trivial
 ·simp only[SOp.touch,SOp.cls,show Nat.beq 2 0=false from rfl,cond_false,reduceCtorEq]at h
 ·rename_i s z
  cases s<;>simp only[SOp.touch,SOp.cls,show Nat.beq 2 0=false from rfl,cond_false,reduceCtorEq,Option.some.injEq]at h
  subst h
  refine⟨QbL ?_,fun _ _ _=>by simp⟩
  unfold aBox;split
  ·exact new1
  ·trivial
 ·rename_i fz s sz len z ps
  cases s<;>simp only[SOp.touch,SOp.cls,show Nat.beq 2 0=false from rfl,cond_false,reduceCtorEq,Option.some.injEq]at h
  subst h
  refine⟨QbL ?_,fun _ _ _=>by simp⟩
  unfold aBuildSlice
  split
  ·split
   ·split
    ·split<;>trivial
    ·exact new1
   ·trivial
  ·trivial
 ·exact⟨QbL (QpK (hax _ _ h)),fun _ _ _=>by simp⟩
 ·exact⟨QbL (Qoz (hax _ _ h)),fun _ _ _=>by simp⟩
 ·simp only[SOp.touch,SOp.cls,show Nat.beq 1 0=false from rfl,cond_false,reduceCtorEq]at h
 ·simp only[SOp.touch,SOp.cls,show Nat.beq 2 0=false from rfl,cond_false,reduceCtorEq]at h
 ·simp only[SOp.touch,SOp.cls,show Nat.beq 2 0=false from rfl,cond_false,reduceCtorEq]at h
 ·simp only[SOp.touch,SOp.cls,show Nat.beq 2 0=false from rfl,cond_false,reduceCtorEq]at h
 ·simp only[SOp.touch,SOp.cls,show Nat.beq 2 0=false from rfl,cond_false,reduceCtorEq]at h
 ·simp only[SOp.touch,SOp.cls,show Nat.beq 2 0=false from rfl,cond_false,reduceCtorEq]at h
 ·simp only[SOp.touch,SOp.cls,show Nat.beq 2 0=false from rfl,cond_false,reduceCtorEq]at h
 ·simp only[SOp.touch,SOp.cls,show Nat.beq 1 0=false from rfl,cond_false,reduceCtorEq]at h
 ·rename_i s
  cases s<;>simp only[SOp.touch,SOp.cls,show Nat.beq 2 0=false from rfl,cond_false,reduceCtorEq,Option.some.injEq]at h
  subst h
  exact⟨QbL new1,fun _ _ _=>by simp⟩
 ·rename_i s sz b z l c
  cases s<;>simp only[SOp.touch,SOp.cls,show Nat.beq 2 0=false from rfl,cond_false,reduceCtorEq,Option.some.injEq]at h
  subst h
  refine⟨QbL ?_,fun _ _ _=>by simp⟩
  unfold aMakeSlice
  split
  ·split
   ·exact new1
   ·trivial
  ·trivial
 ·exact⟨QbL (Qnu (hax _ _ h)),fun _ _ _=>by simp⟩
 ·exact⟨QbL (QpM (hax _ _ h)),fun _ _ _=>by simp⟩
 ·exact⟨QbL (QqC (hax _ _ h)),fun _ _ _=>by simp⟩
 ·rename_i s sz b x y
  cases s<;>simp only[SOp.touch,SOp.cls,show Nat.beq 2 0=false from rfl,cond_false,reduceCtorEq]at h
  split at h
  ·rename_i a b ha hb
   cases h
   exact⟨QbL (Qnt (hax _ _ ha) (hax _ _ hb)),fun _ _ _=>by simp⟩
  ·cases h
 ·rename_i sz x y
  simp only[SOp.touch]at h
  split at h
  ·rename_i a b ha hb
   cases h
   exact⟨QbL (QpL (hax _ _ ha) (hax _ _ hb)),fun _ _ _=>by simp⟩
  ·cases h
 ·rename_i m x asg
  exfalso
  simp only[SOp.touch]at h
  have:Nat.beq (SOp.call m x asg).cls 0=false:=by cases m<;>rfl
  simp_all
theorem QgQ {s : SOper} {h h1 : Heap} {v : AV} {f : FP} {ts : List Nat} (hax : ∀ x bs, ax x = some bs -> Pts (ev T x) bs) (ht : s.op.touch i ax = some ts) (hs : StepV P i s T h v h1 f) :
    f.all=false/\∀b,b∈f.R\/b∈f.W->b∈ts:=by
  by_cases h0:s.op.cls=0
  · obtain ⟨k1, k2, k3⟩ := hs.cls (by omega)
    simp_all
  obtain⟨t1,t2⟩:=QpN hax ht h0
  have key:∀{s':SOp},s'=s.op->StepX P i s' T h v h1 f->f.all=false/\∀b,b∈f.R\/b∈f.W->b∈ts:=by
    rintro s' rfl ⟨out,h2,hm,ho⟩
    have fin:f=fpOf ((aop i T s.op).fp h)->f.all=false/\∀b,b∈f.R\/b∈f.W->b∈ts:=by
      rintro rfl;exact⟨rfl,fun b hb=>HM.Qrq _ t1 h b hb⟩
    match out,ho with
    | .val u,ho=>exact fin ho.2.2
    | .call .pure f' args,ho=>exact fin ho.2.2
    | .call .borrow f' args,ho=>exact fin ho.2.2.2
    | .call .heap f' args, ho =>
      exfalso
      cases hso:s.op with
      |call m x asg=>exact t2 m x asg hso
      | _ =>
        rw[hso]at hm
        first
          |(obtain⟨u,hu,he⟩:=QaV hm;cases he)
          |(obtain⟨u,h3,hu,he⟩:=QaS hm;cases he)
          |(simp[aop,HM.run]at hm)
    | .round b' g' args, ho =>
      exfalso
      cases hso:s.op with
      |call m x asg=>exact t2 m x asg hso
      | _ =>
        rw[hso]at hm
        first
          |(obtain⟨u,hu,he⟩:=QaV hm;cases he)
          |(obtain⟨u,h3,hu,he⟩:=QaS hm;cases he)
          |(simp[aop,HM.run]at hm)
  unfold StepV at hs
  grind
theorem Pts.slice {n:Option Nat} {x v:AV} {l h m:Option AV} {bs:List Nat} (hx:Pts x bs) (hv:aSliceC n x l h m=some v):Pts v bs:=by
 obtain⟨cs,h1,h2⟩:=hx
 have key : aSlice x l h m = some v -> Pts v bs := by
  intro hv
  unfold aSlice at hv
  have nil:∀{v:AV},blks v=some []->Pts v bs:=fun h=>⟨[],h,fun b hb=>by cases hb⟩
  split at hv
  ·cases hv
  ·split at hv
   ·split at hv
    ·split at hv
     ·split at hv<;>first|(cases hv;exact nil rfl)|cases hv
     ·split at hv<;>first|(split at hv<;>first|(cases hv;first|exact⟨cs,h1,h2⟩|exact nil rfl)|cases hv)|cases hv
    ·cases hv
   ·cases hv
   ·split at hv
    ·split at hv
     ·cases hv
     ·split at hv
      ·cases hv;exact⟨cs,h1,h2⟩
      ·cases hv
    ·split at hv
     ·cases hv
     ·split at hv
      ·cases hv;exact nil rfl
      ·cases hv
    ·split at hv
     ·cases hv
     ·split at hv
      ·cases hv;exact nil rfl
      ·cases hv
    ·split at hv
     ·cases hv
     ·split at hv
      ·cases hv;exact nil rfl
      ·cases hv
    ·split at hv
     ·cases hv
     ·split at hv
      ·cases hv;exact nil rfl
      ·cases hv
    ·cases hv
 unfold aSliceC at hv
 grind
theorem Pts.iaddr {a:Option Nat} {sz:Nat} {x j v:AV} {bs:List Nat} (hx:Pts x bs) (hv:aIAddr a sz x j=some v):Pts v bs:=by
 obtain⟨cs,h1,h2⟩:=hx
 have nil:∀{v:AV},blks v=some []->Pts v bs:=fun h=>⟨[],h,fun b hb=>by cases hb⟩
 unfold aIAddr at hv
 split at hv
 ·split at hv<;>first|(split at hv<;>first|(cases hv;first|exact⟨cs,h1,h2⟩|exact nil rfl)|cases hv)|cases hv
 ·cases hv
theorem Pts.faddr {off:Nat} {x v:AV} {bs:List Nat} (hx:Pts x bs) (hv:aFAddr off x=some v):Pts v bs:=by
 obtain⟨cs,h1,h2⟩:=hx
 have nil:∀{v:AV},blks v=some []->Pts v bs:=fun h=>⟨[],h,fun b hb=>by cases hb⟩
 unfold aFAddr at hv
 split at hv
 ·cases hv;exact⟨cs,h1,h2⟩
 ·cases hv;exact nil rfl
 ·simp[blks]at h1
 ·cases hv
def HM.gives {α:Type} (R:α->Prop):HM α->Prop
 | .ret a=>R a
 | .fail=>True
 | .look _ k=>∀x,(k x).gives R
 | .put _ _ k=>k.gives R
theorem HM.QoA {α:Type} {R:α->Prop} (m:HM α):m.gives R->∀h a h1,m.run h=some (a,h1)->R a:=by
 induction m with
 |ret a=>intro hr h b h1 hm;simp only[HM.run,Option.some.injEq,Prod.mk.injEq]at hm;rw[<-hm.1];exact hr
 |fail=>intro _ h b h1 hm;simp[HM.run]at hm
 |look b k ih=>intro hr h a h1 hm;exact ih _ (hr _) h a h1 hm
 |put b x k ih=>intro hr h a h1 hm;exact ih hr _ a h1 (Qa3 hm).2
theorem QgR {α:Type} {R:α->Prop} {b g:Nat} {k:List AV->HM α} (hk:∀cs,(k cs).gives R):(HM.cells b g k).gives R:=by
 intro x
 match x with
 |some (.cells g' cs)=>
  simp only
  cases Nat.beq g' g<;>first|exact trivial|exact hk cs
 |some (.map _ _)=>trivial
 |some (.dead _)=>trivial
 |some (.loop ..)=>trivial
 |none=>trivial
theorem Qcs {α:Type} {R:α->Prop} {i:Nat} {x:Nat->Blk} {k:Nat->Nat->HM α} (hk:(k i 0).gives R):(HM.new .dyn i x k).gives R:=by
 intro y
 match y with
 |none=>exact hk
 |some z=>trivial
theorem QoB {R:AV->Prop} {sz:Nat} {v:AV} {k:List AV->Nat->HM AV} (hk:∀ys n,(k ys n).gives R):(aSrc sz v k).gives R:=by
 unfold aSrc
 split
 ·split
  ·refine QgR fun cs => ?_
   split
   ·exact hk _ _
   ·trivial
  ·trivial
 ·split
  ·exact hk _ _
  ·trivial
 ·exact hk _ _
 ·exact hk _ _
 ·exact hk _ _
 ·split
  ·exact hk _ _
  ·trivial
 ·trivial
theorem QkT {sz bytes:Nat} {x y:AV} {a:List Nat} (hx:Pts x a):(aAppend .dyn i sz bytes x y).gives fun v=>Pts v (i::a):=by
 have nil:∀{v:AV},blks v=some []->Pts v (i::a):=fun h=>⟨[],h,fun b hb=>by cases hb⟩
 unfold aAppend
 refine QoB fun ys n=>?_
 split
 ·obtain ⟨cs, h1, h2⟩ := hx
  split
  ·split
   ·exact nil rfl
   ·exact Qcs ⟨_,rfl,fun b hb=>by simp_all⟩
  ·split
   ·exact nil rfl
   ·exact Qcs ⟨_,rfl,fun b hb=>by simp_all⟩
  ·split
   ·exact nil rfl
   ·trivial
  ·simp only [blks, Option.some.injEq] at h1
   subst h1
   split
   ·refine QgR fun cs => ?_
    split
    ·exact⟨_,rfl,fun b hb=>List.mem_cons_of_mem _ (h2 b hb)⟩
    ·trivial
   ·trivial
  ·simp[blks]at h1
  ·trivial
 ·trivial
theorem QeX {s:SOper} {h h1:Heap} {v:AV} {f:FP} {bs:List Nat} (hax:∀x bs,ax x=some bs->Pts (ev T x) bs) (ht:s.op.absV i ax=some bs) (hs:StepV P i s T h v h1 f):Pts v bs:=by
 have self:∀{v:AV},blks v=some [i]->Pts v [i]:=fun h=>⟨_,h,fun b hb=>hb⟩
 have key:∀{s':SOp},s'.absV i ax=some bs->StepX P i s' T h v h1 f->Pts v bs:=by
  rintro s' ht ⟨out,h2,hm,ho⟩
  have hv:∀{m:HM AV},aop i T s'=hval m->(m.gives fun v=>Pts v bs)->Pts v bs:=by
   grind [QaS,HM.QoA]
  have hl:∀{o:Option AV},aop i T s'=lift o->(∀u,o=some u->Pts u bs)->Pts v bs:=by
   grind [QaV]
  cases s'<;>try (simp only[SOp.absV,reduceCtorEq]at ht;done)
  ·simp only [aop, HM.run, Option.some.injEq, Prod.mk.injEq] at hm
   obtain⟨rfl,rfl⟩:=hm
   rw[ho.1];exact hax _ _ ht
  ·rename_i s z
   cases s<;>simp only[SOp.absV,reduceCtorEq,Option.some.injEq]at ht
   subst ht
   refine hv rfl ?_
   unfold aBox;split
   ·exact Qcs (self rfl)
   ·trivial
  ·rename_i s z
   cases s<;>simp only[SOp.absV,reduceCtorEq,Option.some.injEq]at ht
   subst ht
   refine hv rfl ?_
   unfold aBox;split
   ·exact Qcs (self rfl)
   ·trivial
  ·rename_i fz s sz len z ps
   cases fz<;>cases s<;>simp only[SOp.absV,reduceCtorEq,Option.some.injEq]at ht
   subst ht
   refine hv rfl ?_
   unfold aBuildSlice
   split
   ·split
    ·rw[if_neg (by simp)];exact Qcs (self rfl)
    ·trivial
   ·trivial
  ·rename_i s
   cases s<;>simp only[SOp.absV,reduceCtorEq,Option.some.injEq]at ht
   subst ht
   exact hv rfl (Qcs (self rfl))
  ·rename_i s sz b z l c
   cases s<;>simp only[SOp.absV,reduceCtorEq,Option.some.injEq]at ht
   subst ht
   refine hv rfl ?_
   unfold aMakeSlice
   split
   ·split
    ·exact Qcs (self rfl)
    ·trivial
   ·trivial
  ·exact hl rfl fun u hu=>(hax _ _ ht).slice hu
  ·exact hl rfl fun u hu=>(hax _ _ ht).faddr hu
  ·exact hl rfl fun u hu=>(hax _ _ ht).iaddr hu
  ·rename_i s sz b x y
   cases s<;>simp only[SOp.absV,reduceCtorEq,Option.map_eq_some_iff]at ht
   obtain⟨a,ha,rfl⟩:=ht
   exact hv rfl (QkT (hax _ _ ha))
 unfold StepV at hs
 split at hs
 ·exact key ht hs
 ·obtain ⟨t, _, hs⟩ := hs
  split at hs
  ·exact key ht hs
  ·obtain⟨rfl,_⟩:=hs;exact⟨[],rfl,fun b hb=>by cases hb⟩
end
def AbsOK (T0:Tmps) (A:Abs) (T:Tmps):Prop:=∀j bs,absT T0 A j=some bs->Pts (lk T j) bs
theorem AbsOK.opd {T0 T:Tmps} {A:Abs} (h:AbsOK T0 A T):∀x bs,absO T0 A x=some bs->Pts (ev T x) bs:=by
 intro x bs hx
 cases x with
 |t i=>exact h i bs hx
 |c v=>exact⟨bs,hx,fun b hb=>hb⟩
 |f n=>cases hx
 |g n=>cases hx
theorem AbsOK.nil {T:Tmps}:AbsOK T [] T:=fun j bs h=>⟨bs,h,fun b hb=>hb⟩
theorem AbsOK.up {T0 T:Tmps} {A:Abs} {d:Nat} {v:AV} {a:Option (List Nat)} (h:AbsOK T0 A T) (hv:∀bs,a=some bs->Pts v bs):AbsOK T0 ((d,a)::A) (up T d v):=by
 intro j bs hj
 rw[lk_up]
 simp only[absT]at hj
 by_cases e:d=j
 ·simp_all
 ·have : Nat.beq d j = false := by simp_all [Bool.eq_false_iff]
  rw[this]at hj
  rw[if_neg (fun h=>e h.symm)]
  exact h j bs hj
theorem QmI {T0:Tmps}:∀{r:List SOper} {n:Nat} {A:Abs} {T:Tmps} {h:Heap} {K:Tmps->Heap->Nat->Prop} (hA:AbsOK T0 A T) (K':List FP->Tmps->Heap->Nat->Prop),
  (∀fs T h n',fs.length=r.length->(∀(j:Nat) ts,(touches n T0 r A).getD j none=some ts->(fs.getD j ⟨false,[],[]⟩).all=false/\∀b,b∈(fs.getD j ⟨false,[],[]⟩).R\/b∈(fs.getD j ⟨false,[],[]⟩).W->b∈ts)->K T h n'->K' fs T h n')->
  wpR P n r T h K->wpRF P n r T h K'
 |[],n,A,T,h,K,hA,K',hK,hw=>hK [] T h n rfl (fun j ts hj=>by simp_all) hw
 | s :: r, n, A, T, h, K, hA, K', hK, hw => by
  obtain⟨v,h1,f,hs,hr⟩:=hw
  refine⟨v,h1,f,hs,?_⟩
  have hA2:AbsOK T0 (match s.dst with|some d=>(d,s.op.absV n (absO T0 A))::A|none=>A) (putD T s.dst v):=by
   cases s.dst with
   |none=>exact hA
   |some d=>exact AbsOK.up hA fun bs hb=>QeX hA.opd hb hs
  refine QmI hA2 (fun fs T h n=>K' (f::fs) T h n) (fun fs T h n' hl hf hk=>?_) hr
  refine hK (f::fs) T h n' (by simp[hl]) (fun j ts hj=>?_) hk
  cases j with
  |zero=>
   simp only[touches,List.getD_cons_zero]at hj⊢
   exact QgQ hA.opd hj hs
  |succ j=>
   simp only[touches,List.getD_cons_succ]at hj⊢
   exact hf j ts hj
inductive PairsOK (n:Nat) (T:Tmps) (ops:List SOper) (ps:List (Nat×Nat)):Prop
 |mk (h:pairsOK (touches n T ops []) ps=true)
theorem QhX {N:NM} {ops:List SOper} {p:Nat×Nat} {ps:List (Nat×Nat)} {dead:List Nat} {fs:List Fr} {n:Nat} {T:Tmps} {h:Heap} {Q:QC} (hp:PairsOK n T ops (p::ps)):
  wS P N (.region ops (p::ps) dead) fs n T h Q=wR P N ops dead fs n T h Q:=by
 obtain⟨hp⟩:=hp
 apply propext;constructor
 ·intro hw
  have:∀{r:List SOper} {n:Nat} {T:Tmps} {h:Heap} {K:List FP->Tmps->Heap->Nat->Prop} {K':Tmps->Heap->Nat->Prop},(∀fs T h n,K fs T h n->K' T h n)->wpRF P n r T h K->wpR P n r T h K':=by
   intro r
   induction r with
   |nil=>intro n T h K K' hK hw;exact hK _ _ _ _ hw
   |cons s r ih=>
    rintro n T h K K' hK ⟨v,h1,f,hs,hr⟩
    exact⟨v,h1,f,hs,ih (fun fs T h n hk=>hK _ _ _ _ hk) hr⟩
  exact this (fun fs' T h n hk=>hk.2) hw
 ·intro hw
  refine QmI AbsOK.nil _ (fun fs' T h n' hl hf hk=>⟨?_,hk⟩) hw
  rw[List.all_eq_true]
  intro q hq
  have:=List.all_eq_true.1 hp q hq
  split at this
  ·rename_i a b ha hb
   obtain⟨f1,f2⟩:=hf _ _ ha
   obtain⟨g1,g2⟩:=hf _ _ hb
   have hd:∀x y,x∈a->y∈b->x≠y:=by
    grind
   have dj:∀xs ys:List Nat,(∀x∈xs,∀y∈ys,x≠y)->disj xs ys=true:=by
    intro xs ys hh
    unfold disj
    grind
   grind [FP.apart]
  ·cases this
theorem FrzL.nil {h:Heap}:FrzL h [] []:=trivial
theorem FrzL.cons {h:Heap} {x y:AV} {xs ys:List AV} (h1:FrzTo h x y) (h2:FrzL h xs ys):FrzL h (x::xs) (y::ys):=⟨h1,h2⟩
end Go.AM
namespace Go.AM
variable {P:Program}
def setL:HL->Heap->Heap
 |[],h=>h
 |(k,x)::r,h=>(setL r h).set k x
theorem QkU {h:Heap}:setL [] h=h:=rfl
theorem Qjl {k:Nat} {x:Blk} {r:HL} {h:Heap}:setL ((k,x)::r) h=(setL r h).set k x:=rfl
theorem QkV {b:Nat} {h:Heap} (hf:Fresh b h):∀{L:HL},(L.all fun p=>Nat.ble b p.1&&Nat.blt p.1 1099511627775)=true->∀k,(setL L h).get k=if k<b then h.get k else(hp L).get k
 |[],_,k=>by
  simp only[setL,hp]
  split
  ·rfl
  ·rw[hf k (by omega),get_e]
 |(j,x)::r,hL,k=>by
  simp only[List.all_cons,Bool.and_eq_true,Nat.ble_eq,Nat.blt_eq]at hL
  obtain⟨⟨h1,h2⟩,h3⟩:=hL
  have ih:=QkV hf (L:=r) (by simpa using h3) k
  simp only[setL,hp]
  by_cases e:k=j
  ·simp_all [QaA,if_neg]
  simp_all [QaE]
theorem HSpec.of_O {f b:Nat} {args:List AV} {v:AV} {h:Heap} {L:HL} (hn:noRefs args=true) (hs:HSpec P f args .e v (hp L)) (hf:Fresh b h) (hL:(L.all fun p=>Nat.ble b p.1&&Nat.blt p.1 1099511627775)=true):HSpec P f args h v (setL L h):=by
 obtain⟨hc,hs⟩:=hs
 refine⟨hc,fun c w cargs H ha=>?_⟩
 refine(hs (only c.F) w cargs (HRel.only H.inF) (VRels.noRef (c:=c) (c':=only c.F) (fun _ h=>h) _ _ hn ha)).mono ?_
 rintro e w' ⟨cv,c',rfl,E,H',V⟩
 have hnewO:∀k,c'.O k->w.heap.size<=k:=fun k hO=>(E.own k hO).elim (fun h=>h.elim) id
 have hnewF:∀k,c'.F k->c.F k\/w.heap.size<=k:=fun k hF=>(E.frzNew k hF).elim .inl fun h=>h.elim (fun h=>h.elim) .inr
 have hkeep:∀k,k<w.heap.size->w'.heap[k]?=w.heap[k]?:=fun k hk=>E.keep k hk (fun h=>h)
 have hg:=QkV hf hL
 have hlow:∀k,(hp L).get k≠none->b<=k:=fun k hk=>by
  rcases Nat.lt_or_ge k b with h1|h1
  ·exfalso
   apply hk
   have:∀{M:HL},(M.all fun p=>Nat.ble b p.1&&Nat.blt p.1 1099511627775)=true->(hp M).get k=none:=by
    intro M
    induction M with
    |nil=>intro _;exact get_e
    |cons q M ih=>
     obtain⟨j,x⟩:=q
     intro hM
     simp only[List.all_cons,Bool.and_eq_true,Nat.ble_eq,Nat.blt_eq]at hM
     rw[Qa4,QaE hM.1.2 (by omega)];exact ih (by grind)
   exact this hL
  ·exact h1
 have hrlow:∀k g,k<b->c'.ρ k g=none:=fun k g hk=>by
  have:(hp L).get k=none:=by
   grind
  exact H'.fresh k this g
 have hrhigh:∀k g,b<=k->c.ρ k g=none:=fun k g hk=>H.fresh k (hf k hk) g
 let c2:Ctx (okc P):={ρ:=fun k g=>if k<b then c.ρ k g else c'.ρ k g,F:=c'.F,O:=fun k=>c.O k\/c'.O k,base:=c.base}
 have hr1:∀k g,k<b->c2.ρ k g=c.ρ k g:=fun k g hk=>if_pos hk
 have hr2:∀k g,b<=k->c2.ρ k g=c'.ρ k g:=fun k g hk=>if_neg (by omega)
 have hx1:∀k g p,c.ρ k g=some p->c2.ρ k g=some p:=fun k g p hp=>by
  grind
 have hx2:∀k g p,c'.ρ k g=some p->c2.ρ k g=some p:=fun k g p hp=>by
  grind
 have E2:Evo c w c2 w':=⟨E.os,E.tape,E.output,E.size,E.shape,fun k hk _=>hkeep k hk,hx1,fun k hk=>E.frz k hk,fun k hk=>(hnewF k hk).elim .inl fun h=> .inr (.inr h),fun k hk=>hk.elim .inl fun h=> .inr (hnewO k h),rfl⟩
 have X2:Ext c' w' c2 w':=⟨hx2,fun _ h=>h,fun k _ _ h=>h,fun k C e fr h=>⟨C,fr,h,rfl⟩⟩
 refine⟨cv,c2,rfl,E2,?_,VRel.mono X2 _ _ V⟩
 refine⟨fun k hk g=>?_,fun k x hk g hlt=>?_,fun k x hk=>?_,?_,fun k hF hO=>?_,fun k hF=>H'.inF k hF,fun k hO=>hO.elim (fun h=>Nat.lt_of_lt_of_le (H.inO k h) E.size) (H'.inO k)⟩
 ·rw [hg k] at hk
  split at hk
  ·rename_i h1;rw[hr1 k g h1];exact H.fresh k hk g
  ·rename_i h1;rw[hr2 k g (by omega)];exact H'.fresh k hk g
 ·rw [hg k] at hk
  split at hk
  ·rename_i h1;rw[hr1 k g h1];exact H.later k x hk g hlt
  ·rename_i h1;rw[hr2 k g (by omega)];exact H'.later k x hk g hlt
 ·rw [hg k] at hk
  split at hk
  ·refine BRel.mono (E2.ext H.disj) (fun cb base hd hp => ?_) (H.blk k x hk)
   have hO:=H.owned ⟨x,hk,rfl,hd⟩ hp
   exact⟨.inl hO,hkeep cb (H.inO _ hO)⟩
  ·refine BRel.mono X2 (fun cb base hd hp => ?_) (H'.blk k x hk)
   have hO:=H'.owned ⟨x,hk,rfl,hd⟩ hp
   grind
 ·intro b1 g1 b2 g2 cb base1 base2 l1 l2 p1 p2
  have key:∀k g base,Live (setL L h) k g->c2.ρ k g=some (.loc cb base)->(k<b/\Live h k g/\c.ρ k g=some (.loc cb base)/\cb<w.heap.size)\/(b<=k/\Live (hp L) k g/\c'.ρ k g=some (.loc cb base)/\w.heap.size<=cb):=by
   rintro k g base ⟨x,hk,rfl,hd⟩ hp
   rw[hg k]at hk
   split at hk
   ·rename_i h1
    rw[hr1 k _ h1]at hp
    exact .inl ⟨h1,⟨x,hk,rfl,hd⟩,hp,H.inO _ (H.owned ⟨x,hk,rfl,hd⟩ hp)⟩
   ·rename_i h1
    rw[hr2 k _ (by omega)]at hp
    exact .inr ⟨by omega,⟨x,hk,rfl,hd⟩,hp,hnewO _ (H'.owned ⟨x,hk,rfl,hd⟩ hp)⟩
  rcases key b1 g1 base1 l1 p1 with⟨k1,k2,k3,k4⟩|⟨k1,k2,k3,k4⟩<;>rcases key b2 g2 base2 l2 p2 with⟨j1,j2,j3,j4⟩|⟨j1,j2,j3,j4⟩
  ·exact H.inj _ _ _ _ _ _ _ k2 j2 k3 j3
  ·omega
  ·omega
  ·exact H'.inj _ _ _ _ _ _ _ k2 j2 k3 j3
 ·rcases hO with hO | hO
  ·rcases hnewF k hF with h1 | h1
   ·exact H.disj k h1 hO
   ·have:=H.inO k hO;omega
  ·exact H'.disj k hF hO
theorem HSpec.QbA {f:Nat} {sf:SFn} {args:List AV} {v:AV} {L:HL} (n:Nat) (hok:okFn P f sf=true) (hl:Nat.ble args.length sf.n=true)
  (hw:wS P ⟨sf.n,0⟩ sf.body [] n (argT 0 args) .e fun e T k _=>(e= .normal\/e= .ret)/\∃vs,resV T k sf.res=some vs/\Rec 0 [(0,v)] L [(0,resOf vs)] k):HSpec P f args .e v (hp L):=by
 refine HSpec.of_W2 (m:=0) hok (Nat.le_of_ble_eq_true hl) (fun b _=>get_e) ((wpC.toW hw).mono ?_)
 rintro e B ⟨n',h1,vs,h2,ps,ho,hro,hb,ht⟩
 exact⟨h1,vs,_,h2,Rec.maps ho hb,Rec.heap ho hb,Rec.dom ho hro,ht 0⟩
end Go.AM
namespace Go.AM
variable {P:Program}
section
variable {N:NM} {n:Nat} {d:Option Nat} {af dead:List Nat} {r:List SOper} {T:Tmps} {h:Heap} {Q:QC} {fs:List Fr}
theorem QfN (hl:n<1099511627775):wM P N (aMakeMap .dyn n) d r dead fs n T h Q=if h.get n=none then wR P N r dead fs (n+1) (putD T d (.map n 0)) (h.set n (.map 0 [])) Q else False:=by
 have hl':Nat.blt n lim=true:=by simp[Nat.blt];unfold lim;omega
 apply propext;constructor
 ·rintro ⟨v', h1, hm, hk⟩
  unfold aMakeMap HM.new at hm
  simp only[HM.run]at hm
  cases hn:h.get n with
  |none=>
   rw[hn]at hm
   obtain⟨hl,hm⟩:=Qa3 hm
   simp only[HM.run,Option.some.injEq,Prod.mk.injEq]at hm
   obtain⟨rfl,rfl⟩:=hm
   rw[if_pos rfl];exact hk
  |some z=>rw[hn]at hm;cases hm
 ·split
  ·rename_i hn
   intro hk
   refine⟨_,_,?_,hk⟩
   grind [aMakeMap,HM.new,HM.run]
  simp_all
def keyM (k:IntKind) (v:AV) (l:List Nat):List (AV×AV):=l.map fun x:Nat=>(.int k (x:Int),v)
theorem RnM.keyM {m:Nat} {π:Nat->Option Src} {h:Heap} {k:IntKind} {v:AV} (hv:noRef v=true):∀{l:List Nat},RnM m π h (keyM k v l) (keyM k v l)
 |[]=>trivial
 |x::l=>⟨⟨Rn.same rfl,Rn.same hv⟩,RnM.keyM hv (l:=l)⟩
end
theorem wordsM:AV.nilmap.boxable=true/\AV.nilmap.cells=[.nilmap]/\(∀b g,(AV.map b g).cells=[.map b g])/\(∀b g,(AV.map b g).one=true)/\(∀b g,(AV.map b g).boxable=true)/\AV.nilmap.one=true:=
 ⟨rfl,rfl,fun _ _=>rfl,fun _ _=>rfl,fun _ _=>rfl,rfl⟩
theorem HSpec.QcG {f m:Nat} {sf:SFn} {args:List AV} {L0 L:HL} {v:AV} (n:Nat) (hok:okFn P f sf=true) (hl:Nat.ble args.length sf.n=true) (hm:(Nat.ble m 1099511627775&&L0.all fun p=>Nat.blt p.1 m)=true)
  (hv:noRef v=true) (hw:wS P ⟨sf.n,m⟩ sf.body [] n (argT 0 args) (hp L0) fun e T k _=>(e= .normal\/e= .ret)/\∃vs,resV T k sf.res=some vs/\resOf vs=v/\Rec m [] L T k):HSpec P f args (hp L0) v (hp L):=by
 simp only[Bool.and_eq_true,Nat.ble_eq]at hm
 refine HSpec.of_W2 hok (Nat.le_of_ble_eq_true hl) (fun b hb=>?_) ((wpC.toW hw).mono ?_)
 ·have : ∀ M : HL, M.all (fun p => Nat.blt p.1 m) = true -> (hp M).get b = none := by
   intro M
   induction M with
   |nil=>intro _;exact get_e
   |cons q M ih=>
    obtain⟨j,x⟩:=q
    intro hM
    simp only[List.all_cons,Bool.and_eq_true,Nat.blt,Nat.ble_eq]at hM
    rw[Qa4,QaE (by omega) (by omega)];exact ih (by grind [Nat.blt])
  grind
 ·rintro e B ⟨n', h1, vs, h2, h3, ps, ho, hro, hb, ht⟩
  exact⟨h1,vs,_,h2,Rec.maps ho hb,Rec.heap ho hb,Rec.dom ho hro,by simp_all [Rn.same]⟩
end Go.AM
namespace Go.AM
theorem wV:type_of% @words/\type_of% @wordsN/\type_of% @wordsR/\type_of% @QhX/\type_of% @QgL/\type_of% @Qet/\type_of% @QgM/\type_of% @QgN/\type_of% @QgO/\type_of% @QhU/\type_of% @QhV/\type_of% @QhW/\type_of% @Qjl/\type_of% @QkU/\type_of% @SX.exit.injEq/\type_of% @if_true.{1}/\type_of% @if_false.{1}/\type_of% @ne_eq.{1}:=
 ⟨@words,@wordsN,@wordsR,@QhX,@QgL,@Qet,@QgM,@QgN,@QgO,@QhU,@QhV,@QhW,@Qjl,@QkU,@SX.exit.injEq,@if_true,@if_false,@ne_eq⟩
theorem gg {p:Prop} (h:p:=by first|(simp(disch:=omega) only[QaA,QaE,Qa4];done)|(simp(disch:=omega) only[QaA,QaE,Qa4];rfl)):p:=h
end Go.AM
namespace Go.AM
variable {P:Program}
def mapF (k:IntKind) (f:Nat->AV) (l:List Nat):List (AV×AV):=l.map fun x:Nat=>(.int k (x:Int),f x)
def updF (f:Nat->AV) (x:Nat) (v:AV):Nat->AV:=fun y=>if y=x then v else f y
theorem Qjm {k:IntKind} {x y:Nat}:keyEq false [.i] (.int k (x:Int)) (.int k (y:Int))=some (decide (x=y)):=by
  by_cases e:x=y
  · grind [keyEq,eqCells,eqCell]
  · have : ¬ (x : Int) = y := by omega
    grind [keyEq,eqCells,eqCell]
theorem QeY {k:IntKind} {f:Nat->AV} {x:Nat}:∀(l:List Nat) (i:Nat),x∈l->aFind false [.i] (.int k (x:Int)) (mapF k f l) i=some (some (i+l.findIdx (· ==x),f x))
 |[],_,h=>by cases h
 | y :: l, i, hx => by
  show(match keyEq false [.i] (.int k (x:Int)) (.int k (y:Int))with|some true=>_|some false=>_|none=>_)=_
  rw[Qjm,List.findIdx_cons]
  by_cases e:x=y
  ·subst e;simp
  ·have h2 : (y == x) = false := by grind
   rw[decide_eq_false e,h2]
   show aFind false [.i] (.int k (x:Int)) (mapF k f l) (i+1)=_
   rw[QeY l (i+1) ((List.mem_cons.1 hx).resolve_left e)]
   grind
theorem Qeh {k:IntKind} {f:Nat->AV} {x:Nat}:∀(l:List Nat) (i:Nat),x∉l->aFind false [.i] (.int k (x:Int)) (mapF k f l) i=some none
 |[],_,_=>rfl
 |y::l,i,hx=>by
  simp only[List.mem_cons,not_or]at hx
  show(match keyEq false [.i] (.int k (x:Int)) (.int k (y:Int))with|some true=>_|some false=>_|none=>_)=_
  rw[Qjm,decide_eq_false hx.1]
  exact Qeh l (i+1) hx.2
theorem QkW {k:IntKind} {f:Nat->AV} {x:Nat} {v:AV}:∀(l:List Nat),l.Nodup->x∈l->(mapF k f l).set (l.findIdx (· ==x)) (.int k (x:Int),v)=mapF k (updF f x v) l
 |[],_,h=>by cases h
 | y :: l, hn, hx => by
  rw[List.nodup_cons]at hn
  rw[List.findIdx_cons]
  by_cases e:y=x
  ·subst e
   have:mapF k f l=mapF k (updF f y v) l:=List.map_congr_left fun z hz=>by
    grind [updF]
   grind [mapF,updF]
  ·have h2 : (y == x) = false := by simpa using e
   rw[h2]
   simp only[cond_false]
   show(.int k (y:Int),f y)::(mapF k f l).set (l.findIdx (· ==x)) (.int k (x:Int),v)=(.int k (y:Int),updF f x v y)::mapF k (updF f x v) l
   rw[QkW l hn.2 ((List.mem_cons.1 hx).resolve_left fun h=>e h.symm)]
   simp[updF,e]
theorem QpO {k:IntKind} {f:Nat->AV} {x:Nat} {v:AV} {l:List Nat} (hx:x∉l):mapF k f l++[(.int k (x:Int),v)]=mapF k (updF f x v) (l++[x]):=by
 grind [mapF,updF,List.map_congr_left]
theorem RnM.mapF {m:Nat} {π:Nat->Option Src} {h:Heap} {k:IntKind} {f g:Nat->AV}:∀{l:List Nat},(∀x∈l,Rn m π h (f x) (g x))->RnM m π h (mapF k f l) (mapF k g l)
 |[],_=>trivial
 |x::l,hf=>⟨⟨Rn.same rfl,hf x (by simp)⟩,RnM.mapF (l:=l) fun y hy=>hf y (by simp[hy])⟩
section
variable {N:NM} {n:Nat} {d:Option Nat} {af dead:List Nat} {r:List SOper} {T:Tmps} {h:Heap} {Q:QC} {fs:List Fr}
def lkV (ok:Bool) (z:AV):Option (Nat×AV)->AV
 |some (_,v)=>if ok then .tup [v,.bool true]else v
 |none=>if ok then .tup [z,.bool false]else z
def wK (P:Program) (N:NM) (o:Option Blk) (g:Nat) (k z:AV) (ok:Bool) (d:Option Nat) (ops:List SOper) (dead:List Nat) (fs:List Fr) (n:Nat) (T:Tmps) (h:Heap) (Q:QC):Prop:=
 ∃es q,o=some (.map g es)/\aFind false [.i] k es 0=some q/\wR P N ops dead fs (n+1) (putD T d (lkV ok z q)) h Q
theorem Qdq {k:IntKind} {x:Int} {b g:Nat} {z:AV} {ok:Bool} (hu:wK P N (h.get b) g (.int k x) z ok d r dead fs n T h Q):wM P N (aLookup false [.i] z ok (.map b g) (.int k x)) d r dead fs n T h Q:=by
 obtain⟨es,q,hb,hf,hk⟩:=hu
 refine⟨_,_,?_,hk⟩
 have hok:keyOK false [.i] (.int k x)=true:=by simp[keyOK,keyEq,eqCells,eqCell]
 have hg:Nat.beq g g=true:=by simp
 grind [aLookup,HM.entries,HM.run,lkV]
abbrev fmapF (k:IntKind) (f:Nat->AV) (l:List Nat):AV:= .fmap (l.map fun x:Nat=> .int k (x:Int)) (l.map f)
theorem QkX {k:IntKind} {f:Nat->AV} (l:List Nat):(l.map fun x:Nat=>AV.int k (x:Int)).zip (l.map f)=mapF k f l:=by
 induction l with
 |nil=>rfl
 |cons x l ih=>simp only[List.map_cons,List.zip_cons_cons,ih];rfl
theorem Ql3 {k:IntKind} {f:Nat->AV} {x:Nat} {l:List Nat} {z:AV} {ok:Bool} (hx:x∈l) (hk:wR P N r dead fs (n+1) (putD T d (if ok then .tup [f x,.bool true]else f x)) h Q):wM P N (aLookup false [.i] z ok (fmapF k f l) (.int k (x:Int))) d r dead fs n T h Q:=by
 refine⟨_,h,?_,hk⟩
 have e:keyOK false [.i] (AV.int k (x:Int))=true:=by simp[keyOK,keyEq,eqCells,eqCell]
 unfold aLookup
 rw[if_pos e]
 simp only[fmapF]
 rw[QkX,QeY l 0 hx];rfl
theorem QkY {k:IntKind} {f:Nat->AV} {x:Nat} {l:List Nat} {z:AV} {ok:Bool} (hx:x∉l) (hk:wR P N r dead fs (n+1) (putD T d (if ok then .tup [z,.bool false]else z)) h Q):wM P N (aLookup false [.i] z ok (fmapF k f l) (.int k (x:Int))) d r dead fs n T h Q:=by
 refine⟨_,h,?_,hk⟩
 have e:keyOK false [.i] (AV.int k (x:Int))=true:=by simp[keyOK,keyEq,eqCells,eqCell]
 unfold aLookup
 rw[if_pos e]
 simp only[fmapF]
 rw[QkX,Qeh l 0 hx];rfl
theorem FrzTo.mapF {k:IntKind} {f g:Nat->AV} {b gg:Nat} {l:List Nat} (hb:h.get b=some (.map gg (Go.AM.mapF k f l))) (hv:∀x∈l,FrzTo h (f x) (g x)):FrzTo h (.map b gg) (fmapF k g l):=by
  refine FrzTo.map hb ?_ ?_
  · have : (Go.AM.mapF k f l).map (·.1) = l.map fun x : Nat => AV.int k (x : Int) := by simp [Go.AM.mapF]
    simp_all [FrzL.same]
  · have : (Go.AM.mapF k f l).map (·.2) = l.map f := by simp [Go.AM.mapF]
    rw[this]
    clear hb this
    induction l with
    |nil=>trivial
    |cons x l ih=>exact⟨hv x (by simp),ih fun y hy=>hv y (by simp[hy])⟩
theorem wK_in {k:IntKind} {f:Nat->AV} {x g:Nat} {l:List Nat} {z:AV} {ok:Bool} (hx:x∈l) (hk:wR P N r dead fs (n+1) (putD T d (if ok then .tup [f x,.bool true]else f x)) h Q):wK P N (some (.map g (mapF k f l))) g (.int k (x:Int)) z ok d r dead fs n T h Q:=
 ⟨_,_,rfl,QeY l 0 hx,hk⟩
theorem QoC {k:IntKind} {f:Nat->AV} {x g:Nat} {l:List Nat} {z:AV} {ok:Bool} (hx:x∉l) (hk:wR P N r dead fs (n+1) (putD T d (if ok then .tup [z,.bool false]else z)) h Q):wK P N (some (.map g (mapF k f l))) g (.int k (x:Int)) z ok d r dead fs n T h Q:=
 ⟨_,_,rfl,Qeh l 0 hx,hk⟩
def wUF (P:Program) (N:NM) (o:Option Blk) (b g:Nat) (k v:AV) (d:Option Nat) (ops:List SOper) (dead:List Nat) (fs:List Fr) (n:Nat) (T:Tmps) (h:Heap) (Q:QC):Prop:=
 ∃es q,o=some (.map g es)/\aFind false [.i] k es 0=some q/\b<lim/\wR P N ops dead fs (n+1) (putD T d .any) (h.set b (.map g (match q with|some (i,_)=>es.set i (k,v)|none=>es++[(k,v)]))) Q
theorem QbP {k:IntKind} {x:Int} {b g:Nat} {v:AV} (hu:wUF P N (h.get b) b g (.int k x) v d r dead fs n T h Q):wM P N (aMapUpd false [.i] (.map b g) (.int k x) v) d r dead fs n T h Q:=by
 obtain⟨es,q,hb,hf,hl,hk⟩:=hu
 refine⟨_,_,?_,hk⟩
 have hok:keyOK false [.i] (.int k x)=true:=by simp[keyOK,keyEq,eqCells,eqCell]
 have hl':Nat.blt b lim=true:=by simp_all
 have hg:Nat.beq g g=true:=by simp
 grind [aMapUpd,HM.entries,HM.run]
theorem Qrr {k:IntKind} {f:Nat->AV} {x b g:Nat} {l:List Nat} {v:AV} (hn:l.Nodup) (hx:x∈l) (hl:b<1099511627775) (hk:wR P N r dead fs (n+1) (putD T d .any) (h.set b (.map g (mapF k (updF f x v) l))) Q):wUF P N (some (.map g (mapF k f l))) b g (.int k (x:Int)) v d r dead fs n T h Q:=by
 have hl':b<lim:=hl
 refine⟨_,_,rfl,QeY l 0 hx,hl',?_⟩
 simp_all [QkW]
theorem QcD {k:IntKind} {f:Nat->AV} {x b g:Nat} {l:List Nat} {v:AV} (hx:x∉l) (hl:b<1099511627775) (hk:wR P N r dead fs (n+1) (putD T d .any) (h.set b (.map g (mapF k (updF f x v) (l++[x])))) Q):wUF P N (some (.map g (mapF k f l))) b g (.int k (x:Int)) v d r dead fs n T h Q:=by
 have hl':b<lim:=hl
 refine⟨_,_,rfl,Qeh l 0 hx,hl',?_⟩
 simp_all [QpO]
end
end Go.AM
namespace Go.AM
variable {P:Program}
def rowsL (f:Nat->List AV) (ks:List Nat):HL:=ks.map fun k=>(300+k,.cells 0 (f k))
def psL (s:Nat->Src) (ks:List Nat):List (Nat×Src):=ks.map fun k=>(300+k,s k)
theorem Qct {f:Nat->List AV}:∀{ks:List Nat},ks.Nodup->(∀k∈ks,k<1000000)->∀{k:Nat},k∈ks->(hp (rowsL f ks)).get (300+k)=some (.cells 0 (f k))
  |[],_,_,k,h=>by cases h
  | j :: ks, hn, hl, k, h => by
    have hj:=hl j (by simp)
    show((hp (rowsL f ks)).set (300+j) _).get (300+k)=_
    by_cases e:k=j
    · grind [QaA]
    · rw [QaE (by omega) (by omega)]
      exact Qct (List.nodup_cons.1 hn).2 (fun k hk=>hl k (by simp[hk])) (by simp_all)
theorem QeZ {f:Nat->List AV}:∀{ks:List Nat},(∀k∈ks,k<1000000)->∀{b:Nat},(∀k∈ks,b≠300+k)->(hp (rowsL f ks)).get b=none
 |[],_,b,_=>get_e
 |j::ks,hl,b,h=>by
  have hj:=hl j (by simp)
  show((hp (rowsL f ks)).set (300+j) _).get b=_
  rw[QaE (by omega) (h j (by simp))]
  exact QeZ (fun k hk=>hl k (by simp[hk])) (fun k hk=>h k (by simp[hk]))
theorem Qco {b g:Nat} {s:Nat->Src}:∀{ks:List Nat},(∀k∈ks,∀b' g',s k= .blk b' g'->b≠b')->srcNew (.blk b g) (psL s ks)=true
 |[],_=>rfl
 | j :: ks, h => by
  show((match (Src.blk b g),s j with| .blk b _,.blk b' _=> !Nat.beq b b'|_,_=>true)&&srcNew (.blk b g) (psL s ks))=true
  rw[Qco fun k hk=>h k (by simp[hk]),Bool.and_true]
  cases e:s j with
  |nil=>rfl
  |blk b' g'=>
   have:=h j (by simp) b' g' e
   have h2:Nat.beq b b'=false:=by simp_all [Bool.eq_false_iff]
   simp[h2]
theorem Qe0 {s:Nat->Src}:∀{ks:List Nat},srcNew .nil (psL s ks)=true
 |[]=>rfl
 |j::ks=>by
  show((match Src.nil,s j with| .blk b _,.blk b' _=> !Nat.beq b b'|_,_=>true)&&srcNew .nil (psL s ks))=true
  rw[Qe0];rfl
theorem Qdx {s:Nat->Src} {f:Nat->List AV}:∀{ks:List Nat},ks.Nodup->(∀k∈ks,k<1000000)->(∀k∈ks,∀j∈ks,k≠j->∀b g b' g',s k= .blk b g->s j= .blk b' g'->b≠b')->okPs 0 (psL s ks) (rowsL f ks)=true
 |[],_,_,_=>rfl
 | j :: ks, hn, hl, hs => by
  have hj:=hl j (by simp)
  obtain⟨h1,h2⟩:=List.nodup_cons.1 hn
  show okPs 0 ((300+j,s j)::psL s ks) ((300+j,.cells 0 (f j))::rowsL f ks)=true
  simp only[okPs,Bool.and_eq_true,Nat.beq_eq,Nat.blt_eq,Bool.or_eq_true,List.all_eq_true]
  refine⟨⟨⟨⟨trivial,by omega⟩,.inr ⟨?_,?_⟩⟩,?_⟩,Qdx h2 (fun k hk=>hl k (by simp[hk])) (fun k hk i hi=>hs k (by simp[hk]) i (by simp[hi]))⟩
  ·cases s j with
   |nil=>rfl
   |blk b g=>simp
  ·cases e : s j with
   |nil=>exact Qe0
   |blk b g=>exact Qco fun k hk b' g' e'=>hs j (by simp) k (by simp[hk]) (fun e=>h1 (e▸hk)) b g b' g' e e'
  ·rintro ⟨b, x⟩ hp
   obtain⟨k,hk,e⟩:=List.mem_map.1 hp
   cases e
   have:k≠j:=fun e=>h1 (e▸hk)
   simp_all [Bool.eq_false_iff]
theorem Qhi {s:Nat->Src}:∀{ks:List Nat} {k:Nat},k∈ks->lkS (psL s ks) (300+k)=some (s k)
 |[],k,h=>by cases h
 |j::ks,k,h=>by
  show(if 300+k=300+j then some (s j)else lkS (psL s ks) (300+k))=_
  by_cases e:k=j
  ·subst e;simp
  ·rw[if_neg (by omega)];exact Qhi (by simp_all)
theorem Qdj {m:Nat} {π:Nat->Option Src} {h:Heap} {f:Nat->List AV}:∀{ks:List Nat},(∀k∈ks,RB m π h [(300+k,.cells 0 (f k))])->RB m π h (rowsL f ks)
 |[],_=>trivial
 |j::ks,hk=>⟨(hk j (by simp)).1,Qdj fun k h=>hk k (by simp[h])⟩
mutual
theorem QgS:∀v:AV,flatV v=true->noRef v=true
 | .any,_=>rfl
 | .bool _,_=>rfl
 | .int _ _,_=>rfl
 | .str _,_=>rfl
 | .agg cs,h=>by simp only[flatV]at h;simp only[noRef];exact QbT cs h
 | .tup cs,h=>by simp only[flatV]at h;simp only[noRef];exact QbT cs h
 | .nilptr,_=>rfl
 | .ptr _ _ _,h=>by simp[flatV]at h
 | .fptr _,h=>by simp[flatV]at h
 | .nilsl,_=>rfl
 | .sl _ _ _ _ _,h=>by simp[flatV]at h
 | .fsl _ _ _,h=>by simp[flatV]at h
 | .esl,_=>rfl
 | .nsl,_=>rfl
 | .nilmap,_=>rfl
 | .map _ _,h=>by simp[flatV]at h
 | .fmap _ _,h=>by simp[flatV]at h
 | .nilfn,_=>rfl
 | .fn f x y,h=>by
  simp only[flatV,Bool.and_eq_true]at h
  simp only[noRef,Bool.and_eq_true]
  exact⟨QbT x h.1,QbT y h.2⟩
 | .nilif,_=>rfl
 | .ifc t v,h=>by simp only[flatV]at h;simp only[noRef];exact QgS v h
 | .typed _ _ _,h=>by simp[flatV]at h
theorem QbT:∀l:List AV,flatVs l=true->noRefs l=true
 |[],_=>rfl
 |x::l,h=>by
  simp only[flatVs,Bool.and_eq_true]at h
  simp only[noRefs,Bool.and_eq_true]
  exact⟨QgS x h.1,QbT l h.2⟩
end
theorem FSpec.QbA {f b len sz:Nat} {args cs:List AV} (hs:HSpec P f args .e (.sl b 0 0 len sz) (hp [(b,.cells 0 cs)])) (ha:noRefs args=true) (hf:flatVs cs=true) (hl:cs.length=len*sz) (hb:Nat.blt b 1099511627775=true):
  FSpec P f args (.fsl cs len sz):=by
 obtain⟨hc,hs⟩:=hs
 refine⟨hc,ha,by simp_all [noRef,QbT],fun F w cargs hF hargs=>(hs (only F) w cargs (HRel.only hF) hargs).mono ?_⟩
 rintro e w' ⟨cv,c',rfl,E,H',V⟩
 have hnew:∀k,c'.O k->w.heap.size<=k:=fun k hO=>(E.own k hO).elim (fun h=>h.elim) id
 refine⟨cv,c'.O,rfl,?_,fun k hO=>⟨hnew k hO,H'.inO k hO⟩,RnO.sl (h:=hp [(b,.cells 0 cs)]) (by simp_all [hp,QaA]) hf hl _ c' w' cv H' V⟩
 refine⟨E.os,E.tape,E.output,E.size,E.shape,fun k hk _=>E.keep k hk (fun h=>h),fun b g p hb=>absurd hb (Nat.not_lt_zero _),fun k hk=> .inl hk,fun k hk=>?_,fun k hk=>hk.elim,rfl⟩
 rcases hk with hk|hk
 ·exact .inl hk
 simp_all
end Go.AM
namespace Go.AM
theorem Qeu {b g c k g':Nat} {ps:List (Nat×Src)} (hb:b≠k) (h:srcNew (.blk b g) ps=true):srcNew (.blk b g) ((c,.blk k g')::ps)=true:=by
 simp_all [Bool.eq_false_iff,srcNew]
theorem QfO {b k g:Nat} {x:Blk} {ps:List (Nat×Src)} {L:HL} (hb:b<1099511627775) (hn:srcNew (.blk k g) ps=true) (hd:∀p∈ps,p.1≠b) (h:okPs 0 ps L=true):okPs 0 ((b,.blk k g)::ps) ((b,x)::L)=true:=by
 simp only[okPs,Bool.and_eq_true,Nat.beq_eq,Nat.blt_eq,Bool.or_eq_true,List.all_eq_true]
 refine⟨⟨⟨⟨trivial,by omega⟩,.inr ⟨by simp,hn⟩⟩,fun p hp=>?_⟩,h⟩
 have h2:Nat.beq p.1 b=false:=by rw[Bool.eq_false_iff];simpa using hd p hp
 simp[h2]
theorem Qei {s:Nat->Src} {ks:List Nat} {p:Nat×Src} (h:p∈psL s ks):300<=p.1:=by
 obtain⟨k,_,rfl⟩:=List.mem_map.1 h;simp
theorem Qe1 {s:Nat->Src} {f:Nat->List AV} {ks:List Nat} {x1 x2 x3:Blk} {k1 k2 k3 g1 g2 g3:Nat} (hn:ks.Nodup) (hl:∀k∈ks,k<1000000) (hs:∀k∈ks,∀j∈ks,k≠j->∀b g b' g',s k= .blk b g->s j= .blk b' g'->b≠b')
  (hnew:∀k∈ks,∀b g,s k= .blk b g->k1≠b/\k2≠b/\k3≠b) (h12:k1≠k2) (h13:k1≠k3) (h23:k2≠k3):
  okPs 0 ((70,.blk k1 g1)::(71,.blk k2 g2)::(72,.blk k3 g3)::psL s ks) ((70,x1)::(71,x2)::(72,x3)::rowsL f ks)=true:=by
 have n1:=Qco (b:=k1) (g:=g1) (s:=s) (ks:=ks) fun k hk b' g' e=>(hnew k hk b' g' e).1
 have n2:=Qco (b:=k2) (g:=g2) (s:=s) (ks:=ks) fun k hk b' g' e=>(hnew k hk b' g' e).2.1
 have n3:=Qco (b:=k3) (g:=g3) (s:=s) (ks:=ks) fun k hk b' g' e=>(hnew k hk b' g' e).2.2
 refine QfO (by omega) (Qeu h12 (Qeu h13 n1)) ?_ (QfO (by omega) (Qeu h23 n2) ?_ (QfO (by omega) n3 ?_ (Qdx hn hl hs)))
 ·intro p hp
  simp only[List.mem_cons]at hp
  rcases hp with rfl|rfl|hp
  ·simp
  ·simp
  grind [Qei]
 ·intro p hp
  simp only[List.mem_cons]at hp
  rcases hp with rfl|hp
  ·simp
  grind [Qei]
 ·intro p hp
  grind [Qei]
theorem Qb4 {s:Nat->Src} {ks:List Nat} {k:Nat} {q1 q2 q3:Src} (hk:k∈ks):ow 0 ((70,q1)::(71,q2)::(72,q3)::psL s ks) (300+k)=some (s k):=by
 unfold ow
 rw[if_neg (Nat.not_lt_zero _)]
 simp only[lkS]
 rw[if_neg (by omega),if_neg (by omega),if_neg (by omega)]
 exact Qhi hk
end Go.AM
namespace Go.AM
variable {P:Program}
abbrev Claims:=List (Nat×List Nat)
def clm:Claims->Nat->Option (List Nat)
 |[],_=>none
 |(j,bs)::r,d=>bif Nat.beq j d then some bs else clm r d
def absH (C:Claims) (d:Nat) (a:Option (List Nat)):Option (List Nat):=match clm C d with|some bs=>some bs|none=>a
def touch2 (i:Nat) (ax:Opd->Option (List Nat)):SOp->Option (List Nat)
 | .call .pure _ _=>some []
 |s=>s.touch i ax
theorem QfP {i:Nat} {T:Tmps} {ax:Opd->Option (List Nat)} {s:SOper} {h h1:Heap} {v:AV} {f:FP} {ts:List Nat} (hax:∀x bs,ax x=some bs->Pts (ev T x) bs) (ht:touch2 i ax s.op=some ts) (hs:StepV P i s T h v h1 f):
  f.all=false/\∀b,b∈f.R\/b∈f.W->b∈ts:=by
 by_cases hc:∃x asg,s.op= .call .pure x asg
 ·obtain ⟨x, asg, hop⟩ := hc
  have key:StepX P i s.op T h v h1 f->f.all=false/\∀b,b∈f.R\/b∈f.W->b∈ts:=by
   rintro⟨out,h2,hm,ho⟩
   rw[hop]at hm ho
   simp only[aop]at hm ho
   cases hx:ev T x with
   |fn f' first cap=>
    rw[hx]at hm ho
    simp only[aCall,HM.run,Option.some.injEq,Prod.mk.injEq]at hm
    obtain⟨rfl,rfl⟩:=hm
    simp only[aCall,HM.fp]at ho
    obtain⟨_,_,rfl⟩:=ho
    exact⟨rfl,fun b hb=>by simp[fpOf]at hb⟩
   |_=>rw[hx]at hm;simp[aCall,HM.run]at hm
  unfold StepV at hs
  grind
 ·refine QgQ hax ?_ hs
  simp_all [touch2]
def touchesH (C:Claims) (n:Nat) (T:Tmps):List SOper->Abs->List (Option (List Nat))
 |[],_=>[]
 |s::r,A=>touch2 n (absO T A) s.op::touchesH C (n+1) T r (match s.dst with|some d=>(d,absH C d (s.op.absV n (absO T A)))::A|none=>A)
def ssa (C:Claims):List SOper->Bool
 |[]=>true
 |s::r=>(match s.dst with|some d=>(clm C d).isNone||r.all fun s'=>(match s'.dst with|some e=> !Nat.beq e d|none=>true)|none=>true)&&ssa C r
theorem QmJ:∀{r:List SOper} {n:Nat} {T:Tmps} {h:Heap} {K:Tmps->Heap->Nat->Prop},wpR P n r T h K->∃T' h' n',K T' h' n'/\∀d,(∀s∈r,s.dst≠some d)->lk T' d=lk T d
 |[],n,T,h,K,hk=>⟨T,h,n,hk,fun _ _=>rfl⟩
 |s::r,n,T,h,K,⟨v,h1,f,hs,hr⟩=>by
  obtain⟨T',h',n',hk,he⟩:=QmJ hr
  refine⟨T',h',n',hk,fun d hd=>?_⟩
  simp_all [QbI]
theorem QkZ {T0:Tmps} {C:Claims}:∀{r:List SOper} {n:Nat} {A:Abs} {T:Tmps} {h:Heap} {K:Tmps->Heap->Nat->Prop} (hA:AbsOK T0 A T) (K':List FP->Tmps->Heap->Nat->Prop)
  (hC:∀T h n,K T h n->∀d bs,clm C d=some bs->Pts (lk T d) bs) (hssa:ssa C r=true),
  (∀fs T h n',fs.length=r.length->(∀(j:Nat) ts,(touchesH C n T0 r A).getD j none=some ts->(fs.getD j ⟨false,[],[]⟩).all=false/\∀b,b∈(fs.getD j ⟨false,[],[]⟩).R\/b∈(fs.getD j ⟨false,[],[]⟩).W->b∈ts)->K T h n'->K' fs T h n')->
  wpR P n r T h K->wpRF P n r T h K'
 |[],n,A,T,h,K,hA,K',hC,hssa,hK,hw=>hK [] T h n rfl (fun j ts hj=>by simp_all) hw
 | s :: r, n, A, T, h, K, hA, K', hC, hssa, hK, hw => by
  obtain⟨v,h1,f,hs,hr⟩:=hw
  simp only[ssa,Bool.and_eq_true]at hssa
  obtain⟨hs1,hs2⟩:=hssa
  refine⟨v,h1,f,hs,?_⟩
  have hA2:AbsOK T0 (match s.dst with|some d=>(d,absH C d (s.op.absV n (absO T0 A)))::A|none=>A) (putD T s.dst v):=by
   cases e:s.dst with
   |none=>exact hA
   | some d =>
    refine AbsOK.up hA fun bs hb=>?_
    unfold absH at hb
    split at hb
    ·rename_i bs' hc
     cases hb
     obtain⟨T',h',n',hk,he⟩:=QmJ hr
     have h3:=hC T' h' n' hk d _ hc
     rw[he d ?_,QbI,if_pos e]at h3
     ·exact h3
     ·intro s' hs'
      rw[e]at hs1
      simp only[hc,Option.isNone_some,Bool.false_or,List.all_eq_true]at hs1
      have:=hs1 s' hs'
      intro e2
      simp_all
    ·exact QeX hA.opd hb hs
  refine QkZ hA2 (fun fs T h n=>K' (f::fs) T h n) hC hs2 (fun fs T h n' hl hf hk=>?_) hr
  refine hK (f::fs) T h n' (by simp[hl]) (fun j ts hj=>?_) hk
  cases j with
  |zero=>
   simp only[touchesH,List.getD_cons_zero]at hj⊢
   exact QfP hA.opd hj hs
  |succ j=>
   simp only[touchesH,List.getD_cons_succ]at hj⊢
   exact hf j ts hj
def Clms (T:Tmps):Claims->Prop
 |[]=>True
 |(d,bs)::r=>Pts (lk T d) bs/\Clms T r
theorem Clms.get {T:Tmps}:∀{C:Claims},Clms T C->∀d bs,clm C d=some bs->Pts (lk T d) bs
 |[],_,d,bs,h=>by cases h
 | (j, cs) :: r, hh, d, bs, h => by
  simp only[clm]at h
  cases e:Nat.beq j d with
  |true=>
   rw[e]at h
   simp only[cond_true,Option.some.injEq]at h
   have:j=d:=by simpa using e
   subst this;subst h;exact hh.1
  |false=>rw[e]at h;exact Clms.get hh.2 d bs h
theorem Qe2 (C:Claims) {N:NM} {ops:List SOper} {p:Nat×Nat} {ps:List (Nat×Nat)} {dead:List Nat} {fs:List Fr} {n:Nat} {T:Tmps} {h:Heap} {Q:QC} (hssa:ssa C ops=true) (hp:pairsOK (touchesH C n T ops []) (p::ps)=true)
  (hw:wR P N ops [] [] n T h fun e T h n=>Clms T C/\wX P N .normal fs n (rm T dead) h Q):wS P N (.region ops (p::ps) dead) fs n T h Q:=by
 have rm0:∀T:Tmps,rm T []=T:=by
  intro T
  induction T with
  |nil=>rfl
  |cons p T ih=>obtain⟨j,v⟩:=p;simp[rm,ih]
 refine QkZ (C:=C) (K:=fun T h n=>Clms T C/\wX P N .normal fs n (rm T dead) h Q) AbsOK.nil _ (fun T h n hk d bs hc=>hk.1.get d bs hc) hssa (fun fs' T h n' hl hf hk=>⟨?_,hk.2⟩) ?_
 ·rw [List.all_eq_true]
  intro q hq
  have:=List.all_eq_true.1 hp q hq
  split at this
  ·rename_i a b ha hb
   obtain⟨f1,f2⟩:=hf _ _ ha
   obtain⟨g1,g2⟩:=hf _ _ hb
   have hd:∀x y,x∈a->y∈b->x≠y:=by
    grind
   have dj:∀xs ys:List Nat,(∀x∈xs,∀y∈ys,x≠y)->disj xs ys=true:=by
    intro xs ys hh
    unfold disj
    grind
   grind [FP.apart]
  ·cases this
 ·have hw' : wpR P n ops T h fun T h n => Clms (rm T []) C /\ wX P N .normal fs n (rm (rm T []) dead) h Q := hw
  simp_all
end Go.AM
namespace Go.AM
variable {P:Program} {N:NM} {n:Nat} {d:Option Nat} {af dead:List Nat} {r:List SOper} {T:Tmps} {h:Heap} {Q:QC} {fs:List Fr}
def wAn (P:Program) (N:NM) (ys:Option (List AV)) (len sz bytes:Nat) (d:Option Nat) (ops:List SOper) (dead:List Nat) (fs:List Fr) (n:Nat) (T:Tmps) (h:Heap) (Q:QC):Prop:=
 ∃y,ys=some y/\(len*bytes<=140737488355328/\len<=140737488355328)/\y.all AV.one=true/\wN P N y (.sl n 0 0 len sz) d ops dead fs n T h Q
theorem Qk0 {sz bytes b g off len:Nat} (hl:0<len):wM P N (aAppend .dyn n sz bytes .nilsl (.sl b g off len sz)) d r dead fs n T h Q=wAn P N (srcB (h.get b) g off len sz) len sz bytes d r dead fs n T h Q:=by
 obtain⟨k,rfl⟩:∃k,len=k+1:=⟨len-1,by omega⟩
 rw[Ql2]
 rfl
theorem QpP {ys:List AV} {len sz bytes:Nat} (h1:len*bytes<=140737488355328) (h2:len<=140737488355328):wAn P N (some ys) len sz bytes d r dead fs n T h Q=if ys.all AV.one=true then wN P N ys (.sl n 0 0 len sz) d r dead fs n T h Q else False:=by
 by_cases ho:ys.all AV.one=true
 ·rw [if_pos ho]; apply propext; constructor
  ·rintro⟨y,e1,_,_,h5⟩;simp_all
  ·intro h5;exact⟨ys,rfl,⟨h1,h2⟩,ho,h5⟩
 ·rw [if_neg ho]; apply propext; constructor
  ·rintro⟨y,e1,_,h4,h5⟩;grind
  simp_all
end Go.AM
namespace Go.AM
theorem Qjn {ts:List (Option (List Nat))}:pairsOK ts []=true:=rfl
theorem QdD {ts:List (Option (List Nat))} {i j:Nat} {a b:List Nat} {ps:List (Nat×Nat)} (h1:ts.getD i none=some a) (h2:ts.getD j none=some b) (hd:∀x∈a,x∉b) (hr:pairsOK ts ps=true):pairsOK ts ((i,j)::ps)=true:=by
 simp_all [pairsOK]
end Go.AM
namespace Go.AM
theorem Rn.nilK {m:Nat} {π:Nat->Option Src} {h:Heap} {sz:Nat}:Rn m π h (.fsl [] 0 sz) .nilsl:=fun _ c w v H M hv=>by
 simp_all [VRel]
end Go.AM
namespace Go.AM
variable {P:Program}
end Go.AM
namespace Go.AM
variable {P:Program}
theorem HSpec.empty {f sz:Nat} {asg:List AV} {h h':Heap} {v:AV} (h1:HSpec P f (.nilsl::asg) h v h') (h2:HSpec P f (.nsl::asg) h v h'):HSpec P f (.fsl [] 0 sz::asg) h v h':=by
 obtain⟨hc,h1⟩:=h1
 obtain⟨_,h2⟩:=h2
 refine⟨hc,fun c w cargs H ha=>?_⟩
 simp only[VRels]at ha
 obtain⟨u,us,e,hv,hr⟩:=ha
 simp only[VRel]at hv
 rcases hv with⟨⟨a,rfl⟩,_⟩|⟨cb,off,cap,C,_,_,rfl,_⟩
 ·cases a with
  |none=>exact h1 c w cargs H (by rw[e];simp only[VRels];exact⟨_,_,rfl,by simp[VRel],hr⟩)
  |some a=>exact h2 c w cargs H (by rw[e];simp only[VRels];exact⟨_,_,rfl,by simp[VRel],hr⟩)
 ·exact h2 c w cargs H (by rw[e];simp only[VRels];exact⟨_,_,rfl,by simp[VRel],hr⟩)
end Go.AM
namespace Go.AM
theorem QhY {x:Src}:∀{A B:List (Nat×Src)},srcNew x A=true->srcNew x B=true->srcNew x (A++B)=true
 |[],B,_,h=>h
 |(j,t)::A,B,h1,h2=>by
  simp only[srcNew,Bool.and_eq_true]at h1
  rw[List.cons_append]
  simp only[srcNew,Bool.and_eq_true]
  exact⟨h1.1,QhY h1.2 h2⟩
theorem Qe3 {s:Nat->Src} {f:Nat->List AV} {ks:List Nat} (hr:okPs 0 (psL s ks) (rowsL f ks)=true):∀{A:List (Nat×Src)} {L:HL},okPs 0 A L=true->(∀p∈A,p.1<300)->
  (∀p∈A,∀b g,p.2= .blk b g->∀k∈ks,∀b' g',s k= .blk b' g'->b≠b')->okPs 0 (A++psL s ks) (L++rowsL f ks)=true
 |[],[],_,_,_=>hr
 |[],_::_,h,_,_=>by simp[okPs]at h
 |_::_,[],h,_,_=>by simp[okPs]at h
 | (b, t) :: A, (b', x) :: L, h, h3, hs => by
  simp only[okPs,Bool.and_eq_true,Bool.or_eq_true]at h
  obtain⟨⟨⟨⟨h1,h2⟩,h4⟩,h5⟩,h6⟩:=h
  rw[List.cons_append,List.cons_append]
  simp only[okPs,Bool.and_eq_true,Bool.or_eq_true]
  refine⟨⟨⟨⟨h1,h2⟩,?_⟩,?_⟩,Qe3 hr h6 (fun p hp=>h3 p (by simp[hp])) (fun p hp=>hs p (by simp[hp]))⟩
  ·rcases h4 with h4 | ⟨h4, h7⟩
   ·exact .inl h4
   ·refine .inr ⟨h4, QhY h7 ?_⟩
    cases e:t with
    |nil=>exact Qe0
    |blk k g=>exact Qco fun j hj b' g' e'=>hs (b,t) (by simp) k g e j hj b' g' e'
  ·rw [List.all_append, h5, Bool.true_and, List.all_eq_true]
   intro p hp
   have h7:=Qei hp
   have h8:=h3 (b,t) (by simp)
   have h9:Nat.beq p.1 b=false:=by
    rw[Bool.eq_false_iff]
    intro h9
    have:p.1=b:=by simpa using h9
    omega
   simp[h9]
theorem QeE {s:Nat->Src} {ks:List Nat} {k:Nat} (hk:k∈ks):∀{A:List (Nat×Src)},(∀p∈A,p.1<300)->ow 0 (A++psL s ks) (300+k)=some (s k):=by
 have key:∀{A:List (Nat×Src)},(∀p∈A,p.1<300)->lkS (A++psL s ks) (300+k)=some (s k):=by
  intro A
  induction A with
  |nil=>intro _;exact Qhi hk
  |cons p A ih=>
   intro h
   obtain⟨j,t⟩:=p
   have:=h (j,t) (by simp)
   dsimp only at this
   rw[List.cons_append]
   simp only[lkS]
   rw[if_neg (by omega)]
   exact ih fun p hp=>h p (by simp[hp])
 grind [ow]
theorem QeF {m:Nat} {π:Nat->Option Src} {h:Heap} {f g:Nat->AV}:∀{ks:List Nat},(∀k∈ks,Rn m π h (f k) (g k))->RnL m π h (ks.map f) (ks.map g)
 |[],_=>trivial
 |j::ks,hk=>⟨hk j (by simp),QeF fun k h=>hk k (by simp[h])⟩
theorem RnO.agg {h:Heap} {xs ys:List AV} (hL:RnOL h xs ys):RnO h (.agg xs) (.agg ys):=fun _ c w v H hv=>by
 simp only[VRel]at hv⊢
 obtain⟨vs,rfl,hv⟩:=hv
 exact⟨vs,rfl,hL.rels H hv⟩
theorem RnO.nil {h:Heap} {sz:Nat}:RnO h (.fsl [] 0 sz) .nilsl:=fun _ c w v H hv=>by
 simp_all [VRel]
theorem Qnv {k:IntKind} {f g:Nat->AV} {l:List Nat} (h:∀x∈l,f x=g x):mapF k f l=mapF k g l:=by
 simp_all [mapF]
theorem QoD {f:Nat->AV} {n i:Nat} {v:AV} (h:i<n):((List.range n).map f).set i v=(List.range n).map (updF f i v):=by
 apply List.ext_getElem?
 intro j
 rw[List.getElem?_set]
 by_cases e:i=j
 ·subst e
  rw[if_pos rfl,if_pos (by simpa using h)]
  simp[updF,h]
 grind [updF]
theorem Qjo {f:Nat->AV} {n i:Nat} (h:i<n):((List.range n).map f)[i]?=some (f i):=by simp[h]
end Go.AM
namespace Go.AM
variable {P:Program}
theorem HSpec.freeze {f b g len sz : Nat} {args ds : List AV} {h h1 : Heap} (S : HSpec P f args h (.sl b g 0 len sz) h1) (hb : h1.get b = some (.cells g ds)) (hf : flatVs ds = true) (hl : len * sz <= ds.length)
    (hlim:Nat.blt b 1099511627775=true):HSpec P f args h (.fsl (ds.take (len*sz)) len sz) (h1.set b (.dead g)):=by
  have hlim':b<1099511627775:=by simp_all
  obtain⟨hc,hs⟩:=S
  refine⟨hc,fun c w cargs H ha=>(hs c w cargs H ha).mono ?_⟩
  rintro e w' ⟨cv,c',rfl,E,H',V⟩
  have hlive:Live h1 b g:=⟨_,hb,rfl,fun _=>by simp⟩
  let c2:Ctx (okc P):={c' with F:=fun k=>c'.F k\/∃base,c'.ρ b g=some (.loc k base),O:=fun k=>c'.O k/\¬∃base,c'.ρ b g=some (.loc k base)}
  have hset:∀k,(h1.set b (.dead g)).get k=if k=b then some (.dead g)else h1.get k:=fun k=>by
    by_cases e:k=b
    · subst e;rw[QaA hlim',if_pos rfl]
    simp_all [QaE]
  have hlv:∀k y,Live (h1.set b (.dead g)) k y->k≠b/\Live h1 k y:=by
    rintro k y ⟨x,hk,hg,hd⟩
    rw[hset]at hk
    split at hk
    · grind
    · rename_i e;exact⟨e,x,hk,hg,hd⟩
  have E2:Evo c w c2 w':=⟨E.os,E.tape,E.output,E.size,E.shape,E.keep,E.rho,fun k hk=> .inl (E.frz k hk),fun k hk=>by
    rcases hk with hk|⟨base,hk⟩
    · exact E.frzNew k hk
    · rcases E.own k (H'.owned hlive hk) with h | h
      · simp_all
      omega,fun k hk=>E.own k hk.1,E.base⟩
  refine⟨cv,c2,rfl,E2,⟨fun k hk y=>?_,fun k x hk y hlt=>?_,fun k x hk=>?_,fun k y k' y' cb base base' l1 l2 p1 p2=>H'.inj k y k' y' cb base base' (hlv _ _ l1).2 (hlv _ _ l2).2 p1 p2,fun k hF hO=>?_,fun k hF=>?_,fun k hO=>H'.inO k hO.1⟩,?_⟩
  · rw [hset] at hk
    split at hk
    · cases hk
    · exact H'.fresh k hk y
  · rw [hset] at hk
    split at hk
    · rename_i e; subst e; cases hk
      exact H'.later k _ hb y hlt
    · exact H'.later k x hk y hlt
  · rw [hset] at hk
    split at hk
    · cases hk;trivial
    · rename_i e
      refine BRel.mono (c:=c') (c':=c2) (w:=w') (w':=w') ⟨fun _ _ _ h=>h,fun _ h=> .inl h,fun _ _ _ h=>h,fun _ C _ fr h=>⟨C,fr,h,rfl⟩⟩ (fun cb base hd hp=>?_) (H'.blk k x hk)
      have hlk:Live h1 k x.gen:=⟨x,hk,rfl,hd⟩
      exact⟨⟨H'.owned hlk hp,fun⟨base',hp'⟩=>e (H'.inj _ _ _ _ _ _ _ hlk hlive hp hp')⟩,rfl⟩
  · rcases hF with hF | hF
    · exact H'.disj k hF hO.1
    grind
  · rcases hF with hF | ⟨base, hF⟩
    · exact H'.inF k hF
    · exact H'.inO k (H'.owned hlive hF)
  · simp only [VRel] at V
    rcases V with⟨hp,rfl,_,rfl⟩|⟨cb,base,o,cap,C,e,fr,hp,rfl,hlc,hC,hcap⟩
    · simp_all [VRel]
    · obtain ⟨C', e', fr', hO, hC', hfr, hbs, hpre⟩ := H'.here hb hp
      rw[hC]at hC';cases hC'
      have hF:c2.F cb:= .inr ⟨base,hp⟩
      by_cases h0:cap=0
      · have hl0 : len = 0 := by omega
        subst hl0
        simp only[VRel]
        simp_all
      · obtain ⟨rfl, hbd⟩ := hcap.resolve_left h0
        have hp2:=VPre.flat (c':=c2) (w':=w') hf hpre
        have hp3:=VPre_take2 (len*sz) hp2
        simp only[VRel]
        grind
where
  VPre_take2 {c:Ctx (okc P)} {w:World}:∀(n:Nat) {xs:List AV} {vs:List Value},VPre c w xs vs->VPre c w (xs.take n) vs
    |0,xs,vs,h=>by simp[VPre]
    |n+1,[],vs,h=>by simp[VPre]
    | n + 1, x :: xs, vs, h => by
      simp only[VPre]at h
      obtain⟨v,vs',rfl,h1,h2⟩:=h
      simp only[List.take_succ_cons,VPre]
      exact⟨v,vs',rfl,h1,VPre_take2 n h2⟩
end Go.AM
namespace Go.AM
variable {P:Program}
def OnlyD (D:Nat->Prop) (args:List AV):Prop:=∀(ok:Okc) (c c1:Ctx ok) (w:World) (vs:List Value),(∀b g,D b->c1.ρ b g=c.ρ b g)->(∀k,c.F k->c1.F k)->VRels c w args vs->VRels c1 w args vs
theorem OnlyD.nil {D:Nat->Prop}:OnlyD D []:=fun _ c c1 w vs _ _ h=>by grind [VRels]
theorem OnlyD.cons {D:Nat->Prop} {x:AV} {xs:List AV} (hx:OnlyD D [x]) (h:OnlyD D xs):OnlyD D (x::xs):=fun ok c c1 w vs h1 h2 hv=>by
 simp only[VRels]at hv⊢
 obtain⟨v,vs',rfl,h3,h4⟩:=hv
 have:=hx ok c c1 w [v] h1 h2 (by simp only[VRels];simp_all)
 simp only[VRels]at this
 obtain⟨v2,vs2,e,h5,_⟩:=this
 cases e
 exact⟨v,vs',rfl,h5,h _ c c1 w vs' h1 h2 h4⟩
theorem OnlyD.same {D:Nat->Prop} {x:AV} (hn:noRef x=true):OnlyD D [x]:=fun _ c c1 w vs h1 h2 hv=>by
 simp only[VRels]at hv⊢
 obtain⟨v,vs',rfl,h3,h4⟩:=hv
 exact⟨v,vs',rfl,VRel.noRef h2 _ _ hn h3,h4⟩
theorem OnlyD.sl {D:Nat->Prop} {b g off len sz:Nat} (hb:D b):OnlyD D [.sl b g off len sz]:=fun _ c c1 w vs h1 h2 hv=>by
 simp only[VRels]at hv⊢
 obtain⟨v,vs',rfl,h3,h4⟩:=hv
 refine⟨v,vs',rfl,?_,h4⟩
 simp_all [VRel]
theorem OnlyD.map {D:Nat->Prop} {b g:Nat} (hb:D b):OnlyD D [.map b g]:=fun _ c c1 w vs h1 h2 hv=>by
 simp only[VRels]at hv⊢
 obtain⟨v,vs',rfl,h3,h4⟩:=hv
 refine⟨v,vs',rfl,?_,h4⟩
 simp_all [VRel]
def NoRefB:Blk->Prop
 | .cells _ cs=>noRefs cs=true
 | .map _ es=>∀e∈es,noRef e.1=true/\noRef e.2=true
 | .dead _=>True
 |_=>False
theorem VPre.noRef2 {ok:Okc} {c c':Ctx ok} {w:World} (hF:∀k,c.F k->c'.F k) {xs:List AV} {vs:List Value} (hn:noRefs xs=true) (h:VPre c w xs vs):VPre c' w xs vs:=VPre.noRef hF _ _ hn h
theorem MRel.noRef2 {ok:Okc} {c c':Ctx ok} {w:World} (hF:∀k,c.F k->c'.F k):∀{xs:List (AV×AV)} {es:List MapEntry} {clock:Nat},(∀e∈xs,noRef e.1=true/\noRef e.2=true)->MRel c w xs es clock->MRel c' w xs es clock
 |[],_,_,_,h=>h
 |(k,x)::r,es,clock,hn,h=>by
  obtain⟨e,es',h1,h2,h3,h4,h5,h6⟩:=h
  obtain⟨q1,q2⟩:=hn (k,x) (by simp)
  exact⟨e,es',h1,VRel.noRef hF _ _ q1 h2,VRel.noRef hF _ _ q2 h3,h4,h5,MRel.noRef2 hF (fun e he=>hn e (by simp[he])) h6⟩
theorem NoRefB.rel {ok:Okc} {c c':Ctx ok} {w:World} {b:Nat} {x:Blk} (hx:NoRefB x) (hF:∀k,c.F k->c'.F k) (hr:∀g,c'.ρ b g=c.ρ b g) (hO:∀k g base,c.ρ b g=some (.loc k base)->(∀j,x≠ .dead j)->x.gen=g->c.O k->c'.O k) (h:BRel c w b x):BRel c' w b x:=by
 cases x with
 |dead g=>trivial
 |map g es=>
  obtain⟨cb,es',clock,h1,h2,h3,h4⟩:=h
  exact⟨cb,es',clock,(hr _).trans h1,hO cb g 0 h1 (fun _=>by simp) rfl h2,h3,MRel.noRef2 hF hx h4.1,h4.2⟩
 |loop=>exact hx.elim
 |cells g cs=>
  rcases h with⟨h1,h2⟩|⟨cb,base,C,e,fr,h1,h2,h3,h4,h5,h6⟩
  ·exact .inl ⟨(hr _).trans h1,h2⟩
  ·exact .inr ⟨cb,base,C,e,fr,(hr _).trans h1,hO cb g base h1 (fun _=>by simp) rfl h2,h3,h4,h5,VPre.noRef2 hF hx h6⟩
theorem HSpec.frame {f : Nat} {args : List AV} {v : AV} {h h1 h1' h' : Heap} (D : Nat -> Prop) [DecidablePred D] (hs : HSpec P f args h1 v h1') (ha : OnlyD D args) (hv : OnlyD D [v])
    (e1:∀k,h1.get k=if D k then h.get k else none) (e2:∀k,¬D k->h1'.get k=none) (e3:∀k,h'.get k=if D k then h1'.get k else h.get k)
    (n1:∀k x,h1.get k=some x->NoRefB x) (n2:∀k x,h1'.get k=some x->NoRefB x):HSpec P f args h v h':=by
  obtain⟨hc,hs⟩:=hs
  refine⟨hc,fun c w cargs H hargs=>?_⟩
  let c1:Ctx (okc P):={ρ:=fun k y=>if D k then c.ρ k y else none,F:=c.F,O:=fun k=>∃b g base,D b/\Live h b g/\c.ρ b g=some (.loc k base),base:=c.base}
  have hr1:∀b y,D b->c1.ρ b y=c.ρ b y:=fun b y hb=>if_pos hb
  have hO1:∀k,c1.O k->c.O k:=fun k ⟨b,g,base,_,hl,hk⟩=>H.owned hl hk
  have hg1:∀{k x},h1.get k=some x->D k/\h.get k=some x:=fun{k x} hk=>by
    simp_all
  have hl1:∀{k y},Live h1 k y->D k/\Live h k y:=fun{k y} ⟨x,hk,hx,hd⟩=>⟨(hg1 hk).1,x,(hg1 hk).2,hx,hd⟩
  have H1:HRel c1 h1 w:=by
    refine⟨fun k hk y=>?_,fun k x hk y hlt=>?_,fun k x hk=>?_,fun k y k' y' cb base base' l1 l2 p1 p2=>?_,fun k hF hO=>H.disj k hF (hO1 k hO),H.inF,fun k hO=>H.inO k (hO1 k hO)⟩
    · rw [e1] at hk
      split at hk
      · rename_i hd;rw[hr1 _ _ hd];exact H.fresh k hk y
      grind
    · obtain ⟨hd, hk⟩ := hg1 hk
      rw[hr1 _ _ hd];exact H.later k _ hk y hlt
    · obtain ⟨hd, hk2⟩ := hg1 hk
      exact NoRefB.rel (c:=c) (c':=c1) (n1 k x hk) (fun _ h=>h) (fun g=>hr1 k g hd) (fun cb g base hp hne hgen _=>⟨k,g,base,hd,⟨x,hk2,hgen,hne⟩,hp⟩) (H.blk k x hk2)
    · obtain ⟨d1, l1⟩ := hl1 l1
      obtain⟨d2,l2⟩:=hl1 l2
      rw[hr1 _ _ d1]at p1
      rw[hr1 _ _ d2]at p2
      exact H.inj _ _ _ _ _ _ _ l1 l2 p1 p2
  refine(hs c1 w cargs H1 (ha _ c c1 w _ (fun b g hb=>hr1 b g hb) (fun _ h=>h) hargs)).mono ?_
  rintro e w' ⟨cv,c',rfl,E,H',V⟩
  let c2:Ctx (okc P):={ρ:=fun k y=>if D k then c'.ρ k y else c.ρ k y,F:=c'.F,O:=fun k=>c'.O k\/(c.O k/\¬c1.O k),base:=c.base}
  have hrD:∀b y,D b->c2.ρ b y=c'.ρ b y:=fun b y hb=>if_pos hb
  have hrN:∀b y,¬D b->c2.ρ b y=c.ρ b y:=fun b y hb=>if_neg hb
  have E2:Evo c w c2 w':=by
    refine⟨E.os,E.tape,E.output,E.size,E.shape,fun k hk hO=>E.keep k hk fun h=>hO (hO1 k h),fun b y p hp=>?_,fun k hk=>E.frz k hk,fun k hk=>?_,fun k hk=>?_,rfl⟩
    · by_cases hd : D b
      · rw[hrD _ _ hd];exact E.rho b y p ((hr1 _ _ hd).trans hp)
      simp_all
    · rcases E.frzNew k hk with h | h | h
      · exact .inl h
      · simp_all
      omega
    · rcases hk with hk | hk
      · rcases E.own k hk with h | h
        · simp_all
        · exact .inr h
      simp_all
  have hg3:∀{k x},h'.get k=some x->(D k/\h1'.get k=some x)\/(¬D k/\h.get k=some x):=fun{k x} hk=>by
    grind
  have hl3:∀{k y},Live h' k y->(D k/\Live h1' k y)\/(¬D k/\Live h k y):=fun{k y} ⟨x,hk,hx,hd⟩=>by
    rcases hg3 hk with⟨q1,q2⟩|⟨q1,q2⟩
    · exact .inl ⟨q1,x,q2,hx,hd⟩
    · exact .inr ⟨q1,x,q2,hx,hd⟩
  have hout:∀{k y cb base},¬D k->Live h k y->c.ρ k y=some (.loc cb base)->¬c1.O cb:=by
    rintro k y cb base hd hl hp ⟨b,g,base',hb,hlb,hpb⟩
    have:=H.inj _ _ _ _ _ _ _ hl hlb hp hpb
    simp_all
  have hcross:∀{k y k' y' cb base base'},D k->Live h1' k y->c'.ρ k y=some (.loc cb base)->¬D k'->Live h k' y'->c.ρ k' y'=some (.loc cb base')->False:=by
    intro k y k' y' cb base base' hd l1 p1 hd' l2 p2
    rcases E.own cb (H'.owned l1 p1)with h|h
    · grind
    · have:=H.inO cb (H.owned l2 p2);omega
  refine⟨cv,c2,rfl,E2,⟨fun k hk y=>?_,fun k x hk y hlt=>?_,fun k x hk=>?_,fun k y k' y' cb base base' l1 l2 p1 p2=>?_,fun k hF hO=>?_,H'.inF,fun k hO=>?_⟩,?_⟩
  · rw [e3] at hk
    split at hk
    · rename_i hd;rw[hrD _ _ hd];exact H'.fresh k hk y
    · rename_i hd;rw[hrN _ _ hd];exact H.fresh k hk y
  · rcases hg3 hk with ⟨hd, hk⟩ | ⟨hd, hk⟩
    · rw[hrD _ _ hd];exact H'.later k x hk y hlt
    · rw[hrN _ _ hd];exact H.later k x hk y hlt
  · rcases hg3 hk with ⟨hd, hk⟩ | ⟨hd, hk⟩
    · exact NoRefB.rel (c:=c') (c':=c2) (n2 k x hk) (fun _ h=>h) (fun g=>hrD k g hd) (fun cb g base hp hne hgen hO=> .inl hO) (H'.blk k x hk)
    · refine BRel.mono (E2.ext H.disj) (fun cb base hne hp => ?_) (H.blk k x hk)
      have hl:Live h k x.gen:=⟨x,hk,rfl,hne⟩
      have hO:=H.owned hl hp
      have hn:=hout hd hl hp
      exact⟨.inr ⟨hO,hn⟩,E.keep cb (H.inO cb hO) hn⟩
  · rcases hl3 l1 with ⟨d1, l1⟩ | ⟨d1, l1⟩
    · rw [hrD _ _ d1] at p1
      rcases hl3 l2 with⟨d2,l2⟩|⟨d2,l2⟩
      · rw [hrD _ _ d2] at p2
        exact H'.inj _ _ _ _ _ _ _ l1 l2 p1 p2
      grind
    · rw [hrN _ _ d1] at p1
      rcases hl3 l2 with⟨d2,l2⟩|⟨d2,l2⟩
      · grind
      · rw [hrN _ _ d2] at p2
        exact H.inj _ _ _ _ _ _ _ l1 l2 p1 p2
  · rcases hO with hO | ⟨hO, hn⟩
    · exact H'.disj k hF hO
    · rcases E.frzNew k hF with h | h | h
      · exact H.disj k h hO
      · exact hn h
      · have:=H.inO k hO;omega
  · rcases hO with hO | ⟨hO, _⟩
    · exact H'.inO k hO
    · exact Nat.lt_of_lt_of_le (H.inO k hO) E.size
  · have h5 : VRels c' w' [v] [cv] := by simp only [VRels]; simp_all
    have h6:=hv _ c' c2 w' [cv] (fun b g hb=>hrD b g hb) (fun _ h=>h) h5
    simp_all [VRels]
theorem Qb5 {b:Nat} {x:Blk} (hb:b<1099511627775) (k:Nat):(hp [(b,x)]).get k=if k=b then some x else none:=by
 simp only[hp]
 by_cases e:k=b
 ·subst e;rw[QaA hb,if_pos rfl]
 simp_all [QaE,get_e]
theorem HSpec.frameA {f b g g':Nat} {args xs ys:List AV} {v:AV} {h:Heap} (hs:HSpec P f args (hp [(b,.cells g xs)]) v (hp [(b,.cells g' ys)])) (ha:OnlyD (fun k=>k=b) args) (hv:OnlyD (fun k=>k=b) [v]) (hx:noRefs xs=true) (hy:noRefs ys=true)
  (hb:h.get b=some (.cells g xs)) (hlim:Nat.blt b 1099511627775=true):HSpec P f args h v (h.set b (.cells g' ys)):=by
 have hlim':b<1099511627775:=by simp_all
 refine HSpec.frame (fun k=>k=b) hs ha hv (fun k=>?_) (fun k hk=>?_) (fun k=>?_) (fun k x hk=>?_) (fun k x hk=>?_)
 ·rw [Qb5 hlim']
  simp_all
 ·simp_all [Qb5]
 ·rw [Qb5 hlim']
  by_cases e:k=b
  ·subst e;rw[if_pos rfl,if_pos rfl,QaA hlim']
  simp_all [QaE]
 ·rw [Qb5 hlim'] at hk
  split at hk
  ·cases hk;exact hx
  ·cases hk
 ·rw [Qb5 hlim'] at hk
  split at hk
  ·cases hk;exact hy
  ·cases hk
theorem HSpec.frameM {f b g g':Nat} {args:List AV} {xs ys:List (AV×AV)} {v:AV} {h:Heap} (hs:HSpec P f args (hp [(b,.map g xs)]) v (hp [(b,.map g' ys)])) (ha:OnlyD (fun k=>k=b) args) (hv:OnlyD (fun k=>k=b) [v]) (hx:∀e∈xs,noRef e.1=true/\noRef e.2=true) (hy:∀e∈ys,noRef e.1=true/\noRef e.2=true)
  (hb:h.get b=some (.map g xs)) (hlim:Nat.blt b 1099511627775=true):HSpec P f args h v (h.set b (.map g' ys)):=by
 have hlim':b<1099511627775:=by simp_all
 refine HSpec.frame (fun k=>k=b) hs ha hv (fun k=>?_) (fun k hk=>?_) (fun k=>?_) (fun k x hk=>?_) (fun k x hk=>?_)
 ·rw [Qb5 hlim']
  simp_all
 ·simp_all [Qb5]
 ·rw [Qb5 hlim']
  by_cases e:k=b
  ·subst e;rw[if_pos rfl,if_pos rfl,QaA hlim']
  simp_all [QaE]
 ·rw [Qb5 hlim'] at hk
  split at hk
  ·cases hk;exact hx
  ·cases hk
 ·rw [Qb5 hlim'] at hk
  split at hk
  ·cases hk;exact hy
  ·cases hk
end Go.AM
namespace Go.AM
section
variable {m:Nat} {π:Nat->Option Src} {h:Heap}
theorem Rn.frzM {b g:Nat} {es:List (AV×AV)} {ks vs:List AV} (hb:h.get b=some (.map g es)) (hm:m<=b) (hn:∀b' g',m<=b'->π b'≠some (.blk b g')) (hk:RnL m π h ks (es.map (·.1))) (hv:RnL m π h vs (es.map (·.2))):
  Rn m π h (.fmap ks vs) (.map b g):=fun _ c w v H M hx=>by
 simp only[VRel]at hx
 obtain⟨cb,hp,rfl⟩:=hx
 obtain⟨ms,clock,hO,hC,hR,hcl⟩:=H.atMap hb hp
 have hout:=M.out H ⟨_,hb,rfl,fun k=>by simp⟩ hp hm hn
 obtain⟨g1,g2,g3⟩:=Qih hR
 have hl:=QbO hR
 simp only[VRel]
 exact⟨cb,ms,clock,rfl,.inr ⟨hO,hout⟩,hC,by simp_all,g1,hk.rels H M g2,hv.rels H M g3⟩
end
end Go.AM
namespace Go.AM
variable {P:Program}
def mapS (f:List UInt8->AV) (l:List (List UInt8)):List (AV×AV):=l.map fun x=>(.str x,f x)
def updS (f:List UInt8->AV) (x:List UInt8) (v:AV):List UInt8->AV:=fun y=>if y=x then v else f y
theorem Qej {x y:List UInt8}:keyEq false [.s] (.str x) (.str y)=some (decide (x=y)):=by
 simp_all [keyEq,eqCells,eqCell]
theorem Qjp {f:List UInt8->AV} {x:List UInt8}:∀(l:List (List UInt8)) (i:Nat),x∈l->aFind false [.s] (.str x) (mapS f l) i=some (some (i+l.findIdx (· ==x),f x))
 | y :: l, i, hx => by
  show(match keyEq false [.s] (.str x) (.str y)with|some true=>_|some false=>_|none=>_)=_
  rw[Qej,List.findIdx_cons]
  by_cases e:x=y
  ·subst e;simp
  ·have h2 : (y == x) = false := by grind
   rw[decide_eq_false e,h2]
   show aFind false [.s] (.str x) (mapS f l) (i+1)=_
   rw[Qjp l (i+1) ((List.mem_cons.1 hx).resolve_left e)]
   grind
theorem Qe4 {f:List UInt8->AV} {x:List UInt8}:∀(l:List (List UInt8)) (i:Nat),x∉l->aFind false [.s] (.str x) (mapS f l) i=some none
 |[],_,_=>rfl
 |y::l,i,hx=>by
  simp only[List.mem_cons,not_or]at hx
  show(match keyEq false [.s] (.str x) (.str y)with|some true=>_|some false=>_|none=>_)=_
  rw[Qej,decide_eq_false hx.1]
  exact Qe4 l (i+1) hx.2
theorem QpQ {f:List UInt8->AV} {x:List UInt8} {v:AV} {l:List (List UInt8)} (hx:x∉l):mapS f l++[(.str x,v)]=mapS (updS f x v) (l++[x]):=by
 grind [mapS,updS,List.map_congr_left]
theorem QfQ {x:List UInt8}:keyOK false [.s] (.str x)=true:=by unfold keyOK;rw[Qej]
section
variable {N:NM} {d:Option Nat} {r:List SOper} {dead:List Nat} {fs:List Fr} {n:Nat} {T:Tmps} {h:Heap} {Q:QC}
theorem QgT {f:List UInt8->AV} {x:List UInt8} {l:List (List UInt8)} {b g:Nat} {z:AV} {ok:Bool} (hb:h.get b=some (.map g (mapS f l))) (hx:x∈l)
  (hk:wR P N r dead fs (n+1) (putD T d (if ok then .tup [f x,.bool true]else f x)) h Q):wM P N (aLookup false [.s] z ok (.map b g) (.str x)) d r dead fs n T h Q:=by
 refine⟨_,h,?_,hk⟩
 simp_all [aLookup,QfQ,HM.entries,HM.run,Qjp]
theorem QfR {f:List UInt8->AV} {x:List UInt8} {l:List (List UInt8)} {b g:Nat} {z:AV} {ok:Bool} (hb:h.get b=some (.map g (mapS f l))) (hx:x∉l)
  (hk:wR P N r dead fs (n+1) (putD T d (if ok then .tup [z,.bool false]else z)) h Q):wM P N (aLookup false [.s] z ok (.map b g) (.str x)) d r dead fs n T h Q:=by
 refine⟨_,h,?_,hk⟩
 simp_all [aLookup,QfQ,HM.entries,HM.run,Qe4]
theorem Qd7 {f:List UInt8->AV} {x:List UInt8} {l:List (List UInt8)} {b g:Nat} {v:AV} (hb:h.get b=some (.map g (mapS f l))) (hx:x∉l) (hl:b<1099511627775)
  (hk:wR P N r dead fs (n+1) (putD T d .any) (h.set b (.map g (mapS (updS f x v) (l++[x])))) Q):wM P N (aMapUpd false [.s] (.map b g) (.str x) v) d r dead fs n T h Q:=by
 refine⟨_,_,?_,hk⟩
 have hg:Nat.beq g g=true:=by simp
 have hl':Nat.blt b lim=true:=by simp[Nat.blt];exact hl
 unfold aMapUpd
 rw[if_pos QfQ]
 simp only[HM.entries,HM.run,hb,hg,cond_true,Qe4 l 0 hx,hl',QpQ hx]
end
theorem RnM.mapS {m:Nat} {π:Nat->Option Src} {h:Heap} {f g:List UInt8->AV}:∀{l:List (List UInt8)},(∀x∈l,Rn m π h (f x) (g x))->RnM m π h (mapS f l) (mapS g l)
 |[],_=>trivial
 |x::l,hf=>⟨⟨Rn.same rfl,hf x (by simp)⟩,RnM.mapS (l:=l) fun y hy=>hf y (by simp[hy])⟩
end Go.AM
set_option linter.unusedSectionVars false
namespace Go.AM
variable {P:Program} {α:Type} [DecidableEq α]
def mapG (c:α->AV) (f:α->AV) (l:List α):List (AV×AV):=l.map fun x=>(c x,f x)
def updG (f:α->AV) (x:α) (v:AV):α->AV:=fun y=>if y=x then v else f y
def KeyG (row:Bool) (ks:List LK) (c:α->AV) (x:α) (l:List α):Prop:=keyOK row ks (c x)=true/\∀y∈l,keyEq row ks (c x) (c y)=some (decide (x=y))
theorem QfS {row:Bool} {ks:List LK} {c f:α->AV} {x:α}:∀(l:List α) (i:Nat),KeyG row ks c x l->x∈l->aFind row ks (c x) (mapG c f l) i=some (some (i+l.findIdx (· ==x),f x))
 | y :: l, i, hk, hx => by
  show(match keyEq row ks (c x) (c y)with|some true=>_|some false=>_|none=>_)=_
  rw[hk.2 y (by simp),List.findIdx_cons]
  by_cases e:x=y
  ·subst e;simp
  ·have h2 : (y == x) = false := by grind
   rw[decide_eq_false e,h2]
   show aFind row ks (c x) (mapG c f l) (i+1)=_
   rw[QfS l (i+1) ⟨hk.1,fun y hy=>hk.2 y (by simp[hy])⟩ ((List.mem_cons.1 hx).resolve_left e)]
   grind
theorem QdE {row:Bool} {ks:List LK} {c f:α->AV} {x:α}:∀(l:List α) (i:Nat),KeyG row ks c x l->x∉l->aFind row ks (c x) (mapG c f l) i=some none
 |[],_,_,_=>rfl
 |y::l,i,hk,hx=>by
  simp only[List.mem_cons,not_or]at hx
  show(match keyEq row ks (c x) (c y)with|some true=>_|some false=>_|none=>_)=_
  rw[hk.2 y (by simp),decide_eq_false hx.1]
  exact QdE l (i+1) ⟨hk.1,fun y hy=>hk.2 y (by simp[hy])⟩ hx.2
theorem QpR {c f:α->AV} {x:α} {v:AV} {l:List α} (hx:x∉l):mapG c f l++[(c x,v)]=mapG c (updG f x v) (l++[x]):=by
 grind [mapG,updG,List.map_congr_left]
theorem QhZ {c f g:α->AV} {l:List α} (h:∀x∈l,f x=g x):mapG c f l=mapG c g l:=List.map_congr_left fun x hx=>by rw[h x hx]
abbrev fmapG (c f:α->AV) (l:List α):AV:= .fmap (l.map c) (l.map f)
theorem Qk1 {c f:α->AV} (l:List α):(l.map c).zip (l.map f)=mapG c f l:=by
 induction l with
 |nil=>rfl
 |cons x l ih=>simp only[List.map_cons,List.zip_cons_cons,ih];rfl
section
variable {N:NM} {d:Option Nat} {r:List SOper} {dead:List Nat} {fs:List Fr} {n:Nat} {T:Tmps} {h:Heap} {Q:QC} {row:Bool} {ks:List LK} {c f:α->AV} {x:α} {l:List α} {b g:Nat} {z v:AV} {ok:Bool}
theorem QgU (hb:h.get b=some (.map g (mapG c f l))) (hq:KeyG row ks c x l) (hx:x∈l)
  (hk:wR P N r dead fs (n+1) (putD T d (if ok then .tup [f x,.bool true]else f x)) h Q):wM P N (aLookup row ks z ok (.map b g) (c x)) d r dead fs n T h Q:=by
 refine⟨_,h,?_,hk⟩
 have hg:Nat.beq g g=true:=by simp
 unfold aLookup
 rw[if_pos hq.1]
 simp_all [HM.entries,HM.run,QfS]
theorem Qc6 (hb:h.get b=some (.map g (mapG c f l))) (hq:KeyG row ks c x l) (hx:x∉l)
  (hk:wR P N r dead fs (n+1) (putD T d (if ok then .tup [z,.bool false]else z)) h Q):wM P N (aLookup row ks z ok (.map b g) (c x)) d r dead fs n T h Q:=by
 refine⟨_,h,?_,hk⟩
 have hg:Nat.beq g g=true:=by simp
 unfold aLookup
 rw[if_pos hq.1]
 simp_all [HM.entries,HM.run,QdE]
theorem QfT (hq:KeyG row ks c x l) (hx:x∈l) (hk:wR P N r dead fs (n+1) (putD T d (if ok then .tup [f x,.bool true]else f x)) h Q):wM P N (aLookup row ks z ok (fmapG c f l) (c x)) d r dead fs n T h Q:=by
 refine⟨_,h,?_,hk⟩
 unfold aLookup
 rw[if_pos hq.1]
 simp only[fmapG]
 rw[Qk1,QfS l 0 hq hx];rfl
theorem QjX (hq:KeyG row ks c x l) (hx:x∉l) (hk:wR P N r dead fs (n+1) (putD T d (if ok then .tup [z,.bool false]else z)) h Q):wM P N (aLookup row ks z ok (fmapG c f l) (c x)) d r dead fs n T h Q:=by
 refine⟨_,h,?_,hk⟩
 unfold aLookup
 rw[if_pos hq.1]
 simp only[fmapG]
 rw[Qk1,QdE l 0 hq hx];rfl
theorem Qcu (hb:h.get b=some (.map g (mapG c f l))) (hq:KeyG row ks c x l) (hx:x∉l) (hl:b<1099511627775)
  (hk:wR P N r dead fs (n+1) (putD T d .any) (h.set b (.map g (mapG c (updG f x v) (l++[x])))) Q):wM P N (aMapUpd row ks (.map b g) (c x) v) d r dead fs n T h Q:=by
 refine⟨_,_,?_,hk⟩
 have hg:Nat.beq g g=true:=by simp
 have hl':Nat.blt b lim=true:=by simp[Nat.blt];exact hl
 unfold aMapUpd
 rw[if_pos hq.1]
 simp only[HM.entries,HM.run,hb,hg,cond_true,QdE l 0 hq hx,hl',QpR hx]
end
theorem RnM.mapG {m:Nat} {π:Nat->Option Src} {h:Heap} {c f:α->AV}:∀{l:List α},(∀x∈l,noRef (c x)=true/\noRef (f x)=true)->RnM m π h (mapG c f l) (mapG c f l)
 |[],_=>trivial
 |x::l,hf=>⟨⟨Rn.same (hf x (by simp)).1,Rn.same (hf x (by simp)).2⟩,RnM.mapG (l:=l) fun y hy=>hf y (by simp[hy])⟩
abbrev kP (x:Nat×Nat):AV:= .agg [.int .i64 (x.1:Int),.int .i64 (x.2:Int)]
theorem Qk2 {x:Nat×Nat} {l:List (Nat×Nat)}:KeyG true [.i,.i] kP x l:=by
 have key:∀y:Nat×Nat,keyEq true [.i,.i] (kP x) (kP y)=some (decide (x=y)):=by
  intro y
  obtain⟨a,b⟩:=x
  obtain⟨c,d⟩:=y
  simp only[keyEq,eqCells,eqCell,Prod.mk.injEq]
  by_cases e1:a=c<;>by_cases e2:b=d<;>simp[e1,e2]<;>omega
 refine⟨?_,fun y _=>key y⟩
 simp_all [keyOK]
end Go.AM
namespace Go.AM
theorem Rn.fzM {α:Type} {m:Nat} {h:Heap} {ps:List (Nat×Src)} {b g:Nat} {c f:α->AV} {l:List α} (hb:h.get b=some (.map g (mapG c f l))) (hn:srcNew (.blk b g) ps=true) (hm:Nat.ble m b=true) (hk:∀x∈l,noRef (c x)=true/\noRef (f x)=true):Rn m (ow m ps) h (fmapG c f l) (.map b g):=by
  refine Rn.frzM hb (by simpa using hm) (fun b' g' hb' e=>?_) ?_ ?_
  · rw[ow_ge hb']at e;exact Qir hn b' _ e rfl
  · have e : (mapG c f l).map (·.1) = l.map c := by simp [mapG]
    rw[e]
    clear hb e
    induction l with
    |nil=>trivial
    |cons x l ih=>exact⟨Rn.same (hk x (by simp)).1,ih fun y hy=>hk y (by simp[hy])⟩
  · have e : (mapG c f l).map (·.2) = l.map f := by simp [mapG]
    rw[e]
    clear hb e
    induction l with
    |nil=>trivial
    |cons x l ih=>exact⟨Rn.same (hk x (by simp)).2,ih fun y hy=>hk y (by simp[hy])⟩
end Go.AM
namespace Go.AM.SO
open Go.Proofs
set_option maxHeartbeats 4000000
noncomputable section
def cf:YA.Cf:={most:= .pure,always:=[60].map fun k=>(k,.heap),value:= .pure}
def s29:SFn:=by
 refine(?f:YA.Yt Tryz.prog cf 29 [[0,2],[15,16,17],[18],[1,3,19,20],[2,3,19,21,22,23],[25,26],[1,4,24],[4,24,28,29,30,31,32,33,34,35,36,37],[1,27],[2,27,38],[],[39,40],[],[43,44],[8,45,46,47,48],[49],[41,42,50],[],[54,55,56],[57,58,59,60,61,62,63],[64],[1,5,6,7,51,52,53,10,11,65,66],[2,10,11,65,67,68,69,70,71],[72],[6,51,52,53,73],[],[77,78,79],[13,80,81,82,83,84,85,86],[87],[1,5,7,74,75,76,14,88,89],[2,14,88,90],[1,5,7,74,75,76,91,92,93]]) ?s ?h
 case h=>exact YA.rr
 exact fun s _=>s
def s90:SFn:=by
 refine(?f:YA.Yt Tryz.prog cf 90 [[4],[0,1,5,6,7,8]]) ?s ?h
 case h=>exact YA.rr
 exact fun s _=>s
def s89:SFn:=by
 refine(?f:YA.Yt Tryz.prog cf 89 [[0,2],[1,3,4,5,6,7,8,9,10,11]]) ?s ?h
 case h=>exact YA.rr
 exact fun s _=>s
def s46:SFn:=by
 refine(?f:YA.Yt Tryz.prog cf 46 [[2],[6,7],[0,8],[2,8,9],[0],[],[13,14,15],[17,18,19,20],[3,10,11,12,45,42,44,43,41,40,33,32,31,5,16],[16,22,23,24,25],[3,10,11,12,45,42,44,43,41,40,33,32,31,5,21],[21,27,28,29,30,34],[3,10,11,12,45,42,44,43,41,40,33,32,31,5,26],[26,36,37,38,39,46],[3,10,11,12,45,42,44,43,41,40,33,32,31,5,35],[2,5,35,47,48,49],[50],[3,10,11,12,45,42,44,43,41,40,33,32,31]]) ?s ?h
 case h=>exact YA.rr
 exact fun s _=>s
def s61:SFn:=by
 refine(?f:YA.Yt Tryz.prog cf 61 [[4],[0,1,5,6,7]]) ?s ?h
 case h=>exact YA.rr
 exact fun s _=>s
def s63:SFn:=by
 refine(?f:YA.Yt Tryz.prog cf 63 [[0],[10],[11],[],[15,16,17],[5,18,19,20,21,22,23,24,25],[26],[12,13,14,27],[],[31,32,33],[7,34,35,36,37,38,39,40,41,42,43,44],[45],[1,28,29,30,46],[],[50,51,52],[9,53,54,55,56,57,58,59,60,61,62,63,64,65],[66],[3,47,48,49,67]]) ?s ?h
 case h=>exact YA.rr
 exact fun s _=>s
def s97:SFn:=by
 refine(?f:YA.Yt Tryz.prog cf 97 [[0,1,4],[7,8,9],[2,3,10],[4,10,11],[],[15,16,17,18],[20,21,22,23,30],[2,3,12,13,14,59,52,58,57,54,56,55,53,51,44,36,43,42,41,38,40,39,37,35,29,25,28,27,26,24,6,5,19],[5,19,32,33,34,45],[2,3,12,13,14,59,52,58,57,54,56,55,53,51,44,36,43,42,41,38,40,39,37,35,29,25,28,27,26,24,6,31],[6,31,47,48,49,50,60],[2,3,12,13,14,59,52,58,57,54,56,55,53,51,44,36,43,42,41,38,40,39,37,35,29,25,28,27,26,24,46],[4,46,61],[2,3,12,13,14,59,52,58,57,54,56,55,53,51,44,36,43,42,41,38,40,39,37,35,29,25,28,27,26,24]]) ?s ?h
 case h=>exact YA.rr
 exact fun s _=>s
def s99:SFn:=by
 refine(?f:YA.Yt Tryz.prog cf 99 [[0,1,4],[7,8,9],[2,3,10],[4,10,11],[],[15,16,17,18],[20,21,22,23,30],[2,3,12,13,14,53,52,51,44,36,43,42,41,38,40,39,37,35,29,25,28,27,26,24,6,5,19],[5,19,32,33,34,45],[2,3,12,13,14,53,52,51,44,36,43,42,41,38,40,39,37,35,29,25,28,27,26,24,6,31],[6,31,47,48,49,50,54],[2,3,12,13,14,53,52,51,44,36,43,42,41,38,40,39,37,35,29,25,28,27,26,24,46],[4,46,55],[2,3,12,13,14,53,52,51,44,36,43,42,41,38,40,39,37,35,29,25,28,27,26,24,56,57],[58],[58]]) ?s ?h
 case h=>exact YA.rr
 exact fun s _=>s
def s138:SFn:=by
 refine(?f:YA.Yt Tryz.prog cf 138 [[4],[6],[],[9,10],[11,12,13,14,15],[0,1,7,8,5,16,17],[4,5,16,18],[0,1,7,8]]) ?s ?h
 case h=>exact YA.rr
 exact fun s _=>s
def s100:SFn:=by
 refine(?f:YA.Yt Tryz.prog cf 100 [[2],[3],[0,4],[0,4,5,6,7]]) ?s ?h
 case h=>exact YA.rr
 exact fun s _=>s
def s101:SFn:=by
 refine(?f:YA.Yt Tryz.prog cf 101 [[2],[3],[0,4],[0,4,5,6,7]]) ?s ?h
 case h=>exact YA.rr
 exact fun s _=>s
def s91:SFn:=by
 refine(?f:YA.Yt Tryz.prog cf 91 [[3],[0,1,4,5,6]]) ?s ?h
 case h=>exact YA.rr
 exact fun s _=>s
def s92:SFn:=by
 refine(?f:YA.Yt Tryz.prog cf 92 [[4],[0,1,5,6,7,8,9]]) ?s ?h
 case h=>exact YA.rr
 exact fun s _=>s
def s93:SFn:=by
 refine(?f:YA.Yt Tryz.prog cf 93 [[6],[],[11,12,13,14],[18,19,20,21,22,35],[36,37,38,39,52],[],[],[53,54,55,56,57,58],[53],[59,60,61,62,63,64],[8,9,59,65,66,67],[10,68,69,70,71,72],[0,1,2,7,51,43,50,46,49,48,47,45,44,42,41,40,34,26,33,29,32,31,30,28,27,25,24,23,17,16,15,73]]) ?s ?h
 case h=>exact YA.rr
 exact fun s _=>s
def s94:SFn:=by
 refine(?f:YA.Yt Tryz.prog cf 94 [[4],[0,1,5,6,7,8]]) ?s ?h
 case h=>exact YA.rr
 exact fun s _=>s
def s140:SFn:=by
 refine(?f:YA.Yt Tryz.prog cf 140 [[2],[0,3,4,5,6,7,8]]) ?s ?h
 case h=>exact YA.rr
 exact fun s _=>s
def s139:SFn:=by
 refine(?f:YA.Yt Tryz.prog cf 139 [[4],[0,1,5,6,7]]) ?s ?h
 case h=>exact YA.rr
 exact fun s _=>s
def s168:SFn:=by
 refine(?f:YA.Yt Tryz.prog cf 168 [[4],[0,1,5,6,7,8,9]]) ?s ?h
 case h=>exact YA.rr
 exact fun s _=>s
theorem ok29:okFn Tryz.prog 29 s29=true:=by kernel_rfl
theorem ok90:okFn Tryz.prog 90 s90=true:=by kernel_rfl
theorem ok89:okFn Tryz.prog 89 s89=true:=by kernel_rfl
theorem ok46:okFn Tryz.prog 46 s46=true:=by kernel_rfl
theorem ok61:okFn Tryz.prog 61 s61=true:=by kernel_rfl
theorem ok63:okFn Tryz.prog 63 s63=true:=by kernel_rfl
theorem ok97:okFn Tryz.prog 97 s97=true:=by kernel_rfl
theorem ok99:okFn Tryz.prog 99 s99=true:=by kernel_rfl
theorem ok138:okFn Tryz.prog 138 s138=true:=by kernel_rfl
theorem ok100:okFn Tryz.prog 100 s100=true:=by kernel_rfl
theorem ok101:okFn Tryz.prog 101 s101=true:=by kernel_rfl
theorem ok91:okFn Tryz.prog 91 s91=true:=by kernel_rfl
theorem ok92:okFn Tryz.prog 92 s92=true:=by kernel_rfl
theorem ok93:okFn Tryz.prog 93 s93=true:=by kernel_rfl
theorem ok94:okFn Tryz.prog 94 s94=true:=by kernel_rfl
theorem ok140:okFn Tryz.prog 140 s140=true:=by kernel_rfl
theorem ok139:okFn Tryz.prog 139 s139=true:=by kernel_rfl
theorem ok168:okFn Tryz.prog 168 s168=true:=by kernel_rfl
end
end Go.AM.SO
namespace Go.AM.SD
abbrev Ed:=Nat×Nat×Nat
structure Dst (es:List Ed) (mk:List Nat) (left:Nat->Bool) (o:Nat->Int):Prop where
 neg:∀x,-1<=o x
 zero:∀x,left x=true->x∈mk->o x=0
 zero':∀x,o x=0->left x=true/\x∈mk
 succ:∀x (d:Nat),o x=(d:Int)+1->left x=true/\∃e∈es,e.1=x/\o e.2.2=(d:Int)
 edge:∀e∈es,left e.1=true->∀d:Nat,o e.2.2=(d:Int)->0<=o e.1/\o e.1<=(d:Int)+1
def InN (n:Nat) (es:List Ed) (mk:List Nat):Prop:=(∀e∈es,e.1<n/\e.2.2<n)/\∀x∈mk,x<n
theorem Qe5 {l:List Int} {i j:Nat} {a:Int} (hi:i<l.length):(l.set i a).getD j 0=if j=i then a else l.getD j 0:=by
 grind
def cntN (n:Nat) (o:List Int):Nat:=(List.range n).countP fun x=>decide (o.getD x 0<0)
end Go.AM.SD
namespace Go.AM.SD
def preds (es:List Ed) (v:Nat):List Nat:=(es.filter fun e=>e.2.2==v).map (·.1)
theorem Qdy {es:List Ed} {v y:Nat}:y∈preds es v↔∃e∈es,e.1=y/\e.2.2=v:=by
 simp only[preds,List.mem_map,List.mem_filter,beq_iff_eq]
 simp_all
abbrev QS:=List Int×List Nat
def bMk (left:Nat->Bool) (s:QS) (x:Nat):QS:=if left x then(s.1.set x 0,s.2++[x])else s
def bMks (n:Nat) (mk:List Nat) (left:Nat->Bool):QS:=mk.foldl (bMk left) (List.replicate n (-1),[])
def bEd (left:Nat->Bool) (v:Nat) (s:QS) (y:Nat):QS:=if left y&&decide (s.1.getD y 0<0)then(s.1.set y (s.1.getD v 0+1),s.2++[y])else s
def bRow (es:List Ed) (left:Nat->Bool) (v:Nat) (s:QS):QS:=(preds es v).foldl (bEd left v) s
def bQ (es:List Ed) (left:Nat->Bool):Nat->Nat->QS->QS
 |0,_,s=>s
 |k+1,i,s=>match s.2[i]? with|some v=>bQ es left k (i+1) (bRow es left v s)|none=>s
def pDist (n:Nat) (es:List Ed) (mk:List Nat) (left:Nat->Bool):List Int:=(bQ es left (n+1) 0 (bMks n mk left)).1
structure BI (n:Nat) (es:List Ed) (mk:List Nat) (left:Nat->Bool) (s:QS):Prop where
 len:s.1.length=n
 cnt:cntN n s.1+s.2.length=n
 neg:∀x,x<n-> -1<=s.1.getD x 0
 inl:∀x,x∈s.2↔x<n/\0<=s.1.getD x 0
 zero:∀x,x<n->left x=true->x∈mk->s.1.getD x 0=0
 zero':∀x,x<n->s.1.getD x 0=0->left x=true/\x∈mk
 succ:∀x (d:Nat),x<n->s.1.getD x 0=(d:Int)+1->left x=true/\∃e∈es,e.1=x/\s.1.getD e.2.2 0=(d:Int)
 mono:∀(a b x y:Nat),a<=b->s.2[a]?=some x->s.2[b]?=some y->s.1.getD x 0<=s.1.getD y 0
def Done (es:List Ed) (left:Nat->Bool) (i:Nat) (s:QS):Prop:=∀(a v:Nat),a<i->s.2[a]?=some v->∀e∈es,e.2.2=v->left e.1=true->0<=s.1.getD e.1 0/\s.1.getD e.1 0<=s.1.getD v 0+1
def Near (v:Nat) (s:QS):Prop:=∀x,x∈s.2->s.1.getD x 0<=s.1.getD v 0+1
theorem QmK {n:Nat} {o:List Int} {y:Nat} {a:Int} (hl:o.length=n) (hy:y<n) (h:o.getD y 0<0) (ha:0<=a):cntN n (o.set y a)+1=cntN n o:=by
 have hset:∀x,(o.set y a).getD x 0=if x=y then a else o.getD x 0:=fun x=>Qe5 (by omega)
 unfold cntN
 have hnd:(List.range n).Nodup:=List.nodup_range
 have hmem:y∈List.range n:=List.mem_range.2 hy
 generalize List.range n=l at hnd hmem
 induction l with
 |nil=>cases hmem
 | cons z l ih =>
  rw[List.nodup_cons]at hnd
  rw[List.countP_cons,List.countP_cons,hset]
  by_cases hz:z=y
  ·subst hz
   rw[if_pos rfl,if_neg (by simp;omega),if_pos (by simpa using h)]
   have:l.countP (fun x=>decide ((o.set z a).getD x 0<0))=l.countP (fun x=>decide (o.getD x 0<0)):=by
    refine List.countP_congr fun x hx=>?_
    grind
   rw[this]
  ·grind
theorem QmL {l:List Nat} {y b z:Nat} (h:(l++[y])[b]?=some z):l[b]?=some z\/(b=l.length/\z=y):=by
 grind
theorem BI.push {n:Nat} {es:List Ed} {mk:List Nat} {left:Nat->Bool} {s:QS} (h:BI n es mk left s) {v y i:Nat} (hin:InN n es mk) (hv:s.2[i]?=some v) (hnear:Near v s) {e:Ed} (he:e∈es) (hy:e.1=y) (hev:e.2.2=v) (hly:left y=true) (hneg:s.1.getD y 0<0):
    BI n es mk left (s.1.set y (s.1.getD v 0+1),s.2++[y])/\Near v (s.1.set y (s.1.getD v 0+1),s.2++[y])/\(s.1.set y (s.1.getD v 0+1)).getD v 0=s.1.getD v 0/\(∀x,x<n->0<=s.1.getD x 0->(s.1.set y (s.1.getD v 0+1)).getD x 0=s.1.getD x 0):=by
  have hyn:y<n:=by have:=(hin.1 e he).1;omega
  have hvn:=(h.inl v).1 (List.mem_of_getElem? hv)
  have hset:∀x,(s.1.set y (s.1.getD v 0+1)).getD x 0=if x=y then s.1.getD v 0+1 else s.1.getD x 0:=fun x=>Qe5 (by grind)
  have hold:∀x,x<n->0<=s.1.getD x 0->(s.1.set y (s.1.getD v 0+1)).getD x 0=s.1.getD x 0:=fun x hx h0=>by
    grind
  have hv':=hold v hvn.1 hvn.2
  have hyl:y∉s.2:=fun hm=>by have:=((h.inl y).1 hm).2;omega
  refine⟨⟨by simp[h.len],?_,fun x hx=>?_,fun x=>?_,fun x hx hl hm=>?_,fun x hx h0=>?_,fun x d hx h0=>?_,fun a b x z hab hx hz=>?_⟩,fun x hx=>?_,hv',hold⟩
  · have h1 := QmK h.len hyn hneg (a := s.1.getD v 0 + 1) (by omega)
    have h2:=h.cnt
    grind
  · rw [hset]; split
    · omega
    · exact h.neg x hx
  · rw [hset, List.mem_append, List.mem_singleton]
    by_cases hx:x=y
    · omega
    · rw[if_neg hx,h.inl x];simp[hx]
  · have := h.zero x hx hl hm
    grind
  · rw [hset] at h0; split at h0
    · omega
    · exact h.zero' x hx h0
  · rw [hset] at h0; split at h0
    · grind
    · obtain ⟨hl, e', he', h2, h3⟩ := h.succ x d hx h0
      grind
  · rcases QmL hx with h1 | ⟨h1, rfl⟩ <;> rcases QmL hz with h2 | ⟨h2, rfl⟩
    · have m1 := (h.inl x).1 (List.mem_of_getElem? h1)
      have m2:=(h.inl z).1 (List.mem_of_getElem? h2)
      rw[hold x m1.1 m1.2,hold z m2.1 m2.2];exact h.mono a b x z hab h1 h2
    · have m1 := (h.inl x).1 (List.mem_of_getElem? h1)
      rw[hold x m1.1 m1.2,hset,if_pos rfl];exact hnear x (List.mem_of_getElem? h1)
    · grind
    · omega
  · rw [hv']
    rcases List.mem_append.1 hx with h1|h1
    · have m1 := (h.inl x).1 h1
      rw[hold x m1.1 m1.2];exact hnear x h1
    simp_all
theorem Done.push {n:Nat} {es:List Ed} {mk:List Nat} {left:Nat->Bool} {s:QS} (h:BI n es mk left s) {y i:Nat} {o':List Int} (hin:InN n es mk) (hi:i<=s.2.length) (hd:Done es left i s) (hold:∀x,x<n->0<=s.1.getD x 0->o'.getD x 0=s.1.getD x 0):Done es left i (o',s.2++[y]):=by
 intro a v ha hv e he h2 hl
 have hv':s.2[a]?=some v:=by grind
 have:=hd a v ha hv' e he h2 hl
 have m1:=(h.inl v).1 (List.mem_of_getElem? hv')
 show 0<=o'.getD e.1 0/\o'.getD e.1 0<=o'.getD v 0+1
 rw[hold _ (hin.1 e he).1 this.1,hold v m1.1 m1.2];exact this
theorem BI.row {n : Nat} {es : List Ed} {mk : List Nat} {left : Nat -> Bool} (hin : InN n es mk) {v i : Nat} : ∀ (ys : List Nat) (s : QS), (∀ y ∈ ys, ∃ e ∈ es, e.1 = y /\ e.2.2 = v) -> BI n es mk left s -> s.2[i]? = some v -> Near v s -> Done es left i s ->
    BI n es mk left (ys.foldl (bEd left v) s)/\(ys.foldl (bEd left v) s).2[i]?=some v/\Near v (ys.foldl (bEd left v) s)/\Done es left i (ys.foldl (bEd left v) s)/\(∀x,x<n->0<=s.1.getD x 0->(ys.foldl (bEd left v) s).1.getD x 0=s.1.getD x 0)/\∀y∈ys,left y=true->0<=(ys.foldl (bEd left v) s).1.getD y 0:=by
  intro ys
  induction ys with
  |nil=>intro s _ h hv hn hd;exact⟨h,hv,hn,hd,fun _ _ _=>rfl,fun y hy=>by cases hy⟩
  | cons y ys ih =>
    intro s hys h hv hn hd
    obtain⟨e,he,hy,hev⟩:=hys y (by simp)
    have hyn:y<n:=by have:=(hin.1 e he).1;omega
    rw[List.foldl_cons]
    by_cases hc:(left y&&decide (s.1.getD y 0<0))=true
    · have e1 : bEd left v s y = (s.1.set y (s.1.getD v 0 + 1), s.2 ++ [y]) := if_pos hc
      simp only[Bool.and_eq_true,decide_eq_true_eq]at hc
      obtain⟨h1,h2,h3,h4⟩:=h.push hin hv hn he hy hev hc.1 hc.2
      have hil:i<s.2.length:=(List.getElem?_eq_some_iff.1 hv).1
      have hd':=Done.push (y:=y) h hin (by omega) hd h4
      have hv':(s.2++[y])[i]?=some v:=by grind
      rw[e1]
      obtain⟨k1,k2,k3,k4,k5,k6⟩:=ih _ (fun z hz=>hys z (by simp[hz])) h1 hv' h2 hd'
      refine⟨k1,k2,k3,k4,fun x hx h0=>?_,fun z hz hl=>?_⟩
      · simp_all
      · rcases List.mem_cons.1 hz with rfl | hz
        · have hset : (s.1.set z (s.1.getD v 0 + 1)).getD z 0 = s.1.getD v 0 + 1 := by rw [Qe5 (by grind), if_pos rfl]
          have hvn:=(h.inl v).1 (List.mem_of_getElem? hv)
          grind
        simp_all
    · have e1 : bEd left v s y = s := if_neg hc
      simp_all
structure BH (n:Nat) (es:List Ed) (mk:List Nat) (left:Nat->Bool) (i:Nat) (s:QS):Prop where
 bi:BI n es mk left s
 done:Done es left i s
 near:∀v,s.2[i]?=some v->Near v s
 le:i<=s.2.length
theorem BH.step {n:Nat} {es:List Ed} {mk:List Nat} {left:Nat->Bool} (hin:InN n es mk) {i v:Nat} {s:QS} (h:BH n es mk left i s) (hv:s.2[i]?=some v):BH n es mk left (i+1) (bRow es left v s):=by
  obtain⟨k1,k2,k3,k4,k5,k6⟩:=BI.row hin (preds es v) s (fun y hy=>Qdy.1 hy) h.bi hv (h.near v hv) h.done
  have hil:i<(bRow es left v s).2.length:=(List.getElem?_eq_some_iff.1 k2).1
  refine⟨k1,fun a u ha hu e he h2 hl=>?_,fun u hu x hx=>?_,by omega⟩
  · by_cases hai : a < i
    · exact k4 a u hai hu e he h2 hl
    · have : a = i := by omega
      subst this
      have hu':u=v:=Option.some.inj (hu.symm.trans k2)
      subst hu'
      have h0:=k6 e.1 (Qdy.2 ⟨e,he,rfl,h2⟩) hl
      exact⟨h0,k3 e.1 ((k1.inl _).2 ⟨(hin.1 e he).1,h0⟩)⟩
  · have h1 := k3 x hx
    have h2:=k1.mono i (i+1) v u (by omega) k2 hu
    grind [bRow]
theorem BH.dst {n:Nat} {es:List Ed} {mk:List Nat} {left:Nat->Bool} (hin:InN n es mk) {i:Nat} {s:QS} (h:BH n es mk left i s) (hi:s.2[i]?=none):Dst es mk left (fun x=>if x<n then s.1.getD x 0 else-1):=by
 have hil:s.2.length<=i:=List.getElem?_eq_none_iff.1 hi
 refine⟨fun x=>?_,fun x hl hm=>?_,fun x h0=>?_,fun x d h0=>?_,fun e he hl d h0=>?_⟩
 ·split
  ·rename_i hx;exact h.bi.neg x hx
  ·omega
 ·have hx := hin.2 x hm
  rw[if_pos hx];exact h.bi.zero x hx hl hm
 ·split at h0
  ·rename_i hx;exact h.bi.zero' x hx h0
  ·omega
 ·split at h0
  ·rename_i hx
   obtain⟨hl,e,he,h2,h3⟩:=h.bi.succ x d hx h0
   exact⟨hl,e,he,h2,by rw[if_pos (hin.1 e he).2];exact h3⟩
  ·omega
 ·obtain ⟨hf, ht⟩ := hin.1 e he
  rw[if_pos ht]at h0
  rw[if_pos hf]
  have hm:e.2.2∈s.2:=(h.bi.inl _).2 ⟨ht,by omega⟩
  obtain⟨a,ha⟩:=List.getElem?_of_mem hm
  have hal:a<s.2.length:=(List.getElem?_eq_some_iff.1 ha).1
  have:=h.done a e.2.2 (by omega) ha e he rfl hl
  omega
theorem QoE {n:Nat} {es:List Ed} {mk:List Nat} {left:Nat->Bool} (hin:InN n es mk):∀(k i:Nat) (s:QS),BH n es mk left i s->n<k+i->(bQ es left k i s).1.length=n/\Dst es mk left (fun x=>if x<n then(bQ es left k i s).1.getD x 0 else-1):=by
 intro k
 induction k with
 |zero=>
  intro i s h hk
  have:=h.bi.cnt
  have:=h.le
  omega
 |succ k ih=>
  intro i s h hk
  unfold bQ
  cases hv:s.2[i]? with
  |some v=>exact ih (i+1) _ (h.step hin hv) (by omega)
  |none=>exact⟨h.bi.len,h.dst hin hv⟩
theorem QqD (n:Nat):cntN n (List.replicate n (-1))=n:=by
 grind [cntN,List.countP_eq_length]
theorem Qit {n : Nat} {es : List Ed} {mk : List Nat} {left : Nat -> Bool} (hin : InN n es mk) (hnd : mk.Nodup) : BH n es mk left 0 (bMks n mk left) := by
  have key:∀(ms pre:List Nat) (s:QS),(pre++ms).Nodup->(∀x∈pre++ms,x<n)->s.1.length=n->cntN n s.1+s.2.length=n->(∀x,x<n->s.1.getD x 0=if left x&&pre.contains x then 0 else-1)->(∀x,x∈s.2↔left x=true/\x∈pre)->
      (ms.foldl (bMk left) s).1.length=n/\cntN n (ms.foldl (bMk left) s).1+(ms.foldl (bMk left) s).2.length=n/\(∀x,x<n->(ms.foldl (bMk left) s).1.getD x 0=if left x&&(pre++ms).contains x then 0 else-1)/\(∀x,x∈(ms.foldl (bMk left) s).2↔left x=true/\x∈pre++ms):=by
    intro ms
    induction ms with
    |nil=>intro pre s _ _ h1 h2 h3 h4;rw[List.append_nil];exact⟨h1,h2,h3,h4⟩
    | cons m ms ih =>
      intro pre s hnd hlt h1 h2 h3 h4
      have hmn:m<n:=hlt m (by simp)
      have hmp:m∉pre:=fun hm=>by
        grind
      have e:pre++m::ms=(pre++[m])++ms:=by simp
      rw[e]at hnd hlt⊢
      rw[List.foldl_cons]
      have hm3:s.1.getD m 0= -1:=by grind
      by_cases hl:left m=true
      · have e1 : bMk left s m = (s.1.set m 0, s.2 ++ [m]) := if_pos hl
        rw[e1]
        refine ih (pre++[m]) _ hnd hlt (by simp[h1]) ?_ (fun x hx=>?_) fun x=>?_
        · have := QmK h1 hmn (by omega) (a := 0) (by omega)
          grind
        · show (s.1.set m 0).getD x 0 = _
          rw[Qe5 (by omega)]
          by_cases hxm:x=m
          · grind
          · rw[if_neg hxm,h3 x hx];simp[hxm]
        · show x ∈ s.2 ++ [m] ↔ _
          rw[List.mem_append,List.mem_append,h4,List.mem_singleton]
          constructor
          · rintro (h5 | rfl)
            · grind
            grind
          grind
      · have e1 : bMk left s m = s := if_neg hl
        rw[e1]
        refine ih (pre++[m]) _ hnd hlt h1 h2 (fun x hx=>?_) fun x=>?_
        · rw [h3 x hx]
          by_cases hxm:x=m
          · grind
          · simp[hxm]
        · rw [List.mem_append, h4, List.mem_singleton]
          constructor
          · grind
          grind
  obtain⟨h1,h2,h3,h4⟩:=key mk [] (List.replicate n (-1),[]) (by simpa using hnd) (by simpa using hin.2) (by simp) (by rw[QqD];rfl)
    (fun x hx=>by simp_all) (fun x=>by simp)
  rw[List.nil_append]at h3 h4
  have hg:∀x,x<n->(bMks n mk left).1.getD x 0=0\/(bMks n mk left).1.getD x 0= -1:=fun x hx=>by
    grind [bMks]
  have hin2:∀x,x∈(bMks n mk left).2->(bMks n mk left).1.getD x 0=0:=fun x hx=>by
    grind [bMks]
  refine⟨⟨h1,h2,fun x hx=>?_,fun x=>?_,fun x hx hl hm=>?_,fun x hx h0=>?_,fun x d hx h0=>?_,fun a b x y _ ha hb=>?_⟩,fun a v ha=>by omega,fun v hv x hx=>?_,Nat.zero_le _⟩
  · grind
  · constructor
    · intro hx
      exact⟨hin.2 x ((h4 x).1 hx).2,by simp_all⟩
    grind [bMks]
  · simp_all [bMks]
  · simp_all [bMks]
  · grind
  · grind
  grind
end Go.AM.SD
