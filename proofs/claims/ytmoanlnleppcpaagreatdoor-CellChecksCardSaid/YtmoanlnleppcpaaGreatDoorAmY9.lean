/- A part of the proof of CellChecksCardSaid: lemmas on the way (AmRz, AmDa, AmDb, AmDc, AmDd, AmDe, AmDf, AmDg). Conditions: none of ours. -/
import Derived.Test.YtmoanlnleppcpaaGreatDoorProg
import Derived.KernelRfl
import Derived.Test.YtmoanlnleppcpaaGreatDoorAmY8
set_option linter.unusedSectionVars false
set_option maxHeartbeats 32000000
set_option maxRecDepth 100000
set_option linter.unusedVariables false
set_option linter.unusedSimpArgs false
namespace Go.AM.TX
open Go.Proofs
set_option maxHeartbeats 4000000
noncomputable section
def cf:YA.Cf:={most:= .pure}
def s101:SFn:=by
 refine(?f:YA.Yt Tryz.prog cf 101 [[1,2,6,7,8],[],[12,13,14],[5,15,16,17,18],[19,20]]) ?s ?h
 case h=>exact YA.rr
 exact fun s _=>s
def s102:SFn:=by
 refine(?f:YA.Yt Tryz.prog cf 102 [[0],[6,7],[1,2,8],[1,8],[9,10],[2,5,11,12],[13],[2,9]]) ?s ?h
 case h=>exact YA.rr
 exact fun s _=>s
def s104:SFn:=by
 refine(?f:YA.Yt Tryz.prog cf 104 [[1,2,6,7,8],[],[12,13,14],[5,15,16,17,18],[19,20]]) ?s ?h
 case h=>exact YA.rr
 exact fun s _=>s
def s135:SFn:=by
 refine(?f:YA.Yt Tryz.prog cf 135 [[2],[6],[],[9,10],[11,12,13],[14,15,16,19,20,27,28,31],[3,4,5,32,33,34],[0,7,8,44,41,43,42,40,37,39,38,36,35,30,29,26,23,25,24,22,21,18,17,53,52,51,45],[2,45,46],[0,7,8,44,41,43,42,40,37,39,38,36,35,30,29,26,23,25,24,22,21,18,17,53,52,51,47,48,49,50,54]]) ?s ?h
 case h=>exact YA.rr
 exact fun s _=>s
theorem ok101:okFn Tryz.prog 101 s101=true:=by kernel_rfl
theorem ok102:okFn Tryz.prog 102 s102=true:=by kernel_rfl
theorem ok104:okFn Tryz.prog 104 s104=true:=by kernel_rfl
theorem ok135:okFn Tryz.prog 135 s135=true:=by kernel_rfl
end
end Go.AM.TX
namespace Go.AM.SD
abbrev Ed:=Nat×Nat×Nat
end Go.AM.SD
namespace Go.AM.SD
def preds (es:List Ed) (v:Nat):List Nat:=(es.filter fun e=>e.2.2==v).map (·.1)
abbrev QS:=List Int×List Nat
def bMk (left:Nat->Bool) (s:QS) (x:Nat):QS:=if left x then(s.1.set x 0,s.2++[x])else s
def bMks (n:Nat) (mk:List Nat) (left:Nat->Bool):QS:=mk.foldl (bMk left) (List.replicate n (-1),[])
def bEd (left:Nat->Bool) (v:Nat) (s:QS) (y:Nat):QS:=if left y&&decide (s.1.getD y 0<0)then(s.1.set y (s.1.getD v 0+1),s.2++[y])else s
def bRow (es:List Ed) (left:Nat->Bool) (v:Nat) (s:QS):QS:=(preds es v).foldl (bEd left v) s
def bQ (es:List Ed) (left:Nat->Bool):Nat->Nat->QS->QS
 |0,_,s=>s
 |k+1,i,s=>match s.2[i]? with|some v=>bQ es left k (i+1) (bRow es left v s)|none=>s
def pDist (n:Nat) (es:List Ed) (mk:List Nat) (left:Nat->Bool):List Int:=(bQ es left (n+1) 0 (bMks n mk left)).1
end Go.AM.SD
namespace Go.AM.SD
def bad (left:Nat->Bool) (unc:List Nat) (e:Ed):Bool:=left e.1&& !left e.2.2&&unc.contains e.2.1
def pLs (left:Nat->Bool) (unc:List Nat) (out:List (Nat×Nat)) (e:Ed):List (Nat×Nat):=
 if bad left unc e then(if(match out.getLast? with|some p=>p.1==e.1|none=>false)then out else out++[(e.1,e.2.1)])else out
def pLost (es:List Ed) (left:Nat->Bool) (unc:List Nat):List (Nat×Nat):=es.foldl (pLs left unc) []
structure Rm where
 st:Nat
 rank:Int
 reason:Nat
 ev:Int
deriving DecidableEq
def lostF (rank:Int) (l:List (Nat×Nat)):List Rm:=l.map fun p=>⟨p.1,rank,2,(p.2:Int)⟩
def blkF (left:Nat->Bool) (rank:Int) (d:List Int):List Rm:=(List.range d.length).filterMap fun i=>if left i&&decide (d.getD i 0<0)then some ⟨i,rank,3,-1⟩else none
def pNext (n:Nat) (es:List Ed) (mk:List Nat) (left:Nat->Bool) (unc:List Nat) (rank:Int) (all:Bool):List Rm:=
 if decide (0<(pLost es left unc).length)|| !all then lostF rank (pLost es left unc)else blkF left rank (pDist n es mk left)
end Go.AM.SD
namespace Go.AM.SD
abbrev LB:=List Bool
def lf (l:LB):Nat->Bool:=fun i=>l.getD i false
def offs (l:LB) (xs:List Nat):LB:=xs.foldl (fun l x=>l.set x false) l
def pRounds (n:Nat) (es:List Ed) (mk:List Nat) (unc:List Nat) (all:Bool):Nat->Nat->LB->List Rm->Nat->LB×List Rm×Nat
 |0,_,l,rs,k=>(l,rs,k)
 |f+1,rank,l,rs,k=>
  if(pNext n es mk (lf l) unc rank all).length=0 then(l,rs,k)
  else pRounds n es mk unc all f (rank+1) (offs l ((pNext n es mk (lf l) unc rank all).map (·.st))) (rs++pNext n es mk (lf l) unc rank all) rank
def rm0 (i:Nat):Rm:=⟨i,1,1,-1⟩
end Go.AM.SD
namespace Go.AM.SD
def left0 (n:Nat) (forb:List Nat):LB:=offs (List.replicate n true) forb
def fin (n:Nat) (es:List Ed) (mk:List Nat) (forb unc:List Nat) (all:Bool):LB×List Rm×Nat:=
 pRounds n es mk unc all (n+1) 2 (left0 n forb) (forb.map rm0) (if forb.length=0 then 0 else 1)
end Go.AM.SD
namespace Go.AM.SD
structure Aut where
 al:List Nat
 n:Nat
 ms:List Nat
 es:List Ed
def idx (l:List Nat) (x:Nat):Nat:=l.findIdx (· ==x)
structure FI (n:Nat) (out:List Nat):Prop where
 nd:out.Nodup
 lt:∀x∈out,x<n
theorem Qbm:∀(n:Nat) (l:List Nat),l.Nodup->(∀x∈l,x<n)->l.length<=n
 |0,l,_,h=>by
  cases l with
  |nil=>exact Nat.le_refl _
  |cons x l=>have:=h x (by simp);omega
 | n + 1, l, hn, h => by
  by_cases hm:n∈l
  ·have h1 := Qbm n (l.erase n) (hn.erase n) fun x hx => by
    grind
   simp_all
  ·have := Qbm n l hn fun x hx => by
    grind
   omega
theorem FI.len {n:Nat} {out:List Nat} (h:FI n out):out.length<=n:=Qbm n out h.nd h.lt
end Go.AM.SD
namespace Go.AM.SD
abbrev OE:=List Nat×List Ed
def sEd (i:Nat) (s:OE) (e:Ed):OE:=if s.1.contains e.2.2 then(s.1,s.2++[(i,e.2.1,idx s.1 e.2.2)])else(s.1++[e.2.2],s.2++[(i,e.2.1,s.1.length)])
def sOut (es:List Ed) (left:Nat->Bool) (v:Nat):List Ed:=es.filter fun e=>e.1==v&&left e.2.2
def sRow (es:List Ed) (left:Nat->Bool) (i v:Nat) (s:OE):OE:=(sOut es left v).foldl (sEd i) s
def sQ (es:List Ed) (left:Nat->Bool):Nat->Nat->OE->OE
 |0,_,s=>s
 |k+1,i,s=>match s.1[i]? with|some v=>sQ es left k (i+1) (sRow es left i v s)|none=>s
def sAll (a:Aut) (left:Nat->Bool):OE:=sQ a.es left (a.n+1) 0 (if decide (0<a.n)&&left 0 then[0]else[],[])
def restr (a:Aut) (left:Nat->Bool):Aut:=⟨a.al,(sAll a left).1.length,(List.range (sAll a left).1.length).filter fun i=>a.ms.contains ((sAll a left).1.getD i 0),(sAll a left).2⟩
theorem Qed {l t:List Nat} {x:Nat} (h:x∈l):idx (l++t) x=idx l x:=by
 simp_all [idx,List.findIdx_append]
theorem Qee {l:List Nat} {x:Nat} (h:x∉l):idx (l++[x]) x=l.length:=by
 grind [idx]
def num (o:List Nat) (i:Nat) (e:Ed):Ed:=(i,e.2.1,idx o e.2.2)
theorem Qdx {n : Nat} {left : Nat -> Bool} (i : Nat) : ∀ (es2 : List Ed) (s : OE), (∀ e ∈ es2, e.2.2 < n /\ left e.2.2 = true) -> FI n s.1 -> (∀ x ∈ s.1, left x = true) ->
    FI n (es2.foldl (sEd i) s).1/\(∀x∈(es2.foldl (sEd i) s).1,left x=true)/\(∃t,(es2.foldl (sEd i) s).1=s.1++t)/\(∀e∈es2,e.2.2∈(es2.foldl (sEd i) s).1)/\(es2.foldl (sEd i) s).2=s.2++es2.map (num (es2.foldl (sEd i) s).1 i):=by
  intro es2
  induction es2 with
  |nil=>intro s _ h hl;exact⟨h,hl,⟨[],by simp⟩,(fun e he=>by cases he),by simp⟩
  | cons e es2 ih =>
    intro s hes h hl
    rw[List.foldl_cons]
    obtain⟨he1,he2⟩:=hes e (by simp)
    by_cases hc:s.1.contains e.2.2=true
    · have e1 : sEd i s e = (s.1, s.2 ++ [(i, e.2.1, idx s.1 e.2.2)]) := if_pos hc
      have hm:e.2.2∈s.1:=by simpa using hc
      rw[e1]
      obtain⟨k1,k2,⟨t,k3⟩,k4,k5⟩:=ih (s.1,s.2++[(i,e.2.1,idx s.1 e.2.2)]) (fun x hx=>hes x (by simp[hx])) h hl
      refine⟨k1,k2,⟨t,k3⟩,fun x hx=>?_,?_⟩
      · grind
      grind [num,Qed]
    · have e1 : sEd i s e = (s.1 ++ [e.2.2], s.2 ++ [(i, e.2.1, s.1.length)]) := if_neg hc
      have hm:e.2.2∉s.1:=by simpa using hc
      rw[e1]
      obtain⟨k1,k2,⟨t,k3⟩,k4,k5⟩:=ih (s.1++[e.2.2],s.2++[(i,e.2.1,s.1.length)]) (fun x hx=>hes x (by simp[hx]))
        ⟨by
          rw[List.nodup_append]
          refine⟨h.nd,by simp,fun a ha b hb e=>?_⟩
          simp_all,fun x hx=>by
          rcases List.mem_append.1 hx with hx|hx
          · exact h.lt x hx
          simp_all⟩
        (fun x hx=>by
          grind)
      have k3:(es2.foldl (sEd i) (s.1++[e.2.2],s.2++[(i,e.2.1,s.1.length)])).1=(s.1++[e.2.2])++t:=k3
      refine⟨k1,k2,⟨[e.2.2]++t,by simp_all⟩,fun x hx=>?_,?_⟩
      · grind
      grind [num,Qed,Qee]
structure SI (n:Nat) (es:List Ed) (left:Nat->Bool) (i:Nat) (s:OE):Prop where
 fi:FI n s.1
 lft:∀x∈s.1,left x=true
 le:i<=s.1.length
 cl:∀j v,j<i->s.1[j]?=some v->∀e∈sOut es left v,e.2.2∈s.1
 ed:s.2=(List.range i).flatMap fun j=>(sOut es left (s.1.getD j 0)).map (num s.1 j)
theorem QbE {es:List Ed} {left:Nat->Bool} {v:Nat} {e:Ed}:e∈sOut es left v↔e∈es/\e.1=v/\left e.2.2=true:=by
 simp_all [sOut]
theorem SI.step {n : Nat} {es : List Ed} {left : Nat -> Bool} (hn : ∀ e ∈ es, e.1 < n /\ e.2.2 < n) {i v : Nat} {s : OE} (h : SI n es left i s) (hv : s.1[i]? = some v) : SI n es left (i + 1) (sRow es left i v s) := by
  obtain⟨k1,k2,⟨t,k3⟩,k4,k5⟩:=Qdx i (sOut es left v) s (fun e he=>⟨(hn e (QbE.1 he).1).2,(QbE.1 he).2.2⟩) h.fi h.lft
  have hil:i<s.1.length:=(List.getElem?_eq_some_iff.1 hv).1
  have k3:(sRow es left i v s).1=s.1++t:=k3
  have hget:∀j,j<s.1.length->(sRow es left i v s).1.getD j 0=s.1.getD j 0:=fun j hj=>by
    grind
  refine⟨k1,k2,by grind,fun j u hj hu e he=>?_,?_⟩
  · rw [k3, List.getElem?_append_left (by omega)] at hu
    by_cases hji:j<i
    · rw[k3];exact List.mem_append_left _ (h.cl j u hji hu e he)
    grind
  · show (sRow es left i v s).2 = _
    have k5:(sRow es left i v s).2=s.2++(sOut es left v).map (num (sRow es left i v s).1 i):=k5
    rw[k5,h.ed,List.range_succ,List.flatMap_append]
    congr 1
    · have : ∀ j ∈ List.range i, (sOut es left (s.1.getD j 0)).map (num s.1 j) = (sOut es left ((sRow es left i v s).1.getD j 0)).map (num (sRow es left i v s).1 j) := fun j hj => by
        have hj:=List.mem_range.1 hj
        rw[hget j (by omega)]
        have hjg:s.1[j]?=some (s.1.getD j 0):=by
          grind
        refine List.map_congr_left fun e he=>?_
        unfold num
        rw[k3,Qed (h.cl j _ hj hjg e he)]
      grind [List.map_congr_left]
    simp_all
theorem sQ_ok {n:Nat} {es:List Ed} {left:Nat->Bool} (hn:∀e∈es,e.1<n/\e.2.2<n):∀(k i:Nat) (s:OE),SI n es left i s->n<k+i->SI n es left (sQ es left k i s).1.length (sQ es left k i s)/\∃t,(sQ es left k i s).1=s.1++t:=by
 intro k
 induction k with
 |zero=>intro i s h hk;have:=h.fi.len;have:=h.le;omega
 | succ k ih =>
  intro i s h hk
  unfold sQ
  cases hv:s.1[i]? with
  |some v=>
   obtain⟨h1,t,h2⟩:=ih (i+1) _ (h.step hn hv) (by omega)
   obtain⟨_,_,⟨t0,k3⟩,_,_⟩:=Qdx i (sOut es left v) s (fun e he=>⟨(hn e (QbE.1 he).1).2,(QbE.1 he).2.2⟩) h.fi h.lft
   have k3:(sRow es left i v s).1=s.1++t0:=k3
   exact⟨h1,t0++t,by simp_all⟩
  |none=>
   have:s.1.length=i:=by have:=List.getElem?_eq_none_iff.1 hv;have:=h.le;omega
   dsimp only
   rw[this];exact⟨h,[],by simp⟩
end Go.AM.SD
