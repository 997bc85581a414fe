/- A part of the proof of GuardsRefusesCardSaid: lemmas on the way (AnRz, AnDa, AnDb, AnDc, AnDf, AnDg). Conditions: none of ours. -/
import Derived.Test.YtgfnbkngfedlkaaGreatDoorProg
import Derived.KernelRfl
import Derived.Test.YtgfnbkngfedlkaaGreatDoorAmZ8
set_option linter.unusedSectionVars false
set_option maxHeartbeats 32000000
set_option maxRecDepth 100000
set_option linter.unusedVariables false
set_option linter.unusedSimpArgs false
namespace Go.AM.TX
open Go.Proofs
set_option maxHeartbeats 4000000
noncomputable section
def cf:YA.Cf:={most:= .pure}
def s134:SFn:=by
 refine(?f:YA.Yt Tryz.prog cf 134 [[1,2,6,7,8],[],[12,13,14],[5,15,16,17,18],[19,20]]) ?s ?h
 case h=>exact YA.rr
 exact fun s _=>s
def s135:SFn:=by
 refine(?f:YA.Yt Tryz.prog cf 135 [[0],[6,7],[1,2,8],[1,8],[9,10],[2,5,11,12],[13],[2,9]]) ?s ?h
 case h=>exact YA.rr
 exact fun s _=>s
def s137:SFn:=by
 refine(?f:YA.Yt Tryz.prog cf 137 [[1,2,6,7,8],[],[12,13,14],[5,15,16,17,18],[19,20]]) ?s ?h
 case h=>exact YA.rr
 exact fun s _=>s
def s128:SFn:=by
 refine(?f:YA.Yt Tryz.prog cf 128 [[2],[6],[],[9,10],[11,12,13],[14,15,16,19,20,27,28,31],[3,4,5,32,33,34],[0,7,8,44,41,43,42,40,37,39,38,36,35,30,29,26,23,25,24,22,21,18,17,53,52,51,45],[2,45,46],[0,7,8,44,41,43,42,40,37,39,38,36,35,30,29,26,23,25,24,22,21,18,17,53,52,51,47,48,49,50,54]]) ?s ?h
 case h=>exact YA.rr
 exact fun s _=>s
theorem ok134:okFn Tryz.prog 134 s134=true:=by kernel_rfl
theorem ok135:okFn Tryz.prog 135 s135=true:=by kernel_rfl
theorem ok137:okFn Tryz.prog 137 s137=true:=by kernel_rfl
theorem ok128:okFn Tryz.prog 128 s128=true:=by kernel_rfl
end
end Go.AM.TX
namespace Go.AM.SD
abbrev Ed:=Nat×Nat×Nat
end Go.AM.SD
namespace Go.AM.SD
def preds (es:List Ed) (v:Nat):List Nat:=(es.filter fun e=>e.2.2==v).map (·.1)
end Go.AM.SD
namespace Go.AM.SD
def bad (left:Nat->Bool) (unc:List Nat) (e:Ed):Bool:=left e.1&& !left e.2.2&&unc.contains e.2.1
structure Rm where
 st:Nat
 rank:Int
 reason:Nat
 ev:Int
deriving DecidableEq
end Go.AM.SD
namespace Go.AM.SD
structure Aut where
 al:List Nat
 n:Nat
 ms:List Nat
 es:List Ed
structure WfA (a:Aut):Prop where
 al:a.al.Pairwise (· < ·)
 al5:∀x∈a.al,x<32
 n5:a.n<=4096
 ms:a.ms.Pairwise (· < ·)
 msn:∀x∈a.ms,x<a.n
 es:a.es.Pairwise fun x y=>x.1<y.1\/(x.1=y.1/\x.2.1<y.2.1)
 esn:∀e∈a.es,e.1<a.n/\e.2.2<a.n
 ev:∀e∈a.es,e.2.1∈a.al
theorem WfA.nd {a:Aut} (h:WfA a):a.ms.Nodup:=by
 rw[List.nodup_iff_pairwise_ne];exact h.ms.imp fun h=>by omega
theorem WfA.srt {a:Aut} (h:WfA a):a.es.Pairwise fun x y=>x.1<=y.1:=h.es.imp fun h=>by omega
def idx (l:List Nat) (x:Nat):Nat:=l.findIdx (· ==x)
structure FI (n:Nat) (out:List Nat):Prop where
 nd:out.Nodup
 lt:∀x∈out,x<n
theorem Qbk:∀(n:Nat) (l:List Nat),l.Nodup->(∀x∈l,x<n)->l.length<=n
 |0,l,_,h=>by
  cases l with
  |nil=>exact Nat.le_refl _
  |cons x l=>have:=h x (by simp);omega
 | n + 1, l, hn, h => by
  by_cases hm:n∈l
  ·have h1 := Qbk n (l.erase n) (hn.erase n) fun x hx => by
    grind
   simp_all
  ·have := Qbk n l hn fun x hx => by
    grind
   omega
theorem FI.len {n:Nat} {out:List Nat} (h:FI n out):out.length<=n:=Qbk n out h.nd h.lt
theorem Ql3 {l:List Nat} {x:Nat} (h:x∈l):idx l x<l.length:=List.findIdx_lt_length_of_exists ⟨x,h,by simp⟩
theorem Qe8 {l:List Nat} {f:Nat->List Ed} {R:Ed->Ed->Prop} (h1:∀i∈l,(f i).Pairwise R) (h2:l.Pairwise fun i j=>∀x∈f i,∀y∈f j,R x y):(l.flatMap f).Pairwise R:=by
 grind
end Go.AM.SD
namespace Go.AM.SD
abbrev OE:=List Nat×List Ed
def sEd (i:Nat) (s:OE) (e:Ed):OE:=if s.1.contains e.2.2 then(s.1,s.2++[(i,e.2.1,idx s.1 e.2.2)])else(s.1++[e.2.2],s.2++[(i,e.2.1,s.1.length)])
def sOut (es:List Ed) (left:Nat->Bool) (v:Nat):List Ed:=es.filter fun e=>e.1==v&&left e.2.2
def sRow (es:List Ed) (left:Nat->Bool) (i v:Nat) (s:OE):OE:=(sOut es left v).foldl (sEd i) s
def sQ (es:List Ed) (left:Nat->Bool):Nat->Nat->OE->OE
 |0,_,s=>s
 |k+1,i,s=>match s.1[i]? with|some v=>sQ es left k (i+1) (sRow es left i v s)|none=>s
def sAll (a:Aut) (left:Nat->Bool):OE:=sQ a.es left (a.n+1) 0 (if decide (0<a.n)&&left 0 then[0]else[],[])
def restr (a:Aut) (left:Nat->Bool):Aut:=⟨a.al,(sAll a left).1.length,(List.range (sAll a left).1.length).filter fun i=>a.ms.contains ((sAll a left).1.getD i 0),(sAll a left).2⟩
theorem Qd8 {l t:List Nat} {x:Nat} (h:x∈l):idx (l++t) x=idx l x:=by
 simp_all [idx,List.findIdx_append]
theorem Qd9 {l:List Nat} {x:Nat} (h:x∉l):idx (l++[x]) x=l.length:=by
 grind [idx]
def num (o:List Nat) (i:Nat) (e:Ed):Ed:=(i,e.2.1,idx o e.2.2)
theorem Qdq {n : Nat} {left : Nat -> Bool} (i : Nat) : ∀ (es2 : List Ed) (s : OE), (∀ e ∈ es2, e.2.2 < n /\ left e.2.2 = true) -> FI n s.1 -> (∀ x ∈ s.1, left x = true) ->
    FI n (es2.foldl (sEd i) s).1/\(∀x∈(es2.foldl (sEd i) s).1,left x=true)/\(∃t,(es2.foldl (sEd i) s).1=s.1++t)/\(∀e∈es2,e.2.2∈(es2.foldl (sEd i) s).1)/\(es2.foldl (sEd i) s).2=s.2++es2.map (num (es2.foldl (sEd i) s).1 i):=by
  intro es2
  induction es2 with
  |nil=>intro s _ h hl;exact⟨h,hl,⟨[],by simp⟩,(fun e he=>by cases he),by simp⟩
  | cons e es2 ih =>
    intro s hes h hl
    rw[List.foldl_cons]
    obtain⟨he1,he2⟩:=hes e (by simp)
    by_cases hc:s.1.contains e.2.2=true
    · have e1 : sEd i s e = (s.1, s.2 ++ [(i, e.2.1, idx s.1 e.2.2)]) := if_pos hc
      have hm:e.2.2∈s.1:=by simpa using hc
      rw[e1]
      obtain⟨k1,k2,⟨t,k3⟩,k4,k5⟩:=ih (s.1,s.2++[(i,e.2.1,idx s.1 e.2.2)]) (fun x hx=>hes x (by simp[hx])) h hl
      refine⟨k1,k2,⟨t,k3⟩,fun x hx=>?_,?_⟩
      · grind
      grind [num,Qd8]
    · have e1 : sEd i s e = (s.1 ++ [e.2.2], s.2 ++ [(i, e.2.1, s.1.length)]) := if_neg hc
      have hm:e.2.2∉s.1:=by simpa using hc
      rw[e1]
      obtain⟨k1,k2,⟨t,k3⟩,k4,k5⟩:=ih (s.1++[e.2.2],s.2++[(i,e.2.1,s.1.length)]) (fun x hx=>hes x (by simp[hx]))
        ⟨by
          rw[List.nodup_append]
          refine⟨h.nd,by simp,fun a ha b hb e=>?_⟩
          simp_all,fun x hx=>by
          rcases List.mem_append.1 hx with hx|hx
          · exact h.lt x hx
          simp_all⟩
        (fun x hx=>by
          grind)
      have k3:(es2.foldl (sEd i) (s.1++[e.2.2],s.2++[(i,e.2.1,s.1.length)])).1=(s.1++[e.2.2])++t:=k3
      refine⟨k1,k2,⟨[e.2.2]++t,by simp_all⟩,fun x hx=>?_,?_⟩
      · grind
      grind [num,Qd8,Qd9]
structure SI (n:Nat) (es:List Ed) (left:Nat->Bool) (i:Nat) (s:OE):Prop where
 fi:FI n s.1
 lft:∀x∈s.1,left x=true
 le:i<=s.1.length
 cl:∀j v,j<i->s.1[j]?=some v->∀e∈sOut es left v,e.2.2∈s.1
 ed:s.2=(List.range i).flatMap fun j=>(sOut es left (s.1.getD j 0)).map (num s.1 j)
theorem Qa2 {es:List Ed} {left:Nat->Bool} {v:Nat} {e:Ed}:e∈sOut es left v↔e∈es/\e.1=v/\left e.2.2=true:=by
 simp_all [sOut]
theorem SI.step {n : Nat} {es : List Ed} {left : Nat -> Bool} (hn : ∀ e ∈ es, e.1 < n /\ e.2.2 < n) {i v : Nat} {s : OE} (h : SI n es left i s) (hv : s.1[i]? = some v) : SI n es left (i + 1) (sRow es left i v s) := by
  obtain⟨k1,k2,⟨t,k3⟩,k4,k5⟩:=Qdq i (sOut es left v) s (fun e he=>⟨(hn e (Qa2.1 he).1).2,(Qa2.1 he).2.2⟩) h.fi h.lft
  have hil:i<s.1.length:=(List.getElem?_eq_some_iff.1 hv).1
  have k3:(sRow es left i v s).1=s.1++t:=k3
  have hget:∀j,j<s.1.length->(sRow es left i v s).1.getD j 0=s.1.getD j 0:=fun j hj=>by
    grind
  refine⟨k1,k2,by grind,fun j u hj hu e he=>?_,?_⟩
  · rw [k3, List.getElem?_append_left (by omega)] at hu
    by_cases hji:j<i
    · rw[k3];exact List.mem_append_left _ (h.cl j u hji hu e he)
    grind
  · show (sRow es left i v s).2 = _
    have k5:(sRow es left i v s).2=s.2++(sOut es left v).map (num (sRow es left i v s).1 i):=k5
    rw[k5,h.ed,List.range_succ,List.flatMap_append]
    congr 1
    · have : ∀ j ∈ List.range i, (sOut es left (s.1.getD j 0)).map (num s.1 j) = (sOut es left ((sRow es left i v s).1.getD j 0)).map (num (sRow es left i v s).1 j) := fun j hj => by
        have hj:=List.mem_range.1 hj
        rw[hget j (by omega)]
        have hjg:s.1[j]?=some (s.1.getD j 0):=by
          grind
        refine List.map_congr_left fun e he=>?_
        unfold num
        rw[k3,Qd8 (h.cl j _ hj hjg e he)]
      grind [List.map_congr_left]
    simp_all
theorem sQ_ok {n:Nat} {es:List Ed} {left:Nat->Bool} (hn:∀e∈es,e.1<n/\e.2.2<n):∀(k i:Nat) (s:OE),SI n es left i s->n<k+i->SI n es left (sQ es left k i s).1.length (sQ es left k i s)/\∃t,(sQ es left k i s).1=s.1++t:=by
 intro k
 induction k with
 |zero=>intro i s h hk;have:=h.fi.len;have:=h.le;omega
 | succ k ih =>
  intro i s h hk
  unfold sQ
  cases hv:s.1[i]? with
  |some v=>
   obtain⟨h1,t,h2⟩:=ih (i+1) _ (h.step hn hv) (by omega)
   obtain⟨_,_,⟨t0,k3⟩,_,_⟩:=Qdq i (sOut es left v) s (fun e he=>⟨(hn e (Qa2.1 he).1).2,(Qa2.1 he).2.2⟩) h.fi h.lft
   have k3:(sRow es left i v s).1=s.1++t0:=k3
   exact⟨h1,t0++t,by simp_all⟩
  |none=>
   have:s.1.length=i:=by have:=List.getElem?_eq_none_iff.1 hv;have:=h.le;omega
   dsimp only
   rw[this];exact⟨h,[],by simp⟩
theorem QlH {a:Aut} {left:Nat->Bool} (h:WfA a):SI a.n a.es left (sAll a left).1.length (sAll a left)/\∃t,(sAll a left).1=(if decide (0<a.n)&&left 0 then[0]else[])++t:=by
 refine sQ_ok h.esn (a.n+1) 0 _ ?_ (by omega)
 refine⟨?_,fun x hx=>?_,Nat.zero_le _,fun j v hj=>by omega,by simp⟩
 ·split
  ·rename_i hc
   simp only[Bool.and_eq_true,decide_eq_true_eq]at hc
   exact⟨by simp,fun x hx=>by simp_all⟩
  ·exact⟨by simp,fun x hx=>by cases hx⟩
 simp_all
theorem Qlc {a:Aut} {left:Nat->Bool} (h:WfA a):WfA (restr a left):=by
 obtain⟨hs,_⟩:=QlH (left:=left) h
 have hmem:∀(j:Nat) (e:Ed),j<(sAll a left).1.length->e∈(sOut a.es left ((sAll a left).1.getD j 0)).map (num (sAll a left).1 j)->∃e'∈a.es,e'.1=(sAll a left).1.getD j 0/\e=(j,e'.2.1,idx (sAll a left).1 e'.2.2)/\e'.2.2∈(sAll a left).1:=by
  intro j e hj he
  obtain⟨e',he',rfl⟩:=List.mem_map.1 he
  have hjg:(sAll a left).1[j]?=some ((sAll a left).1.getD j 0):=by
   simp_all
  exact⟨e',(Qa2.1 he').1,(Qa2.1 he').2.1,rfl,hs.cl j _ hj hjg e' he'⟩
 refine⟨h.al,h.al5,Nat.le_trans hs.fi.len h.n5,List.pairwise_lt_range.filter _,fun x hx=>List.mem_range.1 (List.mem_filter.1 hx).1,?_,fun e he=>?_,fun e he=>?_⟩
 ·show (sAll a left).2.Pairwise _
  rw[hs.ed]
  refine Qe8 (fun j hj=>?_) (List.pairwise_lt_range.imp_of_mem fun{i j} hi hj hij x hx y hy=> .inl ?_)
  ·rw [List.pairwise_map]
   have:(sOut a.es left ((sAll a left).1.getD j 0)).Pairwise fun x y=>x.1<y.1\/(x.1=y.1/\x.2.1<y.2.1):=h.es.filter _
   refine this.imp_of_mem fun{x y} hx hy hxy=> .inr ⟨rfl,?_⟩
   have h1:=(Qa2.1 hx).2.1
   have h2:=(Qa2.1 hy).2.1
   show x.2.1<y.2.1
   omega
  grind
 ·have he : e ∈ (sAll a left).2 := he
  rw[hs.ed]at he
  obtain⟨j,hj,he⟩:=List.mem_flatMap.1 he
  obtain⟨e',_,_,e1,e2⟩:=hmem j e (List.mem_range.1 hj) he
  rw[e1];exact⟨List.mem_range.1 hj,Ql3 e2⟩
 ·have he : e ∈ (sAll a left).2 := he
  rw[hs.ed]at he
  obtain⟨j,hj,he⟩:=List.mem_flatMap.1 he
  obtain⟨e',h3,_,e1,e2⟩:=hmem j e (List.mem_range.1 hj) he
  rw[e1];exact h.ev e' h3
end Go.AM.SD
