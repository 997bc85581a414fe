/- A part of the proof of CatalogueWordsCardSaid: lemmas on the way (AnDc, AnDd, AnDe, AnDf, AnDg, AnDi). Conditions: none of ours. -/
import Derived.Test.YteiijgolpigjdaaGreatDoorAmW11
set_option linter.unusedSectionVars false
set_option maxHeartbeats 32000000
set_option maxRecDepth 100000
set_option linter.unusedVariables false
set_option linter.unusedSimpArgs false
namespace Go.AM.SD
def bad (left:Nat->Bool) (unc:List Nat) (e:Ed):Bool:=left e.1&& !left e.2.2&&unc.contains e.2.1
def pLs (left:Nat->Bool) (unc:List Nat) (out:List (Nat×Nat)) (e:Ed):List (Nat×Nat):=
 if bad left unc e then(if(match out.getLast? with|some p=>p.1==e.1|none=>false)then out else out++[(e.1,e.2.1)])else out
def pLost (es:List Ed) (left:Nat->Bool) (unc:List Nat):List (Nat×Nat):=es.foldl (pLs left unc) []
def rL1 (es:List Ed) (left:Nat->Bool) (unc:List Nat) (st:Nat):Option (Nat×Nat):=
 if left st then(es.find? fun e=>e.1==st&& !left e.2.2&&unc.contains e.2.1).map fun e=>(st,e.2.1)else none
def rLost (n:Nat) (es:List Ed) (left:Nat->Bool) (unc:List Nat):List (Nat×Nat):=(List.range n).filterMap (rL1 es left unc)
theorem QoF {l l':List (Nat×Nat)} (h:l.Pairwise fun a b=>a.1<b.1) (h':l'.Pairwise fun a b=>a.1<b.1) (hm:∀p,p∈l↔p∈l'):l=l':=by
 induction l generalizing l' with
 |nil=>
  cases l' with
  |nil=>rfl
  |cons p l'=>exact absurd ((hm p).2 (by simp)) (by simp)
 | cons p l ih =>
  cases l' with
  |nil=>exact absurd ((hm p).1 (by simp)) (by simp)
  | cons q l' =>
   rw[List.pairwise_cons]at h h'
   have e:p=q:=by
    grind
   subst e
   rw[ih h.2 h'.2 fun r=>?_]
   constructor
   ·grind
   ·grind
theorem QfU (n:Nat) (es:List Ed) (left:Nat->Bool) (unc:List Nat):(rLost n es left unc).Pairwise fun a b=>a.1<b.1:=by
 unfold rLost
 refine List.Pairwise.filterMap _ (R:=(· < ·)) ?_ List.pairwise_lt_range
 intro a b hab p hp q hq
 have h1:∀(st:Nat) (p:Nat×Nat),rL1 es left unc st=some p->p.1=st:=by
  simp_all [rL1]
 grind
theorem Qjq {n:Nat} {es:List Ed} {left:Nat->Bool} {unc:List Nat} {p:Nat×Nat}:p∈rLost n es left unc↔p.1<n/\rL1 es left unc p.1=some p:=by
 unfold rLost
 rw[List.mem_filterMap]
 have h1:∀(st:Nat) (p:Nat×Nat),rL1 es left unc st=some p->p.1=st:=by
  simp_all [rL1]
 grind
theorem Qiu {pre:List Ed} {e:Ed} {left:Nat->Bool} {unc:List Nat} (st:Nat):
  rL1 (pre++[e]) left unc st=match rL1 pre left unc st with|some p=>some p|none=>if e.1==st&&bad left unc e then some (st,e.2.1)else none:=by
 grind [rL1,bad]
theorem QoG {left : Nat -> Bool} {unc : List Nat} : ∀ (es2 pre : List Ed) (out : List (Nat × Nat)), (pre ++ es2).Pairwise (fun a b => a.1 <= b.1) -> out.Pairwise (fun a b => a.1 < b.1) -> (∀ p, p ∈ out ↔ rL1 pre left unc p.1 = some p) -> (∀ p ∈ out, ∃ e ∈ pre, e.1 = p.1) ->
  (es2.foldl (pLs left unc) out).Pairwise (fun a b=>a.1<b.1)/\∀p,p∈es2.foldl (pLs left unc) out↔rL1 (pre++es2) left unc p.1=some p:=by
 intro es2
 induction es2 with
 |nil=>intro pre out _ h1 h2 _;rw[List.append_nil];exact⟨h1,h2⟩
 | cons e es2 ih =>
  intro pre out hs h1 h2 h3
  have ea:pre++e::es2=(pre++[e])++es2:=by simp
  rw[ea]at hs⊢
  rw[List.foldl_cons]
  have hge:∀p∈out,p.1<=e.1:=fun p hp=>by
   obtain⟨x,hx,hxe⟩:=h3 p hp
   rw[List.pairwise_append]at hs
   have:=(List.pairwise_append.1 hs.1).2.2 x hx e (by simp)
   omega
  by_cases hb:bad left unc e=true
  ·by_cases hlast : (match out.getLast? with | some p => p.1 == e.1 | none => false) = true
   ·have e1 : pLs left unc out e = out := by grind [pLs]
    rw[e1]
    refine ih (pre++[e]) out hs h1 (fun p=>?_) fun p hp=>?_
    ·rw [Qiu]
     cases hr:rL1 pre left unc p.1 with
     |some q=>rw[h2 p,hr]
     | none =>
      have hnp:¬p∈out:=fun hp=>by grind
      have hne:(e.1==p.1)=false:=by
       grind
      simp only[hne,Bool.false_and,Bool.false_eq_true,if_false]
      exact⟨fun hp=>absurd hp hnp,fun h=>by cases h⟩
    ·obtain ⟨x, hx, hxe⟩ := h3 p hp
     grind
   ·have e1 : pLs left unc out e = out ++ [(e.1, e.2.1)] := by grind [pLs]
    have hlt:∀p∈out,p.1<e.1:=by
     intro p hp
     cases hg:out.getLast? with
     |none=>rw[List.getLast?_eq_none_iff]at hg;subst hg;cases hp
     | some q =>
      rw[hg]at hlast
      have hqe:q.1≠e.1:=by grind
      have hq:q∈out:=List.mem_of_getLast? hg
      have hqle:=hge q hq
      obtain⟨init,hi⟩:∃init,out=init++[q]:=by
       grind [List.getLast?_eq_some_iff]
      rw[hi]at hp h1
      rcases List.mem_append.1 hp with hp|hp
      ·grind
      ·grind
    rw[e1]
    refine ih (pre++[e]) _ hs (List.pairwise_append.2 ⟨h1,by simp,fun p hp q hq=>by grind⟩) (fun p=>?_) fun p hp=>?_
    ·rw [Qiu, List.mem_append, List.mem_singleton]
     cases hr:rL1 pre left unc p.1 with
     | some q =>
      have hq1:p.1=q.1:=by
       unfold rL1 at hr
       split at hr
       ·cases hf : pre.find? fun e => e.1 == p.1 && !left e.2.2 && unc.contains e.2.1 with
        |none=>rw[hf]at hr;cases hr
        |some e=>rw[hf]at hr;cases hr;rfl
       ·cases hr
      have hqm:q∈out:=(h2 q).2 (by grind)
      have hne:p≠(e.1,e.2.1):=by
       grind
      simp only[hne,or_false]
      rw[h2 p,hr]
     |none=>
      have hnp:¬p∈out:=fun hp=>by grind
      simp only[hnp,false_or]
      by_cases hep:e.1=p.1
      ·grind
      ·grind
    ·rcases List.mem_append.1 hp with hp | hp
     ·obtain ⟨x, hx, hxe⟩ := h3 p hp
      grind
     grind
  ·have e1 : pLs left unc out e = out := by grind [pLs]
   rw[e1]
   refine ih (pre++[e]) out hs h1 (fun p=>?_) fun p hp=>?_
   ·rw [Qiu]
    grind
   ·obtain ⟨x, hx, hxe⟩ := h3 p hp
    grind
theorem QpS {n:Nat} {es:List Ed} {left:Nat->Bool} {unc:List Nat} (hs:es.Pairwise fun a b=>a.1<=b.1) (hn:∀e∈es,e.1<n):pLost es left unc=rLost n es left unc:=by
 obtain⟨h1,h2⟩:=QoG (left:=left) (unc:=unc) es [] [] (by simpa using hs) List.Pairwise.nil (fun p=>by simp[rL1]) (fun p hp=>by cases hp)
 rw[List.nil_append]at h2
 refine QoF h1 (QfU n es left unc) fun p=>?_
 rw[Qjq]
 refine(h2 p).trans ⟨fun h=>⟨?_,h⟩,fun h=>h.2⟩
 unfold rL1 at h
 split at h
 ·cases hf : es.find? fun e => e.1 == p.1 && !left e.2.2 && unc.contains e.2.1 with
  |none=>rw[hf]at h;cases h
  |some e=>
   have h3:=List.mem_of_find?_eq_some hf
   have h4:=List.find?_some hf
   simp only[Bool.and_eq_true,beq_iff_eq]at h4
   have:=hn e h3
   omega
 ·cases h
structure Rm where
 st:Nat
 rank:Int
 reason:Nat
 ev:Int
deriving DecidableEq
def lostF (rank:Int) (l:List (Nat×Nat)):List Rm:=l.map fun p=>⟨p.1,rank,2,(p.2:Int)⟩
def blkF (left:Nat->Bool) (rank:Int) (d:List Int):List Rm:=(List.range d.length).filterMap fun i=>if left i&&decide (d.getD i 0<0)then some ⟨i,rank,3,-1⟩else none
def pNext (n:Nat) (es:List Ed) (mk:List Nat) (left:Nat->Bool) (unc:List Nat) (rank:Int) (all:Bool):List Rm:=
 if decide (0<(pLost es left unc).length)|| !all then lostF rank (pLost es left unc)else blkF left rank (pDist n es mk left)
end Go.AM.SD
namespace Go.AM.SD
abbrev LB:=List Bool
def lf (l:LB):Nat->Bool:=fun i=>l.getD i false
def offs (l:LB) (xs:List Nat):LB:=xs.foldl (fun l x=>l.set x false) l
def pRounds (n:Nat) (es:List Ed) (mk:List Nat) (unc:List Nat) (all:Bool):Nat->Nat->LB->List Rm->Nat->LB×List Rm×Nat
 |0,_,l,rs,k=>(l,rs,k)
 |f+1,rank,l,rs,k=>
  if(pNext n es mk (lf l) unc rank all).length=0 then(l,rs,k)
  else pRounds n es mk unc all f (rank+1) (offs l ((pNext n es mk (lf l) unc rank all).map (·.st))) (rs++pNext n es mk (lf l) unc rank all) rank
def putR (rs:List Rm) (l:List Rm):List Rm:=l.foldl (fun rs x=>rs.set x.st x) rs
def rm0 (i:Nat):Rm:=⟨i,1,1,-1⟩
theorem Qhj (xs:List Nat):∀l:LB,(offs l xs).length=l.length:=by
 induction xs with
 |nil=>intro l;rfl
 |cons x xs ih=>intro l;show(offs (l.set x false) xs).length=_;rw[ih];simp
theorem Qgc (xs:List Nat):∀(l:LB) (i:Nat),lf (offs l xs) i=(lf l i&& !xs.contains i):=by
 induction xs with
 |nil=>intro l i;simp[offs,lf]
 | cons x xs ih =>
  intro l i
  show lf (offs (l.set x false) xs) i=_
  rw[ih]
  have:lf (l.set x false) i=(lf l i&& !(i==x)):=by
   grind [lf]
  rw[this,List.contains_cons]
  cases lf l i<;>cases(i==x)<;>cases xs.contains i<;>rfl
theorem QpT {n:Nat} {es:List Ed} {mk:List Nat} {left:Nat->Bool} {unc:List Nat} {rank:Int} {all:Bool} (hin:InN n es mk) (hnd:mk.Nodup) (hs:es.Pairwise fun a b=>a.1<=b.1):
  (pNext n es mk left unc rank all).Pairwise (fun a b=>a.st<b.st)/\∀r∈pNext n es mk left unc rank all,r.st<n/\left r.st=true:=by
 have hd:(pDist n es mk left).length=n:=(QoE hin (n+1) 0 _ (Qit (left:=left) hin hnd) (by omega)).1
 unfold pNext
 split
 ·unfold lostF
  rw[QpS hs fun e he=>(hin.1 e he).1]
  constructor
  ·simp_all [List.pairwise_map,QfU]
  ·intro r hr
   obtain⟨p,hp,rfl⟩:=List.mem_map.1 hr
   simp_all [Qjq,rL1]
 ·unfold blkF
  rw[hd]
  constructor
  ·grind [List.pairwise_lt_range]
  grind
def cntL (n:Nat) (l:LB):Nat:=(List.range n).countP fun i=>lf l i
theorem QqE {n:Nat} {l l':LB} (h:∀i,i<n->lf l' i=true->lf l i=true) {x:Nat} (hx:x<n) (h1:lf l x=true) (h2:lf l' x=false):cntL n l'<cntL n l:=by
 unfold cntL
 have hmem:x∈List.range n:=List.mem_range.2 hx
 have hmono:∀y∈List.range n,lf l' y=true->lf l y=true:=fun y hy=>h y (List.mem_range.1 hy)
 generalize List.range n=L at hmem hmono
 induction L with
 |nil=>cases hmem
 |cons y L ih=>
  have hle:L.countP (fun x=>lf l' x)<=L.countP (fun x=>lf l x):=List.countP_mono_left fun z hz h5=>hmono z (by simp[hz]) h5
  rw[List.countP_cons,List.countP_cons]
  rcases List.mem_cons.1 hmem with e|hm
  ·grind
  ·grind
theorem Qh0 {xs:List Nat} {r:Nat} (h:r∈xs):xs.contains r=true:=by simpa using h
structure Agr (n:Nat) (l:LB) (rs rr:List Rm):Prop where
 len:rr.length=n
 st:∀(i:Nat) (r:Rm),rr[i]?=some r->r.st=i
 nd:(rs.map (·.st)).Nodup
 mem:∀r:Rm,r∈rs↔r.st<n/\lf l r.st=false/\rr[r.st]?=some r
theorem QpU (l:List Rm):∀rs,(putR rs l).length=rs.length:=by
 induction l with
 |nil=>intro rs;rfl
 |cons x l ih=>intro rs;show(putR (rs.set x.st x) l).length=_;rw[ih];simp
theorem QpV:∀(l:List Rm) (rs:List Rm) (i:Nat),(∀r∈l,r.st<rs.length)->l.Pairwise (fun a b=>a.st<b.st)->(putR rs l)[i]?=match l.find? (fun r=>r.st==i)with|some r=>some r|none=>rs[i]?:=by
 intro l
 induction l with
 |nil=>intro rs i _ _;rfl
 |cons x l ih=>
  intro rs i hl hp
  rw[List.pairwise_cons]at hp
  show(putR (rs.set x.st x) l)[i]?=_
  rw[ih _ i (fun r hr=>by simp_all) hp.2]
  have hxl:=hl x (by simp)
  by_cases e:x.st=i
  ·grind
  ·simp_all
theorem Agr.step {n:Nat} {l:LB} {rs rr nx:List Rm} (h:Agr n l rs rr) (hl:l.length=n) (hp:nx.Pairwise fun a b=>a.st<b.st) (hm:∀r∈nx,r.st<n/\lf l r.st=true):Agr n (offs l (nx.map (·.st))) (rs++nx) (putR rr nx):=by
 have hg:=fun i=>QpV nx rr i (fun r hr=>by rw[h.len];simp_all) hp
 have hfind:∀r∈nx,nx.find? (fun q=>q.st==r.st)=some r:=by
  intro r hr
  cases hf:nx.find? (fun q=>q.st==r.st)with
  |none=>rw[List.find?_eq_none]at hf;exact absurd (hf r hr) (by simp)
  | some q =>
   have hq:=List.mem_of_find?_eq_some hf
   have hqs:q.st=r.st:=by grind
   have:q=r:=by
    clear hf hg
    induction nx with
    |nil=>cases hr
    |cons y nx ih=>
     rw[List.pairwise_cons]at hp
     rcases List.mem_cons.1 hr with e|hr2<;>rcases List.mem_cons.1 hq with e2|hq2
     ·rw[e,e2]
     ·grind
     ·grind
     ·simp_all
   rw[this]
 refine⟨by rw[QpU,h.len],fun i r hr=>?_,?_,fun r=>?_⟩
 ·rw [hg] at hr
  cases hf:nx.find? (fun q=>q.st==i)with
  |some q=>rw[hf]at hr;cases hr;simpa using List.find?_some hf
  |none=>rw[hf]at hr;exact h.st i r hr
 ·rw [List.map_append, List.nodup_append]
  refine⟨h.nd,?_,fun a ha b hb e=>?_⟩
  ·rw [List.nodup_iff_pairwise_ne, List.pairwise_map]
   exact hp.imp fun h=>by omega
  ·subst e
   obtain⟨r,hr,rfl⟩:=List.mem_map.1 ha
   obtain⟨q,hq,hqr⟩:=List.mem_map.1 hb
   have h1:=((h.mem r).1 hr).2.1
   grind
 ·rw [List.mem_append, Qgc, hg]
  constructor
  ·rintro (hr | hr)
   ·obtain ⟨h1, h2, h3⟩ := (h.mem r).1 hr
    grind
   grind
  ·rintro ⟨h1, h2, h3⟩
   cases hf:nx.find? (fun q=>q.st==r.st)with
   |some q=>
    rw[hf]at h3;cases h3
    exact .inr (List.mem_of_find?_eq_some hf)
   | none =>
    rw[hf]at h3
    refine .inl ((h.mem r).2 ⟨h1,?_,h3⟩)
    have:(nx.map (·.st)).contains r.st=false:=by
     simp_all
    rw[this]at h2;simpa using h2
end Go.AM.SD
namespace Go.AM.SD
def left0 (n:Nat) (forb:List Nat):LB:=offs (List.replicate n true) forb
theorem Qk3 {n:Nat} {forb:List Nat} {x:Nat}:lf (left0 n forb) x=true↔x<n/\x∉forb:=by
 grind [left0,Qgc,lf]
def fin (n:Nat) (es:List Ed) (mk:List Nat) (forb unc:List Nat) (all:Bool):LB×List Rm×Nat:=
 pRounds n es mk unc all (n+1) 2 (left0 n forb) (forb.map rm0) (if forb.length=0 then 0 else 1)
end Go.AM.SD
namespace Go.AM.SD
structure Aut where
 al:List Nat
 n:Nat
 ms:List Nat
 es:List Ed
structure WfA (a:Aut):Prop where
 al:a.al.Pairwise (· < ·)
 al5:∀x∈a.al,x<32
 n5:a.n<=4096
 ms:a.ms.Pairwise (· < ·)
 msn:∀x∈a.ms,x<a.n
 es:a.es.Pairwise fun x y=>x.1<y.1\/(x.1=y.1/\x.2.1<y.2.1)
 esn:∀e∈a.es,e.1<a.n/\e.2.2<a.n
 ev:∀e∈a.es,e.2.1∈a.al
theorem WfA.inN {a:Aut} (h:WfA a):InN a.n a.es a.ms:=⟨h.esn,h.msn⟩
theorem WfA.nd {a:Aut} (h:WfA a):a.ms.Nodup:=by
 rw[List.nodup_iff_pairwise_ne];exact h.ms.imp fun h=>by omega
theorem WfA.srt {a:Aut} (h:WfA a):a.es.Pairwise fun x y=>x.1<=y.1:=h.es.imp fun h=>by omega
def stepA (es:List Ed) (s ev:Nat):Option Nat:=(es.find? fun e=>e.1==s&&e.2.1==ev).map (·.2.2)
def idx (l:List Nat) (x:Nat):Nat:=l.findIdx (· ==x)
theorem Qk4 {n:Nat} {es:List Ed} (hn:∀e∈es,e.1<n/\e.2.2<n) {s ev to:Nat} (h:stepA es s ev=some to):to<n:=by
 unfold stepA at h
 cases hf:es.find? fun e=>e.1==s&&e.2.1==ev with
 |none=>rw[hf]at h;cases h
 |some e=>rw[hf]at h;cases h;exact(hn e (List.mem_of_find?_eq_some hf)).2
structure FI (n:Nat) (out:List Nat):Prop where
 nd:out.Nodup
 lt:∀x∈out,x<n
theorem Qbb:∀(n:Nat) (l:List Nat),l.Nodup->(∀x∈l,x<n)->l.length<=n
 |0,l,_,h=>by
  cases l with
  |nil=>exact Nat.le_refl _
  |cons x l=>have:=h x (by simp);omega
 | n + 1, l, hn, h => by
  by_cases hm:n∈l
  ·have h1 := Qbb n (l.erase n) (hn.erase n) fun x hx => by
    grind
   simp_all
  ·have := Qbb n l hn fun x hx => by
    grind
   omega
theorem FI.len {n:Nat} {out:List Nat} (h:FI n out):out.length<=n:=Qbb n out h.nd h.lt
theorem Qrs {l:List Nat} {x:Nat} (h:x∈l):idx l x<l.length:=List.findIdx_lt_length_of_exists ⟨x,h,by simp⟩
theorem Qhk {l:List Nat} {f:Nat->List Ed} {R:Ed->Ed->Prop} (h1:∀i∈l,(f i).Pairwise R) (h2:l.Pairwise fun i j=>∀x∈f i,∀y∈f j,R x y):(l.flatMap f).Pairwise R:=by
 grind
end Go.AM.SD
namespace Go.AM.SD
abbrev OE:=List Nat×List Ed
def sEd (i:Nat) (s:OE) (e:Ed):OE:=if s.1.contains e.2.2 then(s.1,s.2++[(i,e.2.1,idx s.1 e.2.2)])else(s.1++[e.2.2],s.2++[(i,e.2.1,s.1.length)])
def sOut (es:List Ed) (left:Nat->Bool) (v:Nat):List Ed:=es.filter fun e=>e.1==v&&left e.2.2
def sRow (es:List Ed) (left:Nat->Bool) (i v:Nat) (s:OE):OE:=(sOut es left v).foldl (sEd i) s
def sQ (es:List Ed) (left:Nat->Bool):Nat->Nat->OE->OE
 |0,_,s=>s
 |k+1,i,s=>match s.1[i]? with|some v=>sQ es left k (i+1) (sRow es left i v s)|none=>s
def sAll (a:Aut) (left:Nat->Bool):OE:=sQ a.es left (a.n+1) 0 (if decide (0<a.n)&&left 0 then[0]else[],[])
def restr (a:Aut) (left:Nat->Bool):Aut:=⟨a.al,(sAll a left).1.length,(List.range (sAll a left).1.length).filter fun i=>a.ms.contains ((sAll a left).1.getD i 0),(sAll a left).2⟩
theorem QeG {l t:List Nat} {x:Nat} (h:x∈l):idx (l++t) x=idx l x:=by
 simp_all [idx,List.findIdx_append]
theorem QeH {l:List Nat} {x:Nat} (h:x∉l):idx (l++[x]) x=l.length:=by
 grind [idx]
def num (o:List Nat) (i:Nat) (e:Ed):Ed:=(i,e.2.1,idx o e.2.2)
theorem Qd8 {n : Nat} {left : Nat -> Bool} (i : Nat) : ∀ (es2 : List Ed) (s : OE), (∀ e ∈ es2, e.2.2 < n /\ left e.2.2 = true) -> FI n s.1 -> (∀ x ∈ s.1, left x = true) ->
    FI n (es2.foldl (sEd i) s).1/\(∀x∈(es2.foldl (sEd i) s).1,left x=true)/\(∃t,(es2.foldl (sEd i) s).1=s.1++t)/\(∀e∈es2,e.2.2∈(es2.foldl (sEd i) s).1)/\(es2.foldl (sEd i) s).2=s.2++es2.map (num (es2.foldl (sEd i) s).1 i):=by
  intro es2
  induction es2 with
  |nil=>intro s _ h hl;exact⟨h,hl,⟨[],by simp⟩,(fun e he=>by cases he),by simp⟩
  | cons e es2 ih =>
    intro s hes h hl
    rw[List.foldl_cons]
    obtain⟨he1,he2⟩:=hes e (by simp)
    by_cases hc:s.1.contains e.2.2=true
    · have e1 : sEd i s e = (s.1, s.2 ++ [(i, e.2.1, idx s.1 e.2.2)]) := if_pos hc
      have hm:e.2.2∈s.1:=by simpa using hc
      rw[e1]
      obtain⟨k1,k2,⟨t,k3⟩,k4,k5⟩:=ih (s.1,s.2++[(i,e.2.1,idx s.1 e.2.2)]) (fun x hx=>hes x (by simp[hx])) h hl
      refine⟨k1,k2,⟨t,k3⟩,fun x hx=>?_,?_⟩
      · grind
      grind [num,QeG]
    · have e1 : sEd i s e = (s.1 ++ [e.2.2], s.2 ++ [(i, e.2.1, s.1.length)]) := if_neg hc
      have hm:e.2.2∉s.1:=by simpa using hc
      rw[e1]
      obtain⟨k1,k2,⟨t,k3⟩,k4,k5⟩:=ih (s.1++[e.2.2],s.2++[(i,e.2.1,s.1.length)]) (fun x hx=>hes x (by simp[hx]))
        ⟨by
          rw[List.nodup_append]
          refine⟨h.nd,by simp,fun a ha b hb e=>?_⟩
          simp_all,fun x hx=>by
          rcases List.mem_append.1 hx with hx|hx
          · exact h.lt x hx
          simp_all⟩
        (fun x hx=>by
          grind)
      have k3:(es2.foldl (sEd i) (s.1++[e.2.2],s.2++[(i,e.2.1,s.1.length)])).1=(s.1++[e.2.2])++t:=k3
      refine⟨k1,k2,⟨[e.2.2]++t,by simp_all⟩,fun x hx=>?_,?_⟩
      · grind
      grind [num,QeG,QeH]
structure SI (n:Nat) (es:List Ed) (left:Nat->Bool) (i:Nat) (s:OE):Prop where
 fi:FI n s.1
 lft:∀x∈s.1,left x=true
 le:i<=s.1.length
 cl:∀j v,j<i->s.1[j]?=some v->∀e∈sOut es left v,e.2.2∈s.1
 ed:s.2=(List.range i).flatMap fun j=>(sOut es left (s.1.getD j 0)).map (num s.1 j)
theorem Qbs {es:List Ed} {left:Nat->Bool} {v:Nat} {e:Ed}:e∈sOut es left v↔e∈es/\e.1=v/\left e.2.2=true:=by
 simp_all [sOut]
theorem SI.step {n : Nat} {es : List Ed} {left : Nat -> Bool} (hn : ∀ e ∈ es, e.1 < n /\ e.2.2 < n) {i v : Nat} {s : OE} (h : SI n es left i s) (hv : s.1[i]? = some v) : SI n es left (i + 1) (sRow es left i v s) := by
  obtain⟨k1,k2,⟨t,k3⟩,k4,k5⟩:=Qd8 i (sOut es left v) s (fun e he=>⟨(hn e (Qbs.1 he).1).2,(Qbs.1 he).2.2⟩) h.fi h.lft
  have hil:i<s.1.length:=(List.getElem?_eq_some_iff.1 hv).1
  have k3:(sRow es left i v s).1=s.1++t:=k3
  have hget:∀j,j<s.1.length->(sRow es left i v s).1.getD j 0=s.1.getD j 0:=fun j hj=>by
    grind
  refine⟨k1,k2,by grind,fun j u hj hu e he=>?_,?_⟩
  · rw [k3, List.getElem?_append_left (by omega)] at hu
    by_cases hji:j<i
    · rw[k3];exact List.mem_append_left _ (h.cl j u hji hu e he)
    grind
  · show (sRow es left i v s).2 = _
    have k5:(sRow es left i v s).2=s.2++(sOut es left v).map (num (sRow es left i v s).1 i):=k5
    rw[k5,h.ed,List.range_succ,List.flatMap_append]
    congr 1
    · have : ∀ j ∈ List.range i, (sOut es left (s.1.getD j 0)).map (num s.1 j) = (sOut es left ((sRow es left i v s).1.getD j 0)).map (num (sRow es left i v s).1 j) := fun j hj => by
        have hj:=List.mem_range.1 hj
        rw[hget j (by omega)]
        have hjg:s.1[j]?=some (s.1.getD j 0):=by
          grind
        refine List.map_congr_left fun e he=>?_
        unfold num
        rw[k3,QeG (h.cl j _ hj hjg e he)]
      grind [List.map_congr_left]
    simp_all
theorem sQ_ok {n:Nat} {es:List Ed} {left:Nat->Bool} (hn:∀e∈es,e.1<n/\e.2.2<n):∀(k i:Nat) (s:OE),SI n es left i s->n<k+i->SI n es left (sQ es left k i s).1.length (sQ es left k i s)/\∃t,(sQ es left k i s).1=s.1++t:=by
 intro k
 induction k with
 |zero=>intro i s h hk;have:=h.fi.len;have:=h.le;omega
 | succ k ih =>
  intro i s h hk
  unfold sQ
  cases hv:s.1[i]? with
  |some v=>
   obtain⟨h1,t,h2⟩:=ih (i+1) _ (h.step hn hv) (by omega)
   obtain⟨_,_,⟨t0,k3⟩,_,_⟩:=Qd8 i (sOut es left v) s (fun e he=>⟨(hn e (Qbs.1 he).1).2,(Qbs.1 he).2.2⟩) h.fi h.lft
   have k3:(sRow es left i v s).1=s.1++t0:=k3
   exact⟨h1,t0++t,by simp_all⟩
  |none=>
   have:s.1.length=i:=by have:=List.getElem?_eq_none_iff.1 hv;have:=h.le;omega
   dsimp only
   rw[this];exact⟨h,[],by simp⟩
theorem QqF {a:Aut} {left:Nat->Bool} (h:WfA a):SI a.n a.es left (sAll a left).1.length (sAll a left)/\∃t,(sAll a left).1=(if decide (0<a.n)&&left 0 then[0]else[])++t:=by
 refine sQ_ok h.esn (a.n+1) 0 _ ?_ (by omega)
 refine⟨?_,fun x hx=>?_,Nat.zero_le _,fun j v hj=>by omega,by simp⟩
 ·split
  ·rename_i hc
   simp only[Bool.and_eq_true,decide_eq_true_eq]at hc
   exact⟨by simp,fun x hx=>by simp_all⟩
  ·exact⟨by simp,fun x hx=>by cases hx⟩
 simp_all
theorem Qk5 {a:Aut} {left:Nat->Bool} (h:WfA a):WfA (restr a left):=by
 obtain⟨hs,_⟩:=QqF (left:=left) h
 have hmem:∀(j:Nat) (e:Ed),j<(sAll a left).1.length->e∈(sOut a.es left ((sAll a left).1.getD j 0)).map (num (sAll a left).1 j)->∃e'∈a.es,e'.1=(sAll a left).1.getD j 0/\e=(j,e'.2.1,idx (sAll a left).1 e'.2.2)/\e'.2.2∈(sAll a left).1:=by
  intro j e hj he
  obtain⟨e',he',rfl⟩:=List.mem_map.1 he
  have hjg:(sAll a left).1[j]?=some ((sAll a left).1.getD j 0):=by
   simp_all
  exact⟨e',(Qbs.1 he').1,(Qbs.1 he').2.1,rfl,hs.cl j _ hj hjg e' he'⟩
 refine⟨h.al,h.al5,Nat.le_trans hs.fi.len h.n5,List.pairwise_lt_range.filter _,fun x hx=>List.mem_range.1 (List.mem_filter.1 hx).1,?_,fun e he=>?_,fun e he=>?_⟩
 ·show (sAll a left).2.Pairwise _
  rw[hs.ed]
  refine Qhk (fun j hj=>?_) (List.pairwise_lt_range.imp_of_mem fun{i j} hi hj hij x hx y hy=> .inl ?_)
  ·rw [List.pairwise_map]
   have:(sOut a.es left ((sAll a left).1.getD j 0)).Pairwise fun x y=>x.1<y.1\/(x.1=y.1/\x.2.1<y.2.1):=h.es.filter _
   refine this.imp_of_mem fun{x y} hx hy hxy=> .inr ⟨rfl,?_⟩
   have h1:=(Qbs.1 hx).2.1
   have h2:=(Qbs.1 hy).2.1
   show x.2.1<y.2.1
   omega
  grind
 ·have he : e ∈ (sAll a left).2 := he
  rw[hs.ed]at he
  obtain⟨j,hj,he⟩:=List.mem_flatMap.1 he
  obtain⟨e',_,_,e1,e2⟩:=hmem j e (List.mem_range.1 hj) he
  rw[e1];exact⟨List.mem_range.1 hj,Qrs e2⟩
 ·have he : e ∈ (sAll a left).2 := he
  rw[hs.ed]at he
  obtain⟨j,hj,he⟩:=List.mem_flatMap.1 he
  obtain⟨e',h3,_,e1,e2⟩:=hmem j e (List.mem_range.1 hj) he
  rw[e1];exact h.ev e' h3
end Go.AM.SD
namespace Go.AM.SD
def kept (n:Nat) (l:LB):List Nat:=(List.range n).filter (lf l)
end Go.AM.SD
