/- A part of the proof of CellSelectsCardSaid: lemmas on the way (AmXa, AmDa, AmDb, AmDc, AmDd, AmDe, AmDf, AmDg, AmDi). Conditions: none of ours. -/
import Derived.Test.YtmoanlnleppcpaaGreatDoorProg
import Derived.KernelRfl
import Derived.Test.YtmoanlnleppcpaaGreatDoorAmW9
set_option linter.unusedSectionVars false
set_option maxHeartbeats 32000000
set_option maxRecDepth 100000
set_option linter.unusedVariables false
set_option linter.unusedSimpArgs false
namespace Go.AM.UA
open Go.Proofs
set_option maxHeartbeats 4000000
noncomputable section
def cf:YA.Cf:={most:=.pure,value:=.pure}
def s12:SFn:=by
 refine(?f:YA.Yt Tryz.prog cf 12 [[0,1,4],[13,14,15,16,17,18,19,20,21,22,23,24,25,26,27,28,29,30,31,32,33,34,35,36,37,38,39,40,41,42],[2,3,43,44],[4,43,45,46],[48,49,50,47,51,52],[3,54,55,56,53,57,58],[2,6,7,8,9,59,60,61,62,63,64,65,66,67,68,69,70,71,72,73],[5,74],[4,74],[10,76,77,78,79,80,81,82,83,84,85,86,87,88,89,90,91,92,93,94,95,96,97,98,75,99,100],[5,11,12,101,102,103,104,105,106,107]] [(1,[(5,26),(10,26),(15,26),(20,26),(22,26)])]) ?s ?h;case h=>exact YA.rr
 exact fun s _=>s
def s59:SFn:=by
 refine(?f:YA.Yt Tryz.prog cf 59 [[2],[],[0],[],[7,8],[4,9,10,11,12],[13],[3,5,6,14]]) ?s ?h;case h=>exact YA.rr
 exact fun s _=>s
def s141:SFn:=by
 refine(?f:YA.Yt Tryz.prog cf 141 [[2],[3],[0,4],[0,4,5,6,7]]) ?s ?h;case h=>exact YA.rr
 exact fun s _=>s
def s142:SFn:=by
 refine(?f:YA.Yt Tryz.prog cf 142 [[4],[],[1],[],[12,13,14],[15,16,17,18,19],[7,8,20,21,22,23,24,25,26,27,28,29,30,31,32,33,34,35,36,37,38,39,40],[41],[0,5,9,10,11,42]]) ?s ?h;case h=>exact YA.rr
 exact fun s _=>s
def s143:SFn:=by
 refine(?f:YA.Yt Tryz.prog cf 143 [[4],[0,1,8,9,10,11,7,12,13],[2,6,14,15,16,17,18],[5,19]]) ?s ?h;case h=>exact YA.rr
 exact fun s _=>s
def s145:SFn:=by
 refine(?f:YA.Yt Tryz.prog cf 145 [[4,5],[10,11,12,13],[14],[0,1,6,15,16],[4,5,6,15],[1],[],[20,21,22],[9,23,24,25,26,27,28,29],[30],[0,7,17,18,19,31]]) ?s ?h;case h=>exact YA.rr
 exact fun s _=>s
def s146:SFn:=by
 refine(?f:YA.Yt Tryz.prog cf 146 [[4,5],[10,11,12,13],[14],[0,1,6,15,16],[4,5,6,15],[1],[],[20,21,22],[9,23,24,25,26,27,28,29],[30],[0,7,17,18,19,31]]) ?s ?h;case h=>exact YA.rr
 exact fun s _=>s
def s147:SFn:=by
 refine(?f:YA.Yt Tryz.prog cf 147 [[4,5],[10,11,12,13],[14],[0,1,6,15,16],[4,5,6,15],[1],[],[20,21,22],[9,23,24,25,26,27,28,29],[30],[0,7,17,18,19,31]]) ?s ?h;case h=>exact YA.rr
 exact fun s _=>s
theorem ok12:okFn Tryz.prog 12 s12=true:=by kernel_rfl
theorem ok59:okFn Tryz.prog 59 s59=true:=by kernel_rfl
theorem ok141:okFn Tryz.prog 141 s141=true:=by kernel_rfl
theorem ok142:okFn Tryz.prog 142 s142=true:=by kernel_rfl
theorem ok143:okFn Tryz.prog 143 s143=true:=by kernel_rfl
theorem ok145:okFn Tryz.prog 145 s145=true:=by kernel_rfl
theorem ok146:okFn Tryz.prog 146 s146=true:=by kernel_rfl
theorem ok147:okFn Tryz.prog 147 s147=true:=by kernel_rfl
end
end Go.AM.UA
namespace Go.AM.SD
abbrev Ed:=Nat×Nat×Nat
end Go.AM.SD
namespace Go.AM.SD
def preds(es:List Ed)(v:Nat):List Nat:=(es.filter fun e=>e.2.2==v).map (·.1)
abbrev QS:=List Int×List Nat
def bMk(left:Nat->Bool)(s:QS)(x:Nat):QS:=if left x then(s.1.set x 0,s.2++[x])else s
def bMks(n:Nat)(mk:List Nat)(left:Nat->Bool):QS:=mk.foldl (bMk left) (List.replicate n (-1),[])
def bEd(left:Nat->Bool)(v:Nat)(s:QS)(y:Nat):QS:=if left y&&decide (s.1.getD y 0<0)then(s.1.set y (s.1.getD v 0+1),s.2++[y])else s
def bRow(es:List Ed)(left:Nat->Bool)(v:Nat)(s:QS):QS:=(preds es v).foldl (bEd left v) s
def bQ(es:List Ed)(left:Nat->Bool):Nat->Nat->QS->QS|0,_,s=>s|k+1,i,s=>match s.2[i]? with|some v=>bQ es left k (i+1) (bRow es left v s)|none=>s
def pDist(n:Nat)(es:List Ed)(mk:List Nat)(left:Nat->Bool):List Int:=(bQ es left (n+1) 0 (bMks n mk left)).1
end Go.AM.SD
namespace Go.AM.SD
def bad(left:Nat->Bool)(a:List Nat)(e:Ed):Bool:=left e.1&&!left e.2.2&&a.contains e.2.1
def pLs(left:Nat->Bool)(a:List Nat)(out:List (Nat×Nat))(e:Ed):List (Nat×Nat):=if bad left a e then(if(match out.getLast? with|some p=>p.1==e.1|none=>false)then out else out++[(e.1,e.2.1)])else out
def pLost(es:List Ed)(left:Nat->Bool)(a:List Nat):List (Nat×Nat):=es.foldl (pLs left a) []
structure Rm where
 st:Nat
 rank:Int
 reason:Nat
 ev:Int deriving DecidableEq
def lostF(a:Int)(l:List (Nat×Nat)):List Rm:=l.map fun p=>⟨p.1,a,2,(p.2:Int)⟩
def blkF(left:Nat->Bool)(a:Int)(d:List Int):List Rm:=(List.range d.length).filterMap fun i=>if left i&&decide (d.getD i 0<0)then some ⟨i,a,3,-1⟩else none
def pNext(n:Nat)(es:List Ed)(mk:List Nat)(left:Nat->Bool)(b:List Nat)(a:Int)(all:Bool):List Rm:=if decide (0<(pLost es left b).length)||!all then lostF a (pLost es left b)else blkF left a (pDist n es mk left)
end Go.AM.SD
namespace Go.AM.SD
abbrev LB:=List Bool
def lf(l:LB):Nat->Bool:=fun i=>l.getD i false
def offs(l:LB)(xs:List Nat):LB:=xs.foldl (fun l x=>l.set x false) l
def pRounds(n:Nat)(es:List Ed)(mk:List Nat)(b:List Nat)(all:Bool):Nat->Nat->LB->List Rm->Nat->LB×List Rm×Nat|0,_,l,rs,k=>(l,rs,k)|f+1,a,l,rs,k=>if(pNext n es mk (lf l) b a all).length=0 then(l,rs,k)else pRounds n es mk b all f (a+1) (offs l ((pNext n es mk (lf l) b a all).map (·.st))) (rs++pNext n es mk (lf l) b a all) a
def rm0(i:Nat):Rm:=⟨i,1,1,-1⟩
end Go.AM.SD
namespace Go.AM.SD
def left0(n:Nat)(a:List Nat):LB:=offs (List.replicate n true) a
def fin(n:Nat)(es:List Ed)(mk:List Nat)(a b:List Nat)(all:Bool):LB×List Rm×Nat:=pRounds n es mk b all (n+1) 2 (left0 n a) (a.map rm0) (if a.length=0 then 0 else 1)
end Go.AM.SD
namespace Go.AM.SD
structure Aut where
 al:List Nat
 n:Nat
 ms:List Nat
 es:List Ed
structure WfA(a:Aut):Prop where
 al:a.al.Pairwise (·<·)al5:∀x∈a.al,x<5
 n5:a.n<=5
 ms:a.ms.Pairwise (·<·)msn:∀x∈a.ms,x<a.n
 es:a.es.Pairwise fun x y=>x.1<y.1\/(x.1=y.1/\x.2.1<y.2.1)esn:∀e∈a.es,e.1<a.n/\e.2.2<a.n
 ev:∀e∈a.es,e.2.1∈a.al
theorem WfA.nd{a:Aut}(h:WfA a):a.ms.Nodup:=by rw[ZaJ];exact h.ms.imp fun h=>by omega
theorem WfA.srt{a:Aut}(h:WfA a):a.es.Pairwise fun x y=>x.1<=y.1:=h.es.imp fun h=>by omega
def stepA(es:List Ed)(s ev:Nat):Option Nat:=(es.find? fun e=>e.1==s&&e.2.1==ev).map (·.2.2)
def fEv(es:List Ed)(s:Nat)(out:List Nat)(ev:Nat):List Nat:=match stepA es s ev with|some to=>if out.contains to then out else out++[to]|none=>out
def fRow(al:List Nat)(es:List Ed)(s:Nat)(out:List Nat):List Nat:=al.foldl (fEv es s) out
def fQ(al:List Nat)(es:List Ed):Nat->Nat->List Nat->List Nat|0,_,out=>out|k+1,i,out=>match out[i]? with|some s=>fQ al es k (i+1) (fRow al es s out)|none=>out
def found(a:Aut):List Nat:=fQ a.al a.es (a.n+1) 0 (if 0<a.n then[0]else[])
def idx(l:List Nat)(x:Nat):Nat:=l.findIdx (·==x)
def cRow(a:Aut)(f:List Nat)(i s:Nat):List Ed:=a.al.filterMap fun ev=>(stepA a.es s ev).map fun to=>(i,ev,idx f to)
def cRows(a:Aut)(f:List Nat):List Ed:=(List.range f.length).flatMap fun i=>cRow a f i (f.getD i 0)
def canon(a:Aut):Aut:=⟨a.al,(found a).length,(List.range (found a).length).filter fun i=>a.ms.contains ((found a).getD i 0),cRows a (found a)⟩
theorem Qgv{n:Nat}{es:List Ed}(a:∀e∈es,e.1<n/\e.2.2<n){s ev to:Nat}(h:stepA es s ev=some to):to<n:=by unfold stepA at h;cases hf:es.find? fun e=>e.1==s&&e.2.1==ev with|none=>rw[hf]at h;cases h|some e=>rw[hf]at h;cases h;exact(a e (List.mem_of_find?_eq_some hf)).2
structure FI(n:Nat)(out:List Nat):Prop where
 nd:out.Nodup
 lt:∀x∈out,x<n
theorem QaN:∀(n:Nat)(l:List Nat),l.Nodup->(∀x∈l,x<n)->l.length<=n
 |0,l,_,h=>by cases l with|nil=>exact ZaG _|cons x l=>have:=h x (by simp);omega
 |n+1,l,a,h=>by
  by_cases hm:n∈l
  ·have h1:=QaN n (l.erase n) (a.erase n) fun x b=>by grind
   simp_all
  have :=QaN n l a fun x b=>by grind
  omega
theorem FI.len{n:Nat}{out:List Nat}(h:FI n out):out.length<=n:=QaN n out h.nd h.lt
theorem FI.row{n:Nat}{es:List Ed}(g:∀e∈es,e.1<n/\e.2.2<n)(s:Nat):∀(al:List Nat)(out:List Nat),FI n out->FI n (al.foldl (fEv es s) out)/\(∃t,al.foldl (fEv es s) out=out++t)/\∀ev∈al,∀to,stepA es s ev=some to->to∈al.foldl (fEv es s) out:=by intro al;induction al with|nil=>intro out h;exact⟨h,⟨[],by simp⟩,fun ev f=>by cases f⟩|cons ev al j=>
 intro out h;rw[Za1];have h1:FI n (fEv es s out ev)/\(∃t,fEv es s out ev=out++t)/\∀to,stepA es s ev=some to->to∈fEv es s out ev:=by unfold fEv;cases m:stepA es s ev with|none=>exact⟨h,⟨[],by simp⟩,fun to d=>by cases d⟩|some to=>
  dsimp only;split;·simp_all
  rename_i hc;refine⟨⟨?_,fun x c=>?_⟩,⟨[to],rfl⟩,fun t d=>by cases d;simp⟩;·rw[List.nodup_append];refine⟨h.nd,by simp,fun a r b v e=>?_⟩;simp_all
  rcases Zbf.1 c with c|c;·exact h.lt x c
  simp at c;subst c;exact Qgv g m
 obtain⟨l,⟨t,u⟩,p⟩:=h1;obtain⟨k,⟨i,o⟩,q⟩:=j _ l;refine⟨k,⟨t++i,by simp_all⟩,fun e he to d=>?_⟩;rcases ZaF.1 he with rfl|he;·grind
 grind
theorem fQ_ok{n:Nat}{al:List Nat}{es:List Ed}(w:∀e∈es,e.1<n/\e.2.2<n):∀(k i:Nat)(out:List Nat),FI n out->i<=out.length->n<k+i->(∀j s,j<i->out[j]?=some s->∀ev∈al,∀to,stepA es s ev=some to->to∈out)->FI n (fQ al es k i out)/\(∃t,fQ al es k i out=out++t)/\∀s∈fQ al es k i out,∀ev∈al,∀to,stepA es s ev=some to->to∈fQ al es k i out:=by intro k;induction k with|zero=>intro i out h hi l _;have:=h.len;omega|succ k o=>intro i out h hi l v;unfold fQ;cases f:out[i]? with|none=>have c:out.length<=i:=List.getElem?_eq_none_iff.1 f;refine⟨h,⟨[],by simp⟩,fun s hm ev a to g=>?_⟩;have hm:s∈out:=hm;obtain⟨j,b⟩:=List.getElem?_of_mem hm;have p:j<out.length:=(Zau.1 b).1;exact v j s (by omega) b ev a to g|some s=>
 dsimp only;obtain⟨x,⟨t,d⟩,A⟩:=FI.row w s al out h;have c:i<out.length:=(Zau.1 f).1;have d:fRow al es s out=out++t:=d;obtain⟨q,⟨u,y⟩,r⟩:=o (i+1) (fRow al es s out) x (by grind) (by omega) fun j z b m ev a to g=>by grind
 exact⟨q,⟨t++u,by simp_all⟩,r⟩
theorem QeG{a:Aut}(c:∀e∈a.es,e.1<a.n/\e.2.2<a.n):FI a.n (found a)/\(∃t,found a=(if 0<a.n then[0]else[])++t)/\∀s∈found a,∀ev∈a.al,∀to,stepA a.es s ev=some to->to∈found a:=by
 refine fQ_ok c (a.n+1) 0 _ ?_ (Zah _) (by omega) fun j s f=>by omega
 split;·rename_i d;exact⟨by simp,fun x b=>by simp_all⟩
 exact⟨by simp,fun x b=>by cases b⟩
theorem Qg4{l:List Nat}{x:Nat}(h:x∈l):idx l x<l.length:=List.findIdx_lt_length_of_exists ⟨x,h,by simp⟩
theorem Qpa{l:List Nat}{x:Nat}(h:x∈l):l[idx l x]?=some x:=by have h1:=Qg4 h;rw[Zad h1];have:=List.findIdx_getElem (p:=(·==x)) (w:=h1);exact congrArg some (by simp_all:l[List.findIdx (·==x) l]'h1=x)
theorem Qcp{l:List Nat}{f:Nat->List Ed}{R:Ed->Ed->Prop}(h1:∀i∈l,(f i).Pairwise R)(a:l.Pairwise fun i j=>∀x∈f i,∀y∈f j,R x y):(l.flatMap f).Pairwise R:=by grind
theorem Qoo{a:Aut}(g:a.al.Pairwise (·<·))(o:∀x∈a.al,x<5)(k:a.n<=5)(r:∀e∈a.es,e.1<a.n/\e.2.2<a.n):WfA (canon a):=by
 obtain⟨h1,_,u⟩:=QeG r;have b:∀i s,∀e∈cRow a (found a) i s,e.1=i/\e.2.1∈a.al/\(s∈found a->e.2.2<(found a).length):=by intro i s e he;obtain⟨ev,d,hm⟩:=List.mem_filterMap.1 he;cases c:stepA a.es s ev with|none=>rw[c]at hm;cases hm|some to=>rw[c]at hm;cases hm;exact⟨rfl,d,fun m=>Qg4 (u s m ev d to c)⟩
 have f:∀i,i<(found a).length->(found a).getD i 0∈found a:=fun i hi=>by simp_all
 refine⟨g,o,ZaI h1.len k,?_,fun x n=>?_,?_,fun e he=>?_,fun e he=>?_⟩;·exact List.pairwise_lt_range.filter _
 ·have :=(ZbD.1 n).1;exact ZaT.1 this
 ·refine Qcp (fun i hi=>?_) (List.pairwise_lt_range.imp fun t x n y z=>.inl ?_);·refine List.Pairwise.filterMap _ (R:=(·<·)) ?_ g;intro x y l p hp q j;cases c:stepA a.es ((found a).getD i 0) x with|none=>rw[c]at hp;cases hp|some to=>cases h:stepA a.es ((found a).getD i 0) y with|none=>rw[h]at j;cases j|some to2=>rw[c]at hp;rw[h]at j;cases hp;cases j;exact .inr ⟨rfl,l⟩
  grind
 ·obtain⟨i,hi,he⟩:=ZbO.1 he;have hi:=ZaT.1 hi;obtain⟨v,_,w⟩:=b _ _ e he;exact⟨by rw[v];exact hi,w (f i hi)⟩
 obtain⟨i,hi,he⟩:=ZbO.1 he;exact(b _ _ e he).2.1
end Go.AM.SD
namespace Go.AM.SD
abbrev OE:=List Nat×List Ed
def sEd(i:Nat)(s:OE)(e:Ed):OE:=if s.1.contains e.2.2 then(s.1,s.2++[(i,e.2.1,idx s.1 e.2.2)])else(s.1++[e.2.2],s.2++[(i,e.2.1,s.1.length)])
def sOut(es:List Ed)(left:Nat->Bool)(v:Nat):List Ed:=es.filter fun e=>e.1==v&&left e.2.2
def sRow(es:List Ed)(left:Nat->Bool)(i v:Nat)(s:OE):OE:=(sOut es left v).foldl (sEd i) s
def sQ(es:List Ed)(left:Nat->Bool):Nat->Nat->OE->OE|0,_,s=>s|k+1,i,s=>match s.1[i]? with|some v=>sQ es left k (i+1) (sRow es left i v s)|none=>s
def sAll(a:Aut)(left:Nat->Bool):OE:=sQ a.es left (a.n+1) 0 (if decide (0<a.n)&&left 0 then[0]else[],[])
def restr(a:Aut)(left:Nat->Bool):Aut:=⟨a.al,(sAll a left).1.length,(List.range (sAll a left).1.length).filter fun i=>a.ms.contains ((sAll a left).1.getD i 0),(sAll a left).2⟩
theorem QdD{l t:List Nat}{x:Nat}(h:x∈l):idx (l++t) x=idx l x:=by simp_all[idx,List.findIdx_append]
theorem QcZ{l:List Nat}{x:Nat}(h:x∉l):idx (l++[x]) x=l.length:=by grind[idx]
theorem QpQ{l:List Nat}(a:l.Nodup){i x:Nat}(h:l[i]?=some x):idx l x=i:=by grind[Qpa,List.getElem?_inj]
def num(o:List Nat)(i:Nat)(e:Ed):Ed:=(i,e.2.1,idx o e.2.2)
theorem Qcq{n:Nat}{left:Nat->Bool}(i:Nat):∀(c:List Ed)(s:OE),(∀e∈c,e.2.2<n/\left e.2.2=true)->FI n s.1->(∀x∈s.1,left x=true)->FI n (c.foldl (sEd i) s).1/\(∀x∈(c.foldl (sEd i) s).1,left x=true)/\(∃t,(c.foldl (sEd i) s).1=s.1++t)/\(∀e∈c,e.2.2∈(c.foldl (sEd i) s).1)/\(c.foldl (sEd i) s).2=s.2++c.map (num (c.foldl (sEd i) s).1 i):=by intro c;induction c with|nil=>intro s _ h k;exact⟨h,k,⟨[],by simp⟩,(fun e he=>by cases he),by simp⟩|cons e c o=>
 intro s f h k;rw[Za1];obtain⟨r,u⟩:=f e (by simp);by_cases hc:s.1.contains e.2.2=true
 ·have m:sEd i s e=(s.1,s.2++[(i,e.2.1,idx s.1 e.2.2)]):=if_pos hc;have hm:e.2.2∈s.1:=by simpa using hc
  rw[m];obtain⟨l,j,⟨t,g⟩,p,q⟩:=o (s.1,s.2++[(i,e.2.1,idx s.1 e.2.2)]) (fun x d=>f x (by simp[d])) h k;refine⟨l,j,⟨t,g⟩,fun x d=>?_,?_⟩;·grind
  grind[num,QdD]
 have m:sEd i s e=(s.1++[e.2.2],s.2++[(i,e.2.1,s.1.length)]):=if_neg hc;have hm:e.2.2∉s.1:=by simpa using hc
 rw[m];obtain⟨l,j,⟨t,g⟩,p,q⟩:=o (s.1++[e.2.2],s.2++[(i,e.2.1,s.1.length)]) (fun x d=>f x (by simp[d])) ⟨by rw[List.nodup_append];refine⟨h.nd,by simp,fun a v b w e=>?_⟩;simp_all,fun x d=>by
  rcases Zbf.1 d with d|d;·exact h.lt x d
  simp_all⟩ (fun x d=>by grind);have g:(c.foldl (sEd i) (s.1++[e.2.2],s.2++[(i,e.2.1,s.1.length)])).1=(s.1++[e.2.2])++t:=g;refine⟨l,j,⟨[e.2.2]++t,by simp_all⟩,fun x d=>?_,?_⟩;·grind
 grind[num,QdD,QcZ]
structure SI(n:Nat)(es:List Ed)(left:Nat->Bool)(i:Nat)(s:OE):Prop where
 fi:FI n s.1
 lft:∀x∈s.1,left x=true
 le:i<=s.1.length
 cl:∀j v,j<i->s.1[j]?=some v->∀e∈sOut es left v,e.2.2∈s.1
 ed:s.2=(List.range i).flatMap fun j=>(sOut es left (s.1.getD j 0)).map (num s.1 j)
theorem QaV{es:List Ed}{left:Nat->Bool}{v:Nat}{e:Ed}:e∈sOut es left v↔e∈es/\e.1=v/\left e.2.2=true:=by simp_all[sOut]
theorem SI.step{n:Nat}{es:List Ed}{left:Nat->Bool}(l:∀e∈es,e.1<n/\e.2.2<n){i v:Nat}{s:OE}(h:SI n es left i s)(p:s.1[i]?=some v):SI n es left (i+1) (sRow es left i v s):=by
 obtain⟨q,o,⟨t,a⟩,r,f⟩:=Qcq i (sOut es left v) s (fun e he=>⟨(l e (QaV.1 he).1).2,(QaV.1 he).2.2⟩) h.fi h.lft;have m:i<s.1.length:=(Zau.1 p).1;have a:(sRow es left i v s).1=s.1++t:=a;have c:∀j,j<s.1.length->(sRow es left i v s).1.getD j 0=s.1.getD j 0:=fun j b=>by grind
 refine⟨q,o,by grind,fun j u b k e he=>?_,?_⟩
 ·rw[a,Za6 (by omega)]at k;by_cases g:j<i;·rw[a];exact List.mem_append_left _ (h.cl j u g k e he)
  grind
 show(sRow es left i v s).2=_;have f:(sRow es left i v s).2=s.2++(sOut es left v).map (num (sRow es left i v s).1 i):=f;rw[f,h.ed,ZaP,Zaq];congr 1
 ·have :∀j∈List.range i,(sOut es left (s.1.getD j 0)).map (num s.1 j)=(sOut es left ((sRow es left i v s).1.getD j 0)).map (num (sRow es left i v s).1 j):=fun j b=>by
   have b:=ZaT.1 b;rw[c j (by omega)];have d:s.1[j]?=some (s.1.getD j 0):=by grind
   refine ZaH fun e he=>?_;unfold num;rw[a,QdD (h.cl j _ b d e he)]
  grind[ZaH]
 simp_all
theorem sQ_ok{n:Nat}{es:List Ed}{left:Nat->Bool}(c:∀e∈es,e.1<n/\e.2.2<n):∀(k i:Nat)(s:OE),SI n es left i s->n<k+i->SI n es left (sQ es left k i s).1.length (sQ es left k i s)/\∃t,(sQ es left k i s).1=s.1++t:=by intro k;induction k with|zero=>intro i s h g;have:=h.fi.len;have:=h.le;omega|succ k f=>intro i s h g;unfold sQ;cases a:s.1[i]? with|some v=>obtain⟨h1,t,j⟩:=f (i+1) _ (h.step c a) (by omega);obtain⟨_,_,⟨b,d⟩,_,_⟩:=Qcq i (sOut es left v) s (fun e he=>⟨(c e (QaV.1 he).1).2,(QaV.1 he).2.2⟩) h.fi h.lft;have d:(sRow es left i v s).1=s.1++b:=d;exact⟨h1,b++t,by simp_all⟩|none=>
 have:s.1.length=i:=by have:=List.getElem?_eq_none_iff.1 a;have:=h.le;omega
 dsimp only;rw[this];exact⟨h,[],by simp⟩
theorem Qfx{a:Aut}{left:Nat->Bool}(h:WfA a):SI a.n a.es left (sAll a left).1.length (sAll a left)/\∃t,(sAll a left).1=(if decide (0<a.n)&&left 0 then[0]else[])++t:=by
 refine sQ_ok h.esn (a.n+1) 0 _ ?_ (by omega);refine⟨?_,fun x b=>?_,Zah _,fun j v c=>by omega,by simp⟩
 ·split;·rename_i hc;simp only[Zab,decide_eq_true_eq]at hc;exact⟨by simp,fun x b=>by simp_all⟩
  exact⟨by simp,fun x b=>by cases b⟩
 simp_all
theorem Qop{a:Aut}{left:Nat->Bool}(h:WfA a):WfA (restr a left):=by
 obtain⟨g,_⟩:=Qfx (left:=left) h;have d:∀(j:Nat)(e:Ed),j<(sAll a left).1.length->e∈(sOut a.es left ((sAll a left).1.getD j 0)).map (num (sAll a left).1 j)->∃b∈a.es,b.1=(sAll a left).1.getD j 0/\e=(j,b.2.1,idx (sAll a left).1 b.2.2)/\b.2.2∈(sAll a left).1:=by
  intro j e c he;obtain⟨b,f,rfl⟩:=Zas.1 he;have m:(sAll a left).1[j]?=some ((sAll a left).1.getD j 0):=by simp_all
  exact⟨b,(QaV.1 f).1,(QaV.1 f).2.1,rfl,g.cl j _ c m b f⟩
 refine⟨h.al,h.al5,ZaI g.fi.len h.n5,List.pairwise_lt_range.filter _,fun x k=>ZaT.1 (ZbD.1 k).1,?_,fun e he=>?_,fun e he=>?_⟩
 ·show(sAll a left).2.Pairwise _;rw[g.ed];refine Qcp (fun j c=>?_) (List.pairwise_lt_range.imp_of_mem fun{i j}hi c r x k y n=>.inl ?_);·rw[Za8];have:(sOut a.es left ((sAll a left).1.getD j 0)).Pairwise fun x y=>x.1<y.1\/(x.1=y.1/\x.2.1<y.2.1):=h.es.filter _;refine this.imp_of_mem fun{x y}k n p=>.inr ⟨rfl,?_⟩;have h1:=(QaV.1 k).2.1;have s:=(QaV.1 n).2.1;show x.2.1<y.2.1;omega
  grind
 ·have he:e∈(sAll a left).2:=he;rw[g.ed]at he;obtain⟨j,c,he⟩:=ZbO.1 he;obtain⟨b,_,_,l,o⟩:=d j e (ZaT.1 c) he;rw[l];exact⟨ZaT.1 c,Qg4 o⟩
 have he:e∈(sAll a left).2:=he;rw[g.ed]at he;obtain⟨j,c,he⟩:=ZbO.1 he;obtain⟨b,q,_,l,o⟩:=d j e (ZaT.1 c) he;rw[l];exact h.ev b q
theorem Qpb{o:List Nat}(ho:o.Nodup)(i:Nat):∀(a:List Ed)(s:OE)(t:List Nat),(a.foldl (sEd i) s).1++t=o->(∃f,s.1++f=o)->(a.map (num o i)).foldl (sEd i) (List.range s.1.length,s.2)=(List.range (a.foldl (sEd i) s).1.length,(a.foldl (sEd i) s).2):=by intro a;induction a with|nil=>intro s t _ _;rfl|cons e a g=>
 intro s t j k;rw[Za1]at j;rw[ZaW,Za1,Za1];obtain⟨f,k⟩:=k;have c:∀(a:List Ed)(s:OE),∃u,(a.foldl (sEd i) s).1=s.1++u:=by intro a;induction a with|nil=>intro s;exact⟨[],by simp⟩|cons e a g=>
  intro s;rw[Za1];obtain⟨u,l⟩:=g (sEd i s e);rw[l];unfold sEd;split;·simp_all
  simp_all
 by_cases hc:s.1.contains e.2.2=true
 ·have h:sEd i s e=(s.1,s.2++[(i,e.2.1,idx s.1 e.2.2)]):=if_pos hc;have hm:e.2.2∈s.1:=by simpa using hc
  have b:idx o e.2.2=idx s.1 e.2.2:=by grind[QdD]
  have n:sEd i (List.range s.1.length,s.2) (num o i e)=(List.range s.1.length,s.2++[(i,e.2.1,idx s.1 e.2.2)]):=by
   have d:idx o e.2.2<s.1.length:=by simp_all[Qg4]
   unfold sEd num;rw[if_pos (by simpa using d)];have:idx (List.range s.1.length) (idx o e.2.2)=idx o e.2.2:=QpQ List.nodup_range (ZbQ d);simp_all
  grind
 have h:sEd i s e=(s.1++[e.2.2],s.2++[(i,e.2.1,s.1.length)]):=if_neg hc;have hm:e.2.2∉s.1:=by simpa using hc
 rw[h]at j⊢;obtain⟨u,l⟩:=c a (s.1++[e.2.2],s.2++[(i,e.2.1,s.1.length)]);have m:o=(s.1++[e.2.2])++(u++t):=by simp_all
 have b:idx o e.2.2=s.1.length:=by grind[QdD,QcZ]
 have n:sEd i (List.range s.1.length,s.2) (num o i e)=(List.range (s.1++[e.2.2]).length,s.2++[(i,e.2.1,s.1.length)]):=by simp_all[sEd,num,ZaP]
 grind
theorem QpR{n:Nat}{es es':List Ed}{left:Nat->Bool}{o:List Nat}(ho:o.Nodup)(j:∀e∈es,e.1<n/\e.2.2<n)(l:∀i v,o[i]?=some v->sOut es' (fun _=>true) i=(sOut es left v).map (num o i)):∀(k i:Nat)(s:OE)(c:Nat),SI n es left i s->n<k+i->n<c+i->(sQ es left k i s).1=o->sQ es' (fun _=>true) c i (List.range s.1.length,s.2)=(List.range o.length,(sQ es left k i s).2):=by intro k;induction k with|zero=>intro i s c h x _ _;have:=h.fi.len;have:=h.le;omega|succ k w=>intro i s c h x u b;cases c with|zero=>have:=h.fi.len;have:=h.le;omega|succ c=>unfold sQ at b⊢;cases g:s.1[i]? with|none=>have d:s.1.length<=i:=List.getElem?_eq_none_iff.1 g;rw[g]at b;have b:s.1=o:=b;have:(List.range s.1.length)[i]?=none:=ZaA (by simpa using d);dsimp only;rw[this,b]|some v=>
 have d:i<s.1.length:=(Zau.1 g).1;rw[g]at b;have b:(sQ es left k (i+1) (sRow es left i v s)).1=o:=b;have:(List.range s.1.length)[i]?=some i:=ZbQ d;dsimp only;rw[this];dsimp only;have a:=h.step j g;obtain⟨_,t,p⟩:=sQ_ok j k (i+1) _ a (by omega);rw[b]at p;obtain⟨_,_,⟨q,m⟩,_,_⟩:=Qcq i (sOut es left v) s (fun e he=>⟨(j e (QaV.1 he).1).2,(QaV.1 he).2.2⟩) h.fi h.lft;have m:(sRow es left i v s).1=s.1++q:=m;have r:o[i]?=some v:=by grind
 have f:sRow es' (fun _=>true) i i (List.range s.1.length,s.2)=(List.range (sRow es left i v s).1.length,(sRow es left i v s).2):=by simp_all[sRow,Qpb]
 rw[f];exact w (i+1) _ c a (by omega) (by omega) b
theorem Qmi{a:Aut}{left:Nat->Bool}(h:WfA a){i v:Nat}(d:(sAll a left).1[i]?=some v):sOut (restr a left).es (fun _=>true) i=(sOut a.es left v).map (num (sAll a left).1 i):=by
 obtain⟨f,_⟩:=Qfx (left:=left) h;have k:i<(sAll a left).1.length:=(Zau.1 d).1;show(sAll a left).2.filter _=_;rw[f.ed,List.filter_flatMap];have h1:∀j∈List.range (sAll a left).1.length,(((sOut a.es left ((sAll a left).1.getD j 0)).map (num (sAll a left).1 j)).filter fun e=>e.1==i&&true)=if j=i then(sOut a.es left v).map (num (sAll a left).1 i)else[]:=by
  intro j _;by_cases e:j=i;·subst e;rw[if_pos rfl,Zan,d];refine ZbB.2 fun x b=>?_;obtain⟨y,_,rfl⟩:=Zas.1 b;simp[num]
  rw[if_neg e];refine List.filter_eq_nil_iff.2 fun x b=>?_;obtain⟨y,_,rfl⟩:=Zas.1 b;simp[num,e]
 rw[List.flatMap_def,ZaH h1,<-List.flatMap_def];have key:∀(l:List Nat)(X:List Ed),l.Nodup->(l.flatMap fun j=>if j=i then X else[])=if i∈l then X else[]:=by intro l X;induction l with|nil=>intro _;rfl|cons j l g=>
  intro c;rw[List.nodup_cons]at c;rw[Zay,g c.2];by_cases e:j=i;·simp_all
  grind
 simp_all[List.nodup_range]
theorem Qmj{a:Aut}{left:Nat->Bool}(h:WfA a):sAll (restr a left) (fun _=>true)=(List.range (restr a left).n,(restr a left).es):=by
 obtain⟨r,t,q⟩:=Qfx (left:=left) h;have p:SI a.n a.es left 0 ((if decide (0<a.n)&&left 0 then[0]else[],[]):OE):=by
  refine⟨?_,fun x c=>?_,Zah _,fun j v w=>by omega,by simp⟩
  ·split;·rename_i hc;simp only[Zab,decide_eq_true_eq]at hc;exact⟨by simp,fun x c=>by simp_all⟩
   exact⟨by simp,fun x c=>by cases c⟩
  simp_all
 have B:(restr a left).n<=a.n:=r.fi.len;by_cases hc:(decide (0<a.n)&&left 0)=true
 ·rw[if_pos hc]at p q;have o:sAll a left=sQ a.es left (a.n+1) 0 ([0],[]):=by simp_all[sAll]
  have n:0<(restr a left).n:=by show 0<(sAll a left).1.length;rw[q];simp
  have z:sAll (restr a left) (fun _=>true)=sQ (restr a left).es (fun _=>true) ((restr a left).n+1) 0 (List.range ([0]:List Nat).length,[]):=by simp_all[sAll]
  rw[z];have l:∀(es:List Ed)(left:Nat->Bool)(k i:Nat)(s:OE)(m:Nat),SI m es left i s->(∀e∈es,e.1<m/\e.2.2<m)->m<k+i->∀b,k<=b->sQ es left k i s=sQ es left b i s:=by intro es left k;induction k with|zero=>intro i s m h _ A;have:=h.fi.len;have:=h.le;omega|succ k y=>intro i s m h hm A b u;cases b with|zero=>omega|succ b=>unfold sQ;cases g:s.1[i]? with|none=>rfl|some v=>exact y (i+1) _ m (h.step hm g) hm (by omega) b (by omega)
  have f:=Qop (left:=left) h;have d:SI (restr a left).n (restr a left).es (fun _=>true) 0 ((List.range ([0]:List Nat).length,[]):OE):=⟨⟨List.nodup_range,fun x c=>by simp_all⟩,fun _ _=>rfl,Zah _,fun j v w=>by omega,by simp⟩;rw[l _ _ ((restr a left).n+1) 0 _ (restr a left).n d f.esn (by omega) (a.n+1) (by omega)];have:=QpR (n:=a.n) (es:=a.es) (es':=(restr a left).es) (left:=left) (o:=(sAll a left).1) r.fi.nd h.esn (fun i v g=>Qmi h g) (a.n+1) 0 ([0],[]) (a.n+1) p (by omega) (by omega) (by rw[o]);rw[this];show _=(List.range (sAll a left).1.length,(sAll a left).2);rw[o]
 simp_all[sAll,if_neg,sQ,restr]
theorem QkP{a:Aut}{left:Nat->Bool}(h:WfA a):restr (restr a left) (fun _=>true)=restr a left:=by
 have h1:=Qmj (left:=left) h;have b:(sAll (restr a left) fun _=>true).1.length=(restr a left).n:=by rw[h1];simp
 have e:∀(A B:Aut),A.al=B.al->A.n=B.n->A.ms=B.ms->A.es=B.es->A=B:=fun A B h1 f g d=>by cases A;simp_all
 refine e _ _ rfl b ?_ (by simp_all[restr]);show(List.range (sAll (restr a left) fun _=>true).1.length).filter _=_;rw[b,h1];have c:(restr a left).ms=(List.range (restr a left).n).filter fun i=>a.ms.contains ((sAll a left).1.getD i 0):=rfl;have:∀i∈List.range (restr a left).n,(restr a left).ms.contains ((List.range (restr a left).n).getD i 0)=a.ms.contains ((sAll a left).1.getD i 0):=fun i hi=>by simp_all
 grind[ZbI]
end Go.AM.SD
namespace Go.AM.SD
def part(n bits:Nat):List Nat:=(List.range n).filter fun i=>bits.testBit i
theorem QjE{n bits x:Nat}:x∈part n bits↔x<n/\bits.testBit x=true:=by simp[part]
theorem Qde(n bits:Nat):(part n bits).Pairwise (·<·):=List.pairwise_lt_range.filter _
end Go.AM.SD
