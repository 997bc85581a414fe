/- A part of the proof of CatalogueSynthesisCardSaid: lemmas on the way (AnDc, AnDd, AnDe, AnDf, AnDg, AnDi). Conditions: none of ours. -/
import Derived.Test.YteiijgolpigjdaaGreatDoorAmS11
set_option linter.unusedSectionVars false
set_option maxHeartbeats 32000000
set_option maxRecDepth 100000
set_option linter.unusedVariables false
set_option linter.unusedSimpArgs false
namespace Go.AM.SD
def bad(left:Nat->Bool)(unc:List Nat)(e:Ed):Bool:=left e.1&&!left e.2.2&&unc.contains e.2.1
def pLs(left:Nat->Bool)(unc:List Nat)(out:List (Nat×Nat))(e:Ed):List (Nat×Nat):=if bad left unc e then(if(match out.getLast? with|some p=>p.1==e.1|none=>false)then out else out++[(e.1,e.2.1)])else out
def pLost(es:List Ed)(left:Nat->Bool)(unc:List Nat):List (Nat×Nat):=es.foldl (pLs left unc) []
def rL1(es:List Ed)(left:Nat->Bool)(unc:List Nat)(st:Nat):Option (Nat×Nat):=if left st then(es.find? fun e=>e.1==st&&!left e.2.2&&unc.contains e.2.1).map fun e=>(st,e.2.1)else none
def rLost(n:Nat)(es:List Ed)(left:Nat->Bool)(unc:List Nat):List (Nat×Nat):=(List.range n).filterMap (rL1 es left unc)
theorem Qo5{l c:List (Nat×Nat)}(h:l.Pairwise fun a b=>a.1<b.1)(h':c.Pairwise fun a b=>a.1<b.1)(hm:∀p,p∈l↔p∈c):l=c:=by induction l generalizing c with
 |nil=>cases c with|nil=>rfl|cons p c=>exact absurd ((hm p).2 (by simp)) (by simp)
 |cons p l d=>cases c with|nil=>exact absurd ((hm p).1 (by simp)) (by simp)|cons q c=>
  rw[List.pairwise_cons]at h h';have e:p=q:=by grind
  subst e;rw[d h.2 h'.2 fun r=>?_];constructor;·grind
  grind
theorem Qf2(n:Nat)(es:List Ed)(left:Nat->Bool)(unc:List Nat):(rLost n es left unc).Pairwise fun a b=>a.1<b.1:=by
 unfold rLost;refine List.Pairwise.filterMap _ (R:=(·<·)) ?_ List.pairwise_lt_range;intro a b c p hp q d;have h1:∀(st:Nat)(p:Nat×Nat),rL1 es left unc st=some p->p.1=st:=by simp_all[rL1]
 grind
theorem Qem{n:Nat}{es:List Ed}{left:Nat->Bool}{unc:List Nat}{p:Nat×Nat}:p∈rLost n es left unc↔p.1<n/\rL1 es left unc p.1=some p:=by
 unfold rLost;rw[List.mem_filterMap];have h1:∀(st:Nat)(p:Nat×Nat),rL1 es left unc st=some p->p.1=st:=by simp_all[rL1]
 grind
theorem QiC{pre:List Ed}{e:Ed}{left:Nat->Bool}{unc:List Nat}(st:Nat):rL1 (pre++[e]) left unc st=match rL1 pre left unc st with|some p=>some p|none=>if e.1==st&&bad left unc e then some (st,e.2.1)else none:=by grind[rL1,bad]
theorem Qo6{left:Nat->Bool}{unc:List Nat}:∀(es2 pre:List Ed)(out:List (Nat×Nat)),(pre++es2).Pairwise (fun a b=>a.1<=b.1)->out.Pairwise (fun a b=>a.1<b.1)->(∀p,p∈out↔rL1 pre left unc p.1=some p)->(∀p∈out,∃e∈pre,e.1=p.1)->(es2.foldl (pLs left unc) out).Pairwise (fun a b=>a.1<b.1)/\∀p,p∈es2.foldl (pLs left unc) out↔rL1 (pre++es2) left unc p.1=some p:=by intro es2;induction es2 with|nil=>intro pre out _ h1 h2 _;rw[List.append_nil];exact⟨h1,h2⟩|cons e es2 ih=>
 intro pre out hs h1 h2 h3;have ea:pre++e::es2=(pre++[e])++es2:=by simp
 rw[ea]at hs⊢;rw[List.foldl_cons];have hge:∀p∈out,p.1<=e.1:=fun p hp=>by obtain⟨x,hx,hxe⟩:=h3 p hp;rw[List.pairwise_append]at hs;have:=(List.pairwise_append.1 hs.1).2.2 x hx e (by simp);omega
 by_cases hb:bad left unc e=true
 ·by_cases hlast:(match out.getLast? with|some p=>p.1==e.1|none=>false)=true
  ·have e1:pLs left unc out e=out:=by grind[pLs]
   rw[e1];refine ih (pre++[e]) out hs h1 (fun p=>?_) fun p hp=>?_;·rw[QiC];cases hr:rL1 pre left unc p.1 with|some q=>rw[h2 p,hr]|none=>
    have hnp:¬p∈out:=fun hp=>by grind
    have hne:(e.1==p.1)=false:=by grind
    simp only[hne,Bool.false_and,Bool.false_eq_true,if_false];exact⟨fun hp=>absurd hp hnp,fun h=>by cases h⟩
   obtain⟨x,hx,hxe⟩:=h3 p hp;grind
  have e1:pLs left unc out e=out++[(e.1,e.2.1)]:=by grind[pLs]
  have hlt:∀p∈out,p.1<e.1:=by intro p hp;cases hg:out.getLast? with|none=>rw[List.getLast?_eq_none_iff]at hg;subst hg;cases hp|some q=>
   rw[hg]at hlast;have hqe:q.1≠e.1:=by grind
   have hq:q∈out:=List.mem_of_getLast? hg;have hqle:=hge q hq;obtain⟨init,hi⟩:∃init,out=init++[q]:=by grind[List.getLast?_eq_some_iff]
   rw[hi]at hp h1;rcases List.mem_append.1 hp with hp|hp;·grind
   grind
  rw[e1];refine ih (pre++[e]) _ hs (List.pairwise_append.2 ⟨h1,by simp,fun p hp q hq=>by grind⟩) (fun p=>?_) fun p hp=>?_
  ·rw[QiC,List.mem_append,List.mem_singleton]
   cases hr:rL1 pre left unc p.1 with|some q=>
    have hq1:p.1=q.1:=by
     unfold rL1 at hr;split at hr;·cases hf:pre.find? fun e=>e.1==p.1&&!left e.2.2&&unc.contains e.2.1 with|none=>rw[hf]at hr;cases hr|some e=>rw[hf]at hr;cases hr;rfl
     cases hr
    have hqm:q∈out:=(h2 q).2 (by grind);have hne:p≠(e.1,e.2.1):=by grind
    simp only[hne,or_false];rw[h2 p,hr]|none=>
    have hnp:¬p∈out:=fun hp=>by grind
    simp only[hnp,false_or];by_cases hep:e.1=p.1;·grind
    grind
  rcases List.mem_append.1 hp with hp|hp;·obtain⟨x,hx,hxe⟩:=h3 p hp;grind
  grind
 have e1:pLs left unc out e=out:=by grind[pLs]
 rw[e1];refine ih (pre++[e]) out hs h1 (fun p=>?_) fun p hp=>?_;·rw[QiC];grind
 obtain⟨x,hx,hxe⟩:=h3 p hp;grind
theorem Qhp{n:Nat}{es:List Ed}{left:Nat->Bool}{unc:List Nat}(i:es.Pairwise fun a b=>a.1<=b.1)(d:∀e∈es,e.1<n):pLost es left unc=rLost n es left unc:=by
 obtain⟨h1,c⟩:=Qo6 (left:=left) (unc:=unc) es [] [] (by simpa using i) List.Pairwise.nil (fun p=>by simp[rL1]) (fun p hp=>by cases hp);rw[List.nil_append]at c;refine Qo5 h1 (Qf2 n es left unc) fun p=>?_;rw[Qem];refine(c p).trans ⟨fun h=>⟨?_,h⟩,fun h=>h.2⟩;unfold rL1 at h;split at h;·cases hf:es.find? fun e=>e.1==p.1&&!left e.2.2&&unc.contains e.2.1 with|none=>rw[hf]at h;cases h|some e=>have g:=List.mem_of_find?_eq_some hf;have f:=List.find?_some hf;simp only[Bool.and_eq_true,beq_iff_eq]at f;have:=d e g;omega
 cases h
structure Rm where
 st:Nat
 rank:Int
 reason:Nat
 ev:Int deriving DecidableEq
def lostF(rank:Int)(l:List (Nat×Nat)):List Rm:=l.map fun p=>⟨p.1,rank,2,(p.2:Int)⟩
def blkF(left:Nat->Bool)(rank:Int)(d:List Int):List Rm:=(List.range d.length).filterMap fun i=>if left i&&decide (d.getD i 0<0)then some ⟨i,rank,3,-1⟩else none
def pNext(n:Nat)(es:List Ed)(mk:List Nat)(left:Nat->Bool)(unc:List Nat)(rank:Int)(all:Bool):List Rm:=if decide (0<(pLost es left unc).length)||!all then lostF rank (pLost es left unc)else blkF left rank (pDist n es mk left)
end Go.AM.SD
namespace Go.AM.SD
abbrev LB:=List Bool
def lf(l:LB):Nat->Bool:=fun i=>l.getD i false
def offs(l:LB)(xs:List Nat):LB:=xs.foldl (fun l x=>l.set x false) l
def pRounds(n:Nat)(es:List Ed)(mk:List Nat)(unc:List Nat)(all:Bool):Nat->Nat->LB->List Rm->Nat->LB×List Rm×Nat|0,_,l,rs,k=>(l,rs,k)|f+1,a,l,rs,k=>if(pNext n es mk (lf l) unc a all).length=0 then(l,rs,k)else pRounds n es mk unc all f (a+1) (offs l ((pNext n es mk (lf l) unc a all).map (·.st))) (rs++pNext n es mk (lf l) unc a all) a
def putR(rs:List Rm)(l:List Rm):List Rm:=l.foldl (fun rs x=>rs.set x.st x) rs
def rm0(i:Nat):Rm:=⟨i,1,1,-1⟩
theorem Qhq(xs:List Nat):∀l:LB,(offs l xs).length=l.length:=by induction xs with|nil=>intro l;rfl|cons x xs a=>intro l;show(offs (l.set x false) xs).length=_;rw[a];simp
theorem QcS(xs:List Nat):∀(l:LB)(i:Nat),lf (offs l xs) i=(lf l i&&!xs.contains i):=by induction xs with|nil=>intro l i;simp[offs,lf]|cons x xs a=>
 intro l i;show lf (offs (l.set x false) xs) i=_;rw[a];have:lf (l.set x false) i=(lf l i&&!(i==x)):=by grind[lf]
 rw[this,List.contains_cons];cases lf l i<;>cases(i==x)<;>cases xs.contains i<;>rfl
theorem Qlg{n:Nat}{es:List Ed}{mk:List Nat}{left:Nat->Bool}{unc:List Nat}{rank:Int}{all:Bool}(c:InN n es mk)(d:mk.Nodup)(h:es.Pairwise fun a b=>a.1<=b.1):(pNext n es mk left unc rank all).Pairwise (fun a b=>a.st<b.st)/\∀r∈pNext n es mk left unc rank all,r.st<n/\left r.st=true:=by
 have f:(pDist n es mk left).length=n:=(Qh8 c (n+1) 0 _ (QeM (left:=left) c d) (by omega)).1;unfold pNext;split
 ·unfold lostF;rw[Qhp h fun e he=>(c.1 e he).1];constructor;·simp_all[List.pairwise_map,Qf2]
  intro r g;obtain⟨p,hp,rfl⟩:=List.mem_map.1 g;simp_all[Qem,rL1]
 unfold blkF;rw[f];constructor;·grind[List.pairwise_lt_range]
 grind
def cntL(n:Nat)(l:LB):Nat:=(List.range n).countP fun i=>lf l i
theorem Qm5{n:Nat}{l c:LB}(h:∀i,i<n->lf c i=true->lf l i=true){x:Nat}(g:x<n)(h1:lf l x=true)(m:lf c x=false):cntL n c<cntL n l:=by unfold cntL;have a:x∈List.range n:=List.mem_range.2 g;have b:∀y∈List.range n,lf c y=true->lf l y=true:=fun y f=>h y (List.mem_range.1 f);generalize List.range n=L at a b;induction L with|nil=>cases a|cons y L k=>
 have hle:L.countP (fun x=>lf c x)<=L.countP (fun x=>lf l x):=List.countP_mono_left fun z j d=>b z (by simp[j]) d;rw[List.countP_cons,List.countP_cons];rcases List.mem_cons.1 a with e|hm;·grind
 grind
theorem Qen{xs:List Nat}{r:Nat}(h:r∈xs):xs.contains r=true:=by simpa using h
structure Agr(n:Nat)(l:LB)(rs rr:List Rm):Prop where
 len:rr.length=n
 st:∀(i:Nat)(r:Rm),rr[i]?=some r->r.st=i
 nd:(rs.map (·.st)).Nodup
 mem:∀r:Rm,r∈rs↔r.st<n/\lf l r.st=false/\rr[r.st]?=some r
theorem Qqp(l:List Rm):∀rs,(putR rs l).length=rs.length:=by induction l with|nil=>intro rs;rfl|cons x l a=>intro rs;show(putR (rs.set x.st x) l).length=_;rw[a];simp
theorem Qqq:∀(l:List Rm)(rs:List Rm)(i:Nat),(∀r∈l,r.st<rs.length)->l.Pairwise (fun a b=>a.st<b.st)->(putR rs l)[i]?=match l.find? (fun r=>r.st==i)with|some r=>some r|none=>rs[i]?:=by intro l;induction l with|nil=>intro rs i _ _;rfl|cons x l f=>
 intro rs i c hp;rw[List.pairwise_cons]at hp;show(putR (rs.set x.st x) l)[i]?=_;rw[f _ i (fun r g=>by simp_all) hp.2];have d:=c x (by simp);by_cases e:x.st=i;·grind
 simp_all
theorem Agr.step{n:Nat}{l:LB}{rs rr d:List Rm}(h:Agr n l rs rr)(x:l.length=n)(hp:d.Pairwise fun a b=>a.st<b.st)(hm:∀r∈d,r.st<n/\lf l r.st=true):Agr n (offs l (d.map (·.st))) (rs++d) (putR rr d):=by
 have k:=fun i=>Qqq d rr i (fun r c=>by rw[h.len];simp_all) hp;have g:∀r∈d,d.find? (fun q=>q.st==r.st)=some r:=by intro r c;cases hf:d.find? (fun q=>q.st==r.st)with|none=>rw[List.find?_eq_none]at hf;exact absurd (hf r c) (by simp)|some q=>
  have m:=List.mem_of_find?_eq_some hf;have w:q.st=r.st:=by grind
  have:q=r:=by clear hf k;induction d with|nil=>cases c|cons y d A=>
   rw[List.pairwise_cons]at hp;rcases List.mem_cons.1 c with e|o<;>rcases List.mem_cons.1 m with u|t;·rw[e,u]
   ·grind
   ·grind
   simp_all
  rw[this]
 refine⟨by rw[Qqp,h.len],fun i r c=>?_,?_,fun r=>?_⟩;·rw[k]at c;cases hf:d.find? (fun q=>q.st==i)with|some q=>rw[hf]at c;cases c;simpa using List.find?_some hf|none=>rw[hf]at c;exact h.st i r c
 ·rw[List.map_append,List.nodup_append];refine⟨h.nd,?_,fun a v b p e=>?_⟩;·rw[List.nodup_iff_pairwise_ne,List.pairwise_map];exact hp.imp fun h=>by omega
  subst e;obtain⟨r,c,rfl⟩:=List.mem_map.1 v;obtain⟨q,m,s⟩:=List.mem_map.1 p;have h1:=((h.mem r).1 c).2.1;grind
 rw[List.mem_append,QcS,k];constructor
 ·rintro(c|c);·obtain⟨h1,j,f⟩:=(h.mem r).1 c;grind
  grind
 rintro⟨h1,j,f⟩;cases hf:d.find? (fun q=>q.st==r.st)with|some q=>rw[hf]at f;cases f;exact .inr (List.mem_of_find?_eq_some hf)|none=>
  rw[hf]at f;refine .inl ((h.mem r).2 ⟨h1,?_,f⟩);have:(d.map (·.st)).contains r.st=false:=by simp_all
  rw[this]at j;simpa using j
end Go.AM.SD
namespace Go.AM.SD
structure Rgt(n:Nat)(es:List Ed)(mk:List Nat)(forb unc:List Nat)(S:Nat->Bool):Prop where
 lt:∀x,S x=true->x<n
 forb:∀x,S x=true->x∉forb
 ctl:∀e∈es,S e.1=true->e.2.1∈unc->S e.2.2=true
 nb:∀x,S x=true->∃d,Rch es mk S d x
theorem Rch.sub{es:List Ed}{mk:List Nat}{S T:Nat->Bool}(h:∀x,S x=true->T x=true):∀{d x:Nat},Rch es mk S d x->Rch es mk T d x
 |0,x,a=>⟨h x a.1,a.2⟩|d+1,x,a=>by
  rcases a with a|⟨b,e,he,h1,c⟩;·exact .inl (Rch.sub h a)
  exact .inr ⟨h x b,e,he,h1,Rch.sub h c⟩
theorem QjC{n:Nat}{es:List Ed}{mk:List Nat}{left:Nat->Bool}(a:InN n es mk)(c:mk.Nodup){x:Nat}(i:x<n):0<=(pDist n es mk left).getD x 0↔∃d,Rch es mk left d x:=by
 obtain⟨h1,b⟩:=Qh8 a (n+1) 0 _ (QeM (left:=left) a c) (by omega);have b:Dst es mk left (fun x=>if x<n then(pDist n es mk left).getD x 0 else-1):=b;constructor;·intro h;obtain⟨k,g⟩:=Int.eq_ofNat_of_zero_le h;exact⟨k,(b.rch k x).2 (by omega)⟩
 rintro⟨d,f⟩;have:=(b.rch d x).1 f;omega
theorem Qo7{n:Nat}{es:List Ed}{left:Nat->Bool}{unc:List Nat}(d:es.Pairwise fun a b=>a.1<=b.1)(f:∀e∈es,e.1<n){p:Nat×Nat}(hp:p∈pLost es left unc):∃e∈es,e.1=p.1/\left e.1=true/\left e.2.2=false/\e.2.1∈unc:=by
 rw[Qhp d f]at hp;obtain⟨_,h⟩:=Qem.1 hp;unfold rL1 at h;split at h;·rename_i i;cases hf:es.find? fun e=>e.1==p.1&&!left e.2.2&&unc.contains e.2.1 with|none=>rw[hf]at h;cases h|some e=>have g:=List.mem_of_find?_eq_some hf;have c:=List.find?_some hf;simp only[Bool.and_eq_true,beq_iff_eq,Bool.not_eq_true',List.contains_iff_mem]at c;exact⟨e,g,c.1.1,by simp_all,c.1.2,c.2⟩
 cases h
theorem Qo8{n:Nat}{es:List Ed}{left:Nat->Bool}{unc:List Nat}(i:es.Pairwise fun a b=>a.1<=b.1)(g:∀e∈es,e.1<n)(h:pLost es left unc=[]):∀e∈es,left e.1=true->e.2.1∈unc->left e.2.2=true:=by intro e he f j;rw[Qhp i g]at h;cases c:left e.2.2 with|true=>rfl|false=>
 exfalso;have hex:∃p,rL1 es left unc e.1=some p/\p.1=e.1:=by unfold rL1;rw[if_pos f];cases hf:es.find? fun x=>x.1==e.1&&!left x.2.2&&unc.contains x.2.1 with|none=>rw[List.find?_eq_none]at hf;have:=hf e he;simp[c,j]at this|some x=>exact⟨_,rfl,rfl⟩
 obtain⟨p,hp,d⟩:=hex;have:p∈rLost n es left unc:=Qem.2 ⟨by grind,by simp_all⟩;rw[h]at this;cases this
theorem Qml{n:Nat}{es:List Ed}{mk:List Nat}{left S:Nat->Bool}{forb unc:List Nat}{rank:Int}{all:Bool}(f:InN n es mk)(k:mk.Nodup)(q:es.Pairwise fun a b=>a.1<=b.1)(hS:Rgt n es mk forb unc S)(c:∀x,S x=true->left x=true):∀r∈pNext n es mk left unc rank all,S r.st=false:=by intro r j;cases g:S r.st with|false=>rfl|true=>
 exfalso;unfold pNext at j;split at j
 ·obtain⟨p,hp,rfl⟩:=List.mem_map.1 j;obtain⟨e,he,h1,s,t,o⟩:=Qo7 q (fun e he=>(f.1 e he).1) hp;have l:S e.1=true:=by simp_all
  have:=c _ (hS.ctl e he l o);simp_all
 obtain⟨i,hi,h⟩:=List.mem_filterMap.1 j;split at h;·rename_i hc;cases h;simp only[Bool.and_eq_true,decide_eq_true_eq]at hc;obtain⟨d,m⟩:=hS.nb i g;have:=(QjC (left:=left) f k (hS.lt i g)).2 ⟨d,m.sub c⟩;omega
 cases h
theorem Qmm{n:Nat}{es:List Ed}{mk:List Nat}{S:Nat->Bool}{forb unc:List Nat}{all:Bool}(d:InN n es mk)(g:mk.Nodup)(j:es.Pairwise fun a b=>a.1<=b.1)(hS:Rgt n es mk forb unc S):∀(f rank:Nat)(l:LB)(rs:List Rm)(k:Nat),(∀x,S x=true->lf l x=true)->∀x,S x=true->lf (pRounds n es mk unc all f rank l rs k).1 x=true:=by intro f;induction f with|zero=>intro rank l rs k h;exact h|succ f c=>
 intro rank l rs k h;unfold pRounds;split;·exact h
 refine c _ _ _ _ fun x i=>?_;rw[QcS,h x i,Bool.true_and,Bool.not_eq_true',<-Bool.not_eq_true];intro hc;have hc:x∈(pNext n es mk (lf l) unc rank all).map (·.st):=by simpa using hc
 obtain⟨r,m,rfl⟩:=List.mem_map.1 hc;grind[Qml]
theorem QnS{n:Nat}{es:List Ed}{mk:List Nat}{unc:List Nat}{all:Bool}(d:InN n es mk)(g:mk.Nodup)(p:es.Pairwise fun a b=>a.1<=b.1):∀(f rank:Nat)(l:LB)(rs:List Rm)(k:Nat),cntL n l<f->(∀x,lf (pRounds n es mk unc all f rank l rs k).1 x=true->lf l x=true)/\∃c:Nat,pNext n es mk (lf (pRounds n es mk unc all f rank l rs k).1) unc c all=[]:=by intro f;induction f with|zero=>intro rank l rs k h;omega|succ f q=>
 intro rank l rs k h;unfold pRounds;split;·grind
 rename_i m;obtain⟨r,j⟩:∃r,r∈pNext n es mk (lf l) unc rank all:=by cases hp:pNext n es mk (lf l) unc rank all with|nil=>rw[hp]at m;exact absurd rfl m|cons r _=>exact⟨r,by simp⟩
 obtain⟨h1,o⟩:=(Qlg (left:=lf l) (unc:=unc) (rank:=rank) (all:=all) d g p).2 r j;have u:cntL n (offs l ((pNext n es mk (lf l) unc rank all).map (·.st)))<cntL n l:=by
  refine Qm5 (fun i _ hi=>?_) h1 o ?_;·simp_all[QcS]
  rw[QcS,Qen (List.mem_map.2 ⟨r,j,rfl⟩)];simp
 obtain⟨t,s⟩:=q (rank+1) (offs l ((pNext n es mk (lf l) unc rank all).map (·.st))) (rs++pNext n es mk (lf l) unc rank all) rank (by omega);simp_all[QcS]
def left0(n:Nat)(forb:List Nat):LB:=offs (List.replicate n true) forb
theorem Qfe{n:Nat}{forb:List Nat}{x:Nat}:lf (left0 n forb) x=true↔x<n/\x∉forb:=by grind[left0,QcS,lf]
def fin(n:Nat)(es:List Ed)(mk:List Nat)(forb unc:List Nat)(all:Bool):LB×List Rm×Nat:=pRounds n es mk unc all (n+1) 2 (left0 n forb) (forb.map rm0) (if forb.length=0 then 0 else 1)
theorem Qrc{n:Nat}{es:List Ed}{mk:List Nat}{forb unc:List Nat}(c:InN n es mk)(g:mk.Nodup)(m:es.Pairwise fun a b=>a.1<=b.1):Rgt n es mk forb unc (lf (fin n es mk forb unc true).1):=by
 have hc:cntL n (left0 n forb)<n+1:=by grind[cntL,List.length_range]
 obtain⟨h1,d,i⟩:=QnS (unc:=unc) (all:=true) c g m (n+1) 2 (left0 n forb) (forb.map rm0) (if forb.length=0 then 0 else 1) hc;have hf:=fun x f=>Qfe.1 (h1 x f);replace i:pNext n es mk (lf (fin n es mk forb unc true).1) unc d true=[]:=i;have h:pLost es (lf (fin n es mk forb unc true).1) unc=[]:=by cases hp:pLost es (lf (fin n es mk forb unc true).1) unc with|nil=>rfl|cons p l=>unfold pNext at i;rw[hp]at i;simp[lostF]at i
 have k:blkF (lf (fin n es mk forb unc true).1) d (pDist n es mk (lf (fin n es mk forb unc true).1))=[]:=by simp_all[pNext]
 refine⟨fun x f=>(hf x f).1,fun x f=>(hf x f).2,fun e he=>Qo8 m (fun e he=>(c.1 e he).1) h e he,fun x f=>?_⟩;have j:=(hf x f).1;refine(QjC c g j).1 ?_;have o:(pDist n es mk (lf (fin n es mk forb unc true).1)).length=n:=(Qh8 c (n+1) 0 _ (QeM c g) (by omega)).1;simp_all[blkF]
theorem Qlh{n:Nat}{es:List Ed}{mk:List Nat}{forb unc:List Nat}{all:Bool}{S:Nat->Bool}(d:InN n es mk)(c:mk.Nodup)(g:es.Pairwise fun a b=>a.1<=b.1)(hS:Rgt n es mk forb unc S){x:Nat}(h:S x=true):lf (fin n es mk forb unc all).1 x=true:=Qmm d c g hS _ _ _ _ _ (fun y f=>Qfe.2 ⟨hS.lt y f,hS.forb y f⟩) x h
end Go.AM.SD
namespace Go.AM.SD
structure Aut where
 al:List Nat
 n:Nat
 ms:List Nat
 es:List Ed
structure WfA(a:Aut):Prop where
 al:a.al.Pairwise (·<·)al5:∀x∈a.al,x<32
 n5:a.n<=4096
 ms:a.ms.Pairwise (·<·)msn:∀x∈a.ms,x<a.n
 es:a.es.Pairwise fun x y=>x.1<y.1\/(x.1=y.1/\x.2.1<y.2.1)esn:∀e∈a.es,e.1<a.n/\e.2.2<a.n
 ev:∀e∈a.es,e.2.1∈a.al
theorem WfA.inN{a:Aut}(h:WfA a):InN a.n a.es a.ms:=⟨h.esn,h.msn⟩
theorem WfA.nd{a:Aut}(h:WfA a):a.ms.Nodup:=by rw[List.nodup_iff_pairwise_ne];exact h.ms.imp fun h=>by omega
theorem WfA.srt{a:Aut}(h:WfA a):a.es.Pairwise fun x y=>x.1<=y.1:=h.es.imp fun h=>by omega
def stepA(es:List Ed)(s ev:Nat):Option Nat:=(es.find? fun e=>e.1==s&&e.2.1==ev).map (·.2.2)
def idx(l:List Nat)(x:Nat):Nat:=l.findIdx (·==x)
theorem Qli{n:Nat}{es:List Ed}(a:∀e∈es,e.1<n/\e.2.2<n){s ev to:Nat}(h:stepA es s ev=some to):to<n:=by unfold stepA at h;cases hf:es.find? fun e=>e.1==s&&e.2.1==ev with|none=>rw[hf]at h;cases h|some e=>rw[hf]at h;cases h;exact(a e (List.mem_of_find?_eq_some hf)).2
structure FI(n:Nat)(out:List Nat):Prop where
 nd:out.Nodup
 lt:∀x∈out,x<n
theorem Qbb:∀(n:Nat)(l:List Nat),l.Nodup->(∀x∈l,x<n)->l.length<=n
 |0,l,_,h=>by cases l with|nil=>exact Nat.le_refl _|cons x l=>have:=h x (by simp);omega
 |n+1,l,a,h=>by
  by_cases hm:n∈l
  ·have h1:=Qbb n (l.erase n) (a.erase n) fun x b=>by grind
   simp_all
  have :=Qbb n l a fun x b=>by grind
  omega
theorem FI.len{n:Nat}{out:List Nat}(h:FI n out):out.length<=n:=Qbb n out h.nd h.lt
theorem Qo9{l:List Nat}{x:Nat}(h:x∈l):idx l x<l.length:=List.findIdx_lt_length_of_exists ⟨x,h,by simp⟩
theorem Qrd{l:List Nat}{x:Nat}(h:x∈l):l[idx l x]?=some x:=by have h1:=Qo9 h;rw[List.getElem?_eq_getElem h1];have:=List.findIdx_getElem (p:=(·==x)) (w:=h1);exact congrArg some (by simp_all:l[List.findIdx (·==x) l]'h1=x)
theorem Qhr{l:List Nat}{f:Nat->List Ed}{R:Ed->Ed->Prop}(h1:∀i∈l,(f i).Pairwise R)(a:l.Pairwise fun i j=>∀x∈f i,∀y∈f j,R x y):(l.flatMap f).Pairwise R:=by grind
end Go.AM.SD
namespace Go.AM.SD
abbrev OE:=List Nat×List Ed
def sEd(i:Nat)(s:OE)(e:Ed):OE:=if s.1.contains e.2.2 then(s.1,s.2++[(i,e.2.1,idx s.1 e.2.2)])else(s.1++[e.2.2],s.2++[(i,e.2.1,s.1.length)])
def sOut(es:List Ed)(left:Nat->Bool)(v:Nat):List Ed:=es.filter fun e=>e.1==v&&left e.2.2
def sRow(es:List Ed)(left:Nat->Bool)(i v:Nat)(s:OE):OE:=(sOut es left v).foldl (sEd i) s
def sQ(es:List Ed)(left:Nat->Bool):Nat->Nat->OE->OE|0,_,s=>s|k+1,i,s=>match s.1[i]? with|some v=>sQ es left k (i+1) (sRow es left i v s)|none=>s
def sAll(a:Aut)(left:Nat->Bool):OE:=sQ a.es left (a.n+1) 0 (if decide (0<a.n)&&left 0 then[0]else[],[])
def restr(a:Aut)(left:Nat->Bool):Aut:=⟨a.al,(sAll a left).1.length,(List.range (sAll a left).1.length).filter fun i=>a.ms.contains ((sAll a left).1.getD i 0),(sAll a left).2⟩
theorem QeN{l t:List Nat}{x:Nat}(h:x∈l):idx (l++t) x=idx l x:=by simp_all[idx,List.findIdx_append]
theorem QeO{l:List Nat}{x:Nat}(h:x∉l):idx (l++[x]) x=l.length:=by grind[idx]
def num(o:List Nat)(i:Nat)(e:Ed):Ed:=(i,e.2.1,idx o e.2.2)
theorem Qd9{n:Nat}{left:Nat->Bool}(i:Nat):∀(c:List Ed)(s:OE),(∀e∈c,e.2.2<n/\left e.2.2=true)->FI n s.1->(∀x∈s.1,left x=true)->FI n (c.foldl (sEd i) s).1/\(∀x∈(c.foldl (sEd i) s).1,left x=true)/\(∃t,(c.foldl (sEd i) s).1=s.1++t)/\(∀e∈c,e.2.2∈(c.foldl (sEd i) s).1)/\(c.foldl (sEd i) s).2=s.2++c.map (num (c.foldl (sEd i) s).1 i):=by intro c;induction c with|nil=>intro s _ h k;exact⟨h,k,⟨[],by simp⟩,(fun e he=>by cases he),by simp⟩|cons e c o=>
 intro s f h k;rw[List.foldl_cons];obtain⟨r,u⟩:=f e (by simp);by_cases hc:s.1.contains e.2.2=true
 ·have m:sEd i s e=(s.1,s.2++[(i,e.2.1,idx s.1 e.2.2)]):=if_pos hc;have hm:e.2.2∈s.1:=by simpa using hc
  rw[m];obtain⟨l,j,⟨t,g⟩,p,q⟩:=o (s.1,s.2++[(i,e.2.1,idx s.1 e.2.2)]) (fun x d=>f x (by simp[d])) h k;refine⟨l,j,⟨t,g⟩,fun x d=>?_,?_⟩;·grind
  grind[num,QeN]
 have m:sEd i s e=(s.1++[e.2.2],s.2++[(i,e.2.1,s.1.length)]):=if_neg hc;have hm:e.2.2∉s.1:=by simpa using hc
 rw[m];obtain⟨l,j,⟨t,g⟩,p,q⟩:=o (s.1++[e.2.2],s.2++[(i,e.2.1,s.1.length)]) (fun x d=>f x (by simp[d])) ⟨by rw[List.nodup_append];refine⟨h.nd,by simp,fun a v b w e=>?_⟩;simp_all,fun x d=>by
  rcases List.mem_append.1 d with d|d;·exact h.lt x d
  simp_all⟩ (fun x d=>by grind);have g:(c.foldl (sEd i) (s.1++[e.2.2],s.2++[(i,e.2.1,s.1.length)])).1=(s.1++[e.2.2])++t:=g;refine⟨l,j,⟨[e.2.2]++t,by simp_all⟩,fun x d=>?_,?_⟩;·grind
 grind[num,QeN,QeO]
structure SI(n:Nat)(es:List Ed)(left:Nat->Bool)(i:Nat)(s:OE):Prop where
 fi:FI n s.1
 lft:∀x∈s.1,left x=true
 le:i<=s.1.length
 cl:∀j v,j<i->s.1[j]?=some v->∀e∈sOut es left v,e.2.2∈s.1
 ed:s.2=(List.range i).flatMap fun j=>(sOut es left (s.1.getD j 0)).map (num s.1 j)
theorem Qbk{es:List Ed}{left:Nat->Bool}{v:Nat}{e:Ed}:e∈sOut es left v↔e∈es/\e.1=v/\left e.2.2=true:=by simp_all[sOut]
theorem SI.step{n:Nat}{es:List Ed}{left:Nat->Bool}(l:∀e∈es,e.1<n/\e.2.2<n){i v:Nat}{s:OE}(h:SI n es left i s)(p:s.1[i]?=some v):SI n es left (i+1) (sRow es left i v s):=by
 obtain⟨q,o,⟨t,a⟩,r,f⟩:=Qd9 i (sOut es left v) s (fun e he=>⟨(l e (Qbk.1 he).1).2,(Qbk.1 he).2.2⟩) h.fi h.lft;have m:i<s.1.length:=(List.getElem?_eq_some_iff.1 p).1;have a:(sRow es left i v s).1=s.1++t:=a;have c:∀j,j<s.1.length->(sRow es left i v s).1.getD j 0=s.1.getD j 0:=fun j b=>by grind
 refine⟨q,o,by grind,fun j u b k e he=>?_,?_⟩
 ·rw[a,List.getElem?_append_left (by omega)]at k;by_cases g:j<i;·rw[a];exact List.mem_append_left _ (h.cl j u g k e he)
  grind
 show(sRow es left i v s).2=_;have f:(sRow es left i v s).2=s.2++(sOut es left v).map (num (sRow es left i v s).1 i):=f;rw[f,h.ed,List.range_succ,List.flatMap_append];congr 1
 ·have :∀j∈List.range i,(sOut es left (s.1.getD j 0)).map (num s.1 j)=(sOut es left ((sRow es left i v s).1.getD j 0)).map (num (sRow es left i v s).1 j):=fun j b=>by
   have b:=List.mem_range.1 b;rw[c j (by omega)];have d:s.1[j]?=some (s.1.getD j 0):=by grind
   refine List.map_congr_left fun e he=>?_;unfold num;rw[a,QeN (h.cl j _ b d e he)]
  grind[List.map_congr_left]
 simp_all
theorem sQ_ok{n:Nat}{es:List Ed}{left:Nat->Bool}(c:∀e∈es,e.1<n/\e.2.2<n):∀(k i:Nat)(s:OE),SI n es left i s->n<k+i->SI n es left (sQ es left k i s).1.length (sQ es left k i s)/\∃t,(sQ es left k i s).1=s.1++t:=by intro k;induction k with|zero=>intro i s h g;have:=h.fi.len;have:=h.le;omega|succ k f=>intro i s h g;unfold sQ;cases a:s.1[i]? with|some v=>obtain⟨h1,t,j⟩:=f (i+1) _ (h.step c a) (by omega);obtain⟨_,_,⟨b,d⟩,_,_⟩:=Qd9 i (sOut es left v) s (fun e he=>⟨(c e (Qbk.1 he).1).2,(Qbk.1 he).2.2⟩) h.fi h.lft;have d:(sRow es left i v s).1=s.1++b:=d;exact⟨h1,b++t,by simp_all⟩|none=>
 have:s.1.length=i:=by have:=List.getElem?_eq_none_iff.1 a;have:=h.le;omega
 dsimp only;rw[this];exact⟨h,[],by simp⟩
theorem Qgi{a:Aut}{left:Nat->Bool}(h:WfA a):SI a.n a.es left (sAll a left).1.length (sAll a left)/\∃t,(sAll a left).1=(if decide (0<a.n)&&left 0 then[0]else[])++t:=by
 refine sQ_ok h.esn (a.n+1) 0 _ ?_ (by omega);refine⟨?_,fun x b=>?_,Nat.zero_le _,fun j v c=>by omega,by simp⟩
 ·split;·rename_i hc;simp only[Bool.and_eq_true,decide_eq_true_eq]at hc;exact⟨by simp,fun x b=>by simp_all⟩
  exact⟨by simp,fun x b=>by cases b⟩
 simp_all
theorem Qlj{a:Aut}{left:Nat->Bool}(h:WfA a):WfA (restr a left):=by
 obtain⟨g,_⟩:=Qgi (left:=left) h;have d:∀(j:Nat)(e:Ed),j<(sAll a left).1.length->e∈(sOut a.es left ((sAll a left).1.getD j 0)).map (num (sAll a left).1 j)->∃b∈a.es,b.1=(sAll a left).1.getD j 0/\e=(j,b.2.1,idx (sAll a left).1 b.2.2)/\b.2.2∈(sAll a left).1:=by
  intro j e c he;obtain⟨b,f,rfl⟩:=List.mem_map.1 he;have l:(sAll a left).1[j]?=some ((sAll a left).1.getD j 0):=by simp_all
  exact⟨b,(Qbk.1 f).1,(Qbk.1 f).2.1,rfl,g.cl j _ c l b f⟩
 refine⟨h.al,h.al5,Nat.le_trans g.fi.len h.n5,List.pairwise_lt_range.filter _,fun x k=>List.mem_range.1 (List.mem_filter.1 k).1,?_,fun e he=>?_,fun e he=>?_⟩
 ·show(sAll a left).2.Pairwise _;rw[g.ed];refine Qhr (fun j c=>?_) (List.pairwise_lt_range.imp_of_mem fun{i j}hi c s x k y p=>.inl ?_);·rw[List.pairwise_map];have:(sOut a.es left ((sAll a left).1.getD j 0)).Pairwise fun x y=>x.1<y.1\/(x.1=y.1/\x.2.1<y.2.1):=h.es.filter _;refine this.imp_of_mem fun{x y}k p q=>.inr ⟨rfl,?_⟩;have h1:=(Qbk.1 k).2.1;have t:=(Qbk.1 p).2.1;show x.2.1<y.2.1;omega
  grind
 ·have he:e∈(sAll a left).2:=he;rw[g.ed]at he;obtain⟨j,c,he⟩:=List.mem_flatMap.1 he;obtain⟨b,_,_,m,o⟩:=d j e (List.mem_range.1 c) he;rw[m];exact⟨List.mem_range.1 c,Qo9 o⟩
 have he:e∈(sAll a left).2:=he;rw[g.ed]at he;obtain⟨j,c,he⟩:=List.mem_flatMap.1 he;obtain⟨b,r,_,m,o⟩:=d j e (List.mem_range.1 c) he;rw[m];exact h.ev b r
theorem QnT{a:Aut}{left:Nat->Bool}(h:WfA a){i v:Nat}(d:(sAll a left).1[i]?=some v):sOut (restr a left).es (fun _=>true) i=(sOut a.es left v).map (num (sAll a left).1 i):=by
 obtain⟨f,_⟩:=Qgi (left:=left) h;have k:i<(sAll a left).1.length:=(List.getElem?_eq_some_iff.1 d).1;show(sAll a left).2.filter _=_;rw[f.ed,List.filter_flatMap];have h1:∀j∈List.range (sAll a left).1.length,(((sOut a.es left ((sAll a left).1.getD j 0)).map (num (sAll a left).1 j)).filter fun e=>e.1==i&&true)=if j=i then(sOut a.es left v).map (num (sAll a left).1 i)else[]:=by
  intro j _;by_cases e:j=i;·subst e;rw[if_pos rfl,List.getD_eq_getElem?_getD,d];refine List.filter_eq_self.2 fun x b=>?_;obtain⟨y,_,rfl⟩:=List.mem_map.1 b;simp[num]
  rw[if_neg e];refine List.filter_eq_nil_iff.2 fun x b=>?_;obtain⟨y,_,rfl⟩:=List.mem_map.1 b;simp[num,e]
 rw[List.flatMap_def,List.map_congr_left h1,<-List.flatMap_def];have key:∀(l:List Nat)(X:List Ed),l.Nodup->(l.flatMap fun j=>if j=i then X else[])=if i∈l then X else[]:=by intro l X;induction l with|nil=>intro _;rfl|cons j l g=>
  intro c;rw[List.nodup_cons]at c;rw[List.flatMap_cons,g c.2];by_cases e:j=i;·simp_all
  grind
 simp_all[List.nodup_range]
end Go.AM.SD
namespace Go.AM.SD
def kept(n:Nat)(l:LB):List Nat:=(List.range n).filter (lf l)
end Go.AM.SD
