/- On the way to GuardsSuffice. Conditions: none of ours. -/
import Derived.Test.YtikknocmfjfohaaGreatDoorProg
import Derived.KernelRfl
import Derived.OpenShut
import Derived.Test.YtikknocmfjfohaaGreatDoorAmT9
theorem Go.AM.Ok{n:Nat}(s:Go.AM.SFn)(h:Go.AM.okFn Go.Proofs.Tryz.prog n s=true:=by kernel_rfl):Go.AM.okFn Go.Proofs.Tryz.prog n s=true:=h
abbrev Go.AM.Ps:=Go.AM.PSpec Go.Proofs.Tryz.prog
set_option linter.unusedSectionVars false
set_option maxHeartbeats 32000000
set_option maxRecDepth 100000
set_option linter.unusedVariables false
set_option linter.unusedSimpArgs false
namespace Go.AM.WA
open Go.Proofs
set_option maxHeartbeats 4000000
noncomputable section
def cf:YA.Cf:={most:=.pure,always:=[86,130,207,209,211,212,213,257].map fun k=>(k,.heap)}
def s13:SFn:=by
 refine(?f:YA.Yt Tryz.prog cf 13 [[0,2,3],[28,29,27,30,31],[32],[1,4,5,33,34],[2,3,33,36,37,35,38,39,40],[41],[1,4,5,6,7,42,43],[2,3,5,42,44,45,46],[1,4,6,7,47],[2,3,47,49,50,48,51,52,53,9],[54],[1,4,6,7,8,5,55,56],[2,3,5,55],[],[],[60,61,62],[12,63,64,65,66,67],[68],[8,57,58,59,69,70,71,72,73],[1,75,76,77,74,78,79,16],[],[15],[],[83,84,85],[86,87,88,89],[90],[],[94,95,96,97],[98,99,100,101,102],[23,103,104,105,106,107,108,109,110,111,112,113],[22,24,114,115,116,117,118,119,120],[121],[20,21,91,92,93,123,124,125,126,122,127,128],[129],[4,6,7,10,13,14,17,80,81,82,19,25,26,130,131],[2,3,19,25,26,130,132,133,134,135,136,137],[138],[4,6,7,10,13,14,17,80,81,82,139]]) ?s ?h;case h=>exact YA.rr
 exact fun s _=>s
def s48:SFn:=by
 refine(?f:YA.Yt Tryz.prog cf 48 [[4],[],[0],[],[11,12,13,14],[7,6,15,16,17,18,19,20,21,22,23,24],[25],[1,5,8,9,10,26]]) ?s ?h;case h=>exact YA.rr
 exact fun s _=>s
def s51:SFn:=by
 refine(?f:YA.Yt Tryz.prog cf 51 [[6,7],[11,12,10,13,14],[15],[0,1,2,8,9,16,17],[6,7,9,16,18,19,20,21,22,23,24,25,26,27,28],[0,1,2,8,29],[0,1,2,8,29,30,31,32,33,34]]) ?s ?h;case h=>exact YA.rr
 exact fun s _=>s
def s111:SFn:=by
 refine(?f:YA.Yt Tryz.prog cf 111 [[2,3],[15,16],[17],[0,4,18,19],[2,3,4,18],[],[],[23,24,25],[7,26,27,28,29,30,31,32,33],[34],[0,5,20,21,22,35],[2,3,35,36],[5,20,21,22,37],[0],[],[41,42,43],[],[8],[],[47,48,49],[50,51],[52,53,54],[55,58,59,60,61,62,63,64,65],[56,57],[13,14,66],[10,11,44,45,46,67],[68],[8,38,39,40,69]]) ?s ?h;case h=>exact YA.rr
 exact fun s _=>s
def s112:SFn:=by
 refine(?f:YA.Yt Tryz.prog cf 112 [[8],[0,12,13,14],[1],[],[18,19,20,21],[29,30,31,32,33],[10,28,35,36,37,38],[11,34,39,40,41,42,43,44],[11,34,22,23,24,25,26,27],[10,11,28,45],[2,3,9,15,16,17,46,47]]) ?s ?h;case h=>exact YA.rr
 exact fun s _=>s
def s167:SFn:=by
 refine(?f:YA.Yt Tryz.prog cf 167 [[2],[5,6],[0,7],[2,7],[],[11,12,13,14],[16,17,18,19],[0,8,9,10,52,49,51,50,48,33,32,31,4,3,15],[3,15,21,22,23,24,25],[0,8,9,10,52,49,51,50,48,33,32,31,4,20],[20,27,28,29,30,34],[0,8,9,10,52,49,51,50,48,33,32,31,4,26],[26,36,37,38,39,40],[0,8,9,10,52,49,51,50,48,33,32,31,4,35],[4,35,42,43,44,45,46,47,53],[0,8,9,10,52,49,51,50,48,33,32,31,41],[2,41,54],[0,8,9,10,52,49,51,50,48,33,32,31]]) ?s ?h;case h=>exact YA.rr
 exact fun s _=>s
def s168:SFn:=by
 refine(?f:YA.Yt Tryz.prog cf 168 [[0,2],[],[9],[],[13,14,15],[16,17,18],[5,19,20,21,22,23,24,25],[5,19,26],[10,11,12],[27,28,29],[30,31,32,33,34,35,36],[37,38,39,40,41],[8],[7,42,43],[7,42,44,45],[6],[46],[1,3,6,47]] [(7,[(1,2),(1,3),(0,6),(1,6),(2,6),(3,6),(5,6)])]) ?s ?h;case h=>exact YA.rr
 exact fun s _=>s
def s209:SFn:=by
 refine(?f:YA.Yt Tryz.prog cf 209 [[1,4],[0,3,5,6,7]]) ?s ?h;case h=>exact YA.rr
 exact fun s _=>s
def s210:SFn:=by
 refine(?f:YA.Yt Tryz.prog cf 210 [[0],[1,8,9,10,11,12],[13],[],[17,18,19,20],[21,22,23,24,25,26,27],[28,29,30,31,32,33,34,35],[36,37,38],[39,40,41,42,43,44,45,46],[47,48,49,50,51,52,53],[54,55,56,57,58,59,60,61],[62,63,64],[7,6,65,66,67,68,69,70,71,72],[7,6,73],[2,5,14,15,16,74]]) ?s ?h;case h=>exact YA.rr
 exact fun s _=>s
def s212:SFn:=by
 refine(?f:YA.Yt Tryz.prog cf 212 [[2],[3],[0,4],[0,4,5,6,7]]) ?s ?h;case h=>exact YA.rr
 exact fun s _=>s
end
end Go.AM.WA
namespace Go.AM.WB
open Go.Proofs
set_option maxHeartbeats 4000000
noncomputable section
def cf:YA.Cf:={most:=.pure,value:=.pure}
def s103:SFn:=by
 refine(?f:YA.Yt Tryz.prog cf 103 [[0,2],[1,3,4]]) ?s ?h;case h=>exact YA.rr
 exact fun s _=>s
def s142:SFn:=by
 refine(?f:YA.Yt Tryz.prog cf 142 [[4],[0,1,5,6,7,8,9,10,11,12,13]]) ?s ?h;case h=>exact YA.rr
 exact fun s _=>s
def s207:SFn:=by
 refine(?f:YA.Yt Tryz.prog cf 207 [[4],[0,1,5,6,7,8]]) ?s ?h;case h=>exact YA.rr
 exact fun s _=>s
def s208:SFn:=by
 refine(?f:YA.Yt Tryz.prog cf 208 [[0,3],[1,2,4,5,6,7,8]]) ?s ?h;case h=>exact YA.rr
 exact fun s _=>s
def s213:SFn:=by
 refine(?f:YA.Yt Tryz.prog cf 213 [[4],[0,1,5,6,7,8]]) ?s ?h;case h=>exact YA.rr
 exact fun s _=>s
def s214:SFn:=by
 refine(?f:YA.Yt Tryz.prog cf 214 [[5],[0,1,2,3,6,7,8,9,10,11,12,13,14,15,16,17]]) ?s ?h;case h=>exact YA.rr
 exact fun s _=>s
def s215:SFn:=by
 refine(?f:YA.Yt Tryz.prog cf 215 [[0,4],[1],[],[10,11,12,13],[5,6,14,15,16,17,18,19,20,21],[2,7,8,9,28,22,27,26,24,25,23,29],[4,29,30],[2,7,8,9,28,22,27,26,24,25,23]]) ?s ?h;case h=>exact YA.rr
 exact fun s _=>s
def s255:SFn:=by
 refine(?f:YA.Yt Tryz.prog cf 255 [[4],[6],[],[9,10],[11,12,13,14,15],[0,1,7,8,5,16,17],[4,5,16,18],[0,1,7,8]]) ?s ?h;case h=>exact YA.rr
 exact fun s _=>s
def s256:SFn:=by
 refine(?f:YA.Yt Tryz.prog cf 256 [[0,3],[1,2,4,5,6]]) ?s ?h;case h=>exact YA.rr
 exact fun s _=>s
def s257:SFn:=by
 refine(?f:YA.Yt Tryz.prog cf 257 [[0,1,4],[2,3,5,6,7,8,9,10]]) ?s ?h;case h=>exact YA.rr
 exact fun s _=>s
def s258:SFn:=by
 refine(?f:YA.Yt Tryz.prog cf 258 [[4],[6],[],[9,10],[11,12,13,14,15],[0,1,7,8,5,16,17],[4,5,16,18],[0,1,7,8]]) ?s ?h;case h=>exact YA.rr
 exact fun s _=>s
end
end Go.AM.WB
namespace Go.AM.SD
variable{c:List (Nat×Nat)}{o':List Int}{al l mk o t unc xs:List Nat}{i n v x y:Nat}{left:Nat->Bool}{p:Nat×Nat}
abbrev Ed:=Nat×Nat×Nat
variable{R:Ed->Ed->Prop}{es:List Ed}{f:Nat->List Ed}
def Rch(es:List Ed)(mk:List Nat)(left:Nat->Bool):Nat->Nat->Prop|0,x=>left x=true/\x∈mk|d+1,x=>Rch es mk left d x\/(left x=true/\∃e∈es,e.1=x/\Rch es mk left d e.2.2)
structure Dst(es:List Ed)(mk:List Nat)(left:Nat->Bool)(o:Nat->Int):Prop where
 neg:∀x,-1<=o x
 zero:∀x,left x=true->x∈mk->o x=0
 zero':∀x,o x=0->left x=true/\x∈mk
 succ:∀x(d:Nat),o x=(d:Int)+1->left x=true/\∃e∈es,e.1=x/\o e.2.2=(d:Int)edge:∀e∈es,left e.1=true->∀d:Nat,o e.2.2=(d:Int)->0<=o e.1/\o e.1<=(d:Int)+1
theorem Dst.rch{o}(h:Dst es mk left o):∀(d x:Nat),Rch es mk left d x↔0<=o x/\o x<=(d:Int):=by
 intro d;induction d with|zero=>
  intro x;constructor;·intro a;have:=h.zero x a.1 a.2;omega
  intro a;exact h.zero' x (by omega)|succ d c=>
  intro x;constructor
  ·rintro(a|⟨b,e,he,rfl,f⟩);·grind
   have h1:=(c _).1 f;obtain⟨k,g⟩:=Zbq h1.1;have:=h.edge e he b k g;omega
  intro a;by_cases i:o x<=(d:Int);·exact .inl ((c x).2 ⟨a.1,i⟩)
  obtain⟨b,e,he,rfl,f⟩:=h.succ x d (by omega);exact .inr ⟨b,e,he,rfl,(c _).2 (by omega)⟩
def InN(n:Nat)(es:List Ed)(mk:List Nat):Prop:=(∀e∈es,e.1<n/\e.2.2<n)/\∀x∈mk,x<n
theorem QfS{l:List Int}{j}{a}(hi:i<l.length):(l.set i a).getD j 0=if j=i then a else l.getD j 0:=by grind
def cntN(n:Nat)(o:List Int):Nat:=(List.range n).countP fun x=>decide (o.getD x 0<0)
def preds(es:List Ed)(v:Nat):List Nat:=(es.filter fun e=>e.2.2==v).map (·.1)
theorem Qd9:y∈preds es v↔∃e∈es,e.1=y/\e.2.2=v:=by simp only[preds,Zaq,ZaZ,beq_iff_eq];simp_all
abbrev QS:=List Int×List Nat
variable{s:QS}
def bMk(left:Nat->Bool)(s:QS)(x:Nat):QS:=if left x then(s.1.set x 0,s.2++[x])else s
def bMks(n:Nat)(mk:List Nat)(left:Nat->Bool):QS:=mk.foldl (bMk left) (List.replicate n (-1),[])
def bEd(left:Nat->Bool)(v:Nat)(s:QS)(y:Nat):QS:=if left y&&decide (s.1.getD y 0<0)then(s.1.set y (s.1.getD v 0+1),s.2++[y])else s
def bRow(es:List Ed)(left:Nat->Bool)(v:Nat)(s:QS):QS:=(preds es v).foldl (bEd left v) s
def bQ(es:List Ed)(left:Nat->Bool):Nat->Nat->QS->QS|0,_,s=>s|k+1,i,s=>match s.2[i]? with|some v=>bQ es left k (i+1) (bRow es left v s)|none=>s
def pDist(n:Nat)(es:List Ed)(mk:List Nat)(left:Nat->Bool):List Int:=(bQ es left (n+1) 0 (bMks n mk left)).1
structure BI(n:Nat)(es:List Ed)(mk:List Nat)(left:Nat->Bool)(s:QS):Prop where
 len:s.1.length=n
 cnt:cntN n s.1+s.2.length=n
 neg:∀x,x<n->-1<=s.1.getD x 0
 inl:∀x,x∈s.2↔x<n/\0<=s.1.getD x 0
 zero:∀x,x<n->left x=true->x∈mk->s.1.getD x 0=0
 zero':∀x,x<n->s.1.getD x 0=0->left x=true/\x∈mk
 succ:∀x(d:Nat),x<n->s.1.getD x 0=(d:Int)+1->left x=true/\∃e∈es,e.1=x/\s.1.getD e.2.2 0=(d:Int)mono:∀(a b x y:Nat),a<=b->s.2[a]?=some x->s.2[b]?=some y->s.1.getD x 0<=s.1.getD y 0
def Done(es:List Ed)(left:Nat->Bool)(i:Nat)(s:QS):Prop:=∀(a v:Nat),a<i->s.2[a]?=some v->∀e∈es,e.2.2=v->left e.1=true->0<=s.1.getD e.1 0/\s.1.getD e.1 0<=s.1.getD v 0+1
def Near(v:Nat)(s:QS):Prop:=∀x,x∈s.2->s.1.getD x 0<=s.1.getD v 0+1
theorem Qpk{o}{a}(m:o.length=n)(g:y<n)(h:o.getD y 0<0)(p:0<=a):cntN n (o.set y a)+1=cntN n o:=by have d:∀x,(o.set y a).getD x 0=if x=y then a else o.getD x 0:=fun x=>QfS (by omega);unfold cntN;have c:(List.range n).Nodup:=Za3;have b:y∈List.range n:=Zau.2 g;generalize List.range n=l at c b;induction l with|nil=>cases b|cons z l i=>
 rw[Zcj]at c;rw[Zch,Zch,d];by_cases f:z=y
 ·subst f;rw[if_pos rfl,if_neg (by simp;omega),if_pos (by simpa using h)];have:l.countP (fun x=>decide ((o.set z a).getD x 0<0))=l.countP (fun x=>decide (o.getD x 0<0)):=by refine List.countP_congr fun x k=>?_;grind
  rw[this]
 grind
theorem Qpl{b z}(h:(l++[y])[b]?=some z):l[b]?=some z\/(b=l.length/\z=y):=by grind
theorem BI.push(h:BI n es mk left s)(hin:InN n es mk)(H:s.2[i]?=some v)(g:Near v s){e}(he:e∈es)(I:e.1=y)(G:e.2.2=v)(F:left y=true)(m:s.1.getD y 0<0):BI n es mk left (s.1.set y (s.1.getD v 0+1),s.2++[y])/\Near v (s.1.set y (s.1.getD v 0+1),s.2++[y])/\(s.1.set y (s.1.getD v 0+1)).getD v 0=s.1.getD v 0/\(∀x,x<n->0<=s.1.getD x 0->(s.1.set y (s.1.getD v 0+1)).getD x 0=s.1.getD x 0):=by
 have t:y<n:=by have:=(hin.1 e he).1;omega
 have o:=(h.inl v).1 (Zaa H);have c:∀x,(s.1.set y (s.1.getD v 0+1)).getD x 0=if x=y then s.1.getD v 0+1 else s.1.getD x 0:=fun x=>QfS (by grind);have hold:∀x,x<n->0<=s.1.getD x 0->(s.1.set y (s.1.getD v 0+1)).getD x 0=s.1.getD x 0:=fun x f l=>by grind
 have p:=hold v o.1 o.2;have B:y∉s.2:=fun hm=>by have:=((h.inl y).1 hm).2;omega
 refine⟨⟨by simp[h.len],?_,fun x f=>?_,fun x=>?_,fun x f A hm=>?_,fun x f l=>?_,fun x d f l=>?_,fun a b x z u f E=>?_⟩,fun x f=>?_,p,hold⟩;·have h1:=Qpk h.len t m (a:=s.1.getD v 0+1) (by omega);have q:=h.cnt;grind
 ·rw[c];split;·omega
  exact h.neg x f
 ·rw[c,ZaE,ZaU];by_cases f:x=y;·omega
  rw[if_neg f,h.inl x];simp[f]
 ·have :=h.zero x f A hm;grind
 ·rw[c]at l;split at l;·omega
  exact h.zero' x f l
 ·rw[c]at l;split at l;·grind
  obtain⟨A,K,C,q,J⟩:=h.succ x d f l;grind
 ·rcases Qpl f with h1|⟨h1,rfl⟩<;>rcases Qpl E with q|⟨q,rfl⟩;·have k:=(h.inl x).1 (Zaa h1);have w:=(h.inl z).1 (Zaa q);rw[hold x k.1 k.2,hold z w.1 w.2];exact h.mono a b x z u h1 q
  ·have k:=(h.inl x).1 (Zaa h1);rw[hold x k.1 k.2,c,if_pos rfl];exact g x (Zaa h1)
  ·grind
  omega
 rw[p];rcases ZaE.1 f with h1|h1;·have k:=(h.inl x).1 h1;rw[hold x k.1 k.2];exact g x h1
 simp_all
theorem Done.push(h:BI n es mk left s)(hin:InN n es mk)(hi:i<=s.2.length)(d:Done es left i s)(hold:∀x,x<n->0<=s.1.getD x 0->o'.getD x 0=s.1.getD x 0):Done es left i (o',s.2++[y]):=by
 intro a v k l e he g f;have b:s.2[a]?=some v:=by grind
 have:=d a v k b e he g f;have c:=(h.inl v).1 (Zaa b);show 0<=o'.getD e.1 0/\o'.getD e.1 0<=o'.getD v 0+1;rw[hold _ (hin.1 e he).1 this.1,hold v c.1 c.2];exact this
theorem BI.row(hin:InN n es mk):∀(ys:List Nat)(s:QS),(∀y∈ys,∃e∈es,e.1=y/\e.2.2=v)->BI n es mk left s->s.2[i]?=some v->Near v s->Done es left i s->BI n es mk left (ys.foldl (bEd left v) s)/\(ys.foldl (bEd left v) s).2[i]?=some v/\Near v (ys.foldl (bEd left v) s)/\Done es left i (ys.foldl (bEd left v) s)/\(∀x,x<n->0<=s.1.getD x 0->(ys.foldl (bEd left v) s).1.getD x 0=s.1.getD x 0)/\∀y∈ys,left y=true->0<=(ys.foldl (bEd left v) s).1.getD y 0:=by intro ys;induction ys with|nil=>intro s _ h a l g;exact⟨h,a,l,g,fun _ _ _=>rfl,fun y d=>by cases d⟩|cons y ys F=>
 intro s b h a l g;obtain⟨e,he,d,k⟩:=b y (by simp);have E:y<n:=by have:=(hin.1 e he).1;omega
 rw[ZaS];by_cases hc:(left y&&decide (s.1.getD y 0<0))=true
 ·have p:bEd left v s y=(s.1.set y (s.1.getD v 0+1),s.2++[y]):=if_pos hc;simp only[Zac,decide_eq_true_eq]at hc;obtain⟨h1,q,L,C⟩:=h.push hin a l he d k hc.1 hc.2;have A:i<s.2.length:=(Zaf.1 a).1;have m:=Done.push (y:=y) h hin (by omega) g C;have f:(s.2++[y])[i]?=some v:=by grind
  rw[p];obtain⟨w,B,t,G,K,M⟩:=F _ (fun z c=>b z (by simp[c])) h1 f q m;refine⟨w,B,t,G,fun x I H=>?_,fun z c J=>?_⟩;·simp_all
  rcases Zav.1 c with rfl|c
  ·have o:(s.1.set z (s.1.getD v 0+1)).getD z 0=s.1.getD v 0+1:=by rw[QfS (by grind),if_pos rfl]
   have u:=(h.inl v).1 (Zaa a);grind
  simp_all
 have p:bEd left v s y=s:=if_neg hc;simp_all
structure BH(n:Nat)(es:List Ed)(mk:List Nat)(left:Nat->Bool)(i:Nat)(s:QS):Prop where
 bi:BI n es mk left s
 done:Done es left i s
 near:∀v,s.2[i]?=some v->Near v s
 le:i<=s.2.length
theorem BH.step(hin:InN n es mk)(h:BH n es mk left i s)(l:s.2[i]?=some v):BH n es mk left (i+1) (bRow es left v s):=by
 obtain⟨g,d,p,z,B,A⟩:=BI.row hin (preds es v) s (fun y t=>Qd9.1 t) h.bi l (h.near v l) h.done;have q:i<(bRow es left v s).2.length:=(Zaf.1 d).1;refine⟨g,fun a u C b e he c m=>?_,fun u b x w=>?_,by omega⟩
 ·by_cases f:a<i;·exact z a u f b e he c m
  have :a=i:=by omega
  subst this;have k:u=v:=ZbZ (b.symm.trans d);subst k;have o:=A e.1 (Qd9.2 ⟨e,he,rfl,c⟩) m;exact⟨o,p e.1 ((g.inl _).2 ⟨(hin.1 e he).1,o⟩)⟩
 have h1:=p x w;have c:=g.mono i (i+1) v u (by omega) d b;grind[bRow]
theorem BH.dst(hin:InN n es mk)(h:BH n es mk left i s)(hi:s.2[i]?=none):Dst es mk left (fun x=>if x<n then s.1.getD x 0 else-1):=by
 have p:s.2.length<=i:=List.getElem?_eq_none_iff.1 hi;refine⟨fun x=>?_,fun x f hm=>?_,fun x c=>?_,fun x d c=>?_,fun e he f d c=>?_⟩
 ·split;·rename_i b;exact h.bi.neg x b
  omega
 ·have b:=hin.2 x hm;rw[if_pos b];exact h.bi.zero x b f hm
 ·split at c;·rename_i b;exact h.bi.zero' x b c
  omega
 ·split at c;·rename_i b;obtain⟨f,e,he,l,m⟩:=h.bi.succ x d b c;exact⟨f,e,he,l,by rw[if_pos (hin.1 e he).2];exact m⟩
  omega
 obtain⟨hf,k⟩:=hin.1 e he;rw[if_pos k]at c;rw[if_pos hf];have hm:e.2.2∈s.2:=(h.bi.inl _).2 ⟨k,by omega⟩;obtain⟨a,g⟩:=List.getElem?_of_mem hm;have o:a<s.2.length:=(Zaf.1 g).1;have:=h.done a e.2.2 (by omega) g e he rfl f;omega
theorem Qjj(hin:InN n es mk):∀(k i:Nat)(s:QS),BH n es mk left i s->n<k+i->(bQ es left k i s).1.length=n/\Dst es mk left (fun x=>if x<n then(bQ es left k i s).1.getD x 0 else-1):=by intro k;induction k with|zero=>intro i s h b;have:=h.bi.cnt;have:=h.le;omega|succ k c=>intro i s h b;unfold bQ;cases a:s.2[i]? with|some v=>exact c (i+1) _ (h.step hin a) (by omega)|none=>exact⟨h.bi.len,h.dst hin a⟩
theorem QuF(n):cntN n (List.replicate n (-1))=n:=by grind[cntN,List.countP_eq_length]
theorem Qfs(hin:InN n es mk)(f:mk.Nodup):BH n es mk left 0 (bMks n mk left):=by
 have key:∀(ms pre:List Nat)(s:QS),(pre++ms).Nodup->(∀x∈pre++ms,x<n)->s.1.length=n->cntN n s.1+s.2.length=n->(∀x,x<n->s.1.getD x 0=if left x&&pre.contains x then 0 else-1)->(∀x,x∈s.2↔left x=true/\x∈pre)->(ms.foldl (bMk left) s).1.length=n/\cntN n (ms.foldl (bMk left) s).1+(ms.foldl (bMk left) s).2.length=n/\(∀x,x<n->(ms.foldl (bMk left) s).1.getD x 0=if left x&&(pre++ms).contains x then 0 else-1)/\(∀x,x∈(ms.foldl (bMk left) s).2↔left x=true/\x∈pre++ms):=by intro ms;induction ms with|nil=>intro pre s _ _ h1 l k i;rw[Zas];exact⟨h1,l,k,i⟩|cons m ms t=>
  intro pre s f g h1 l k i;have q:m<n:=g m (by simp);have A:m∉pre:=fun hm=>by grind
  have e:pre++m::ms=(pre++[m])++ms:=by simp
  rw[e]at f g⊢;rw[ZaS];have w:s.1.getD m 0=-1:=by grind
  by_cases o:left m=true
  ·have p:bMk left s m=(s.1.set m 0,s.2++[m]):=if_pos o;rw[p];refine t (pre++[m]) _ f g (by simp[h1]) ?_ (fun x c=>?_) fun x=>?_;·have :=Qpk h1 q (by omega) (a:=0) (by omega);grind
   ·show(s.1.set m 0).getD x 0=_;rw[QfS (by omega)];by_cases h:x=m;·grind
    rw[if_neg h,k x c];simp[h]
   show x∈s.2++[m]↔_;rw[ZaE,ZaE,i,ZaU];constructor
   ·rintro(C|rfl);·grind
    grind
   grind
  have p:bMk left s m=s:=if_neg o;rw[p];refine t (pre++[m]) _ f g h1 l (fun x c=>?_) fun x=>?_
  ·rw[k x c];by_cases h:x=m;·grind
   simp[h]
  rw[ZaE,i,ZaU];constructor;·grind
  grind
 obtain⟨h1,l,k,i⟩:=key mk [] (List.replicate n (-1),[]) (by simpa using f) (by simpa using hin.2) (by simp) (by rw[QuF];rfl) (fun x c=>by simp_all) (fun x=>by simp);rw[ZaT]at k i;have G:∀x,x<n->(bMks n mk left).1.getD x 0=0\/(bMks n mk left).1.getD x 0=-1:=fun x c=>by grind[bMks]
 have u:∀x,x∈(bMks n mk left).2->(bMks n mk left).1.getD x 0=0:=fun x c=>by grind[bMks]
 refine⟨⟨h1,l,fun x c=>?_,fun x=>?_,fun x c o hm=>?_,fun x c B=>?_,fun x d c B=>?_,fun a b x y _ z E=>?_⟩,fun a v z=>by omega,fun v F x c=>?_,Zaj _⟩;·grind
 ·constructor;·intro c;exact⟨hin.2 x ((i x).1 c).2,by simp_all⟩
  grind[bMks]
 ·simp_all[bMks]
 ·simp_all[bMks]
 ·grind
 ·grind
 grind
def bad(left:Nat->Bool)(unc:List Nat)(e:Ed):Bool:=left e.1&&!left e.2.2&&unc.contains e.2.1
def pLs(left:Nat->Bool)(unc:List Nat)(out:List (Nat×Nat))(e:Ed):List (Nat×Nat):=if bad left unc e then(if(match out.getLast? with|some p=>p.1==e.1|none=>false)then out else out++[(e.1,e.2.1)])else out
def pLost(es:List Ed)(left:Nat->Bool)(unc:List Nat):List (Nat×Nat):=es.foldl (pLs left unc) []
def rL1(es:List Ed)(left:Nat->Bool)(unc:List Nat)(st:Nat):Option (Nat×Nat):=if left st then(es.find? fun e=>e.1==st&&!left e.2.2&&unc.contains e.2.1).map fun e=>(st,e.2.1)else none
def rLost(n:Nat)(es:List Ed)(left:Nat->Bool)(unc:List Nat):List (Nat×Nat):=(List.range n).filterMap (rL1 es left unc)
theorem Qrx{l:List (Nat×Nat)}(h:l.Pairwise fun a b=>a.1<b.1)(h':c.Pairwise fun a b=>a.1<b.1)(hm:∀p,p∈l↔p∈c):l=c:=by induction l generalizing c with
 |nil=>cases c with|nil=>rfl|cons p c=>exact absurd ((hm p).2 (by simp)) (by simp)
 |cons p l d=>cases c with|nil=>exact absurd ((hm p).1 (by simp)) (by simp)|cons q c=>
  rw[ZaB]at h h';have e:p=q:=by grind
  subst e;rw[d h.2 h'.2 fun r=>?_];constructor;·grind
  grind
theorem QgI(n)(es)(left)(unc):(rLost n es left unc).Pairwise fun a b=>a.1<b.1:=by
 unfold rLost;refine List.Pairwise.filterMap _ (R:=(·<·)) ?_ ZbF;intro a b c p hp q d;have h1:∀(st:Nat)(p:Nat×Nat),rL1 es left unc st=some p->p.1=st:=by simp_all[rL1]
 grind
theorem QgJ:p∈rLost n es left unc↔p.1<n/\rL1 es left unc p.1=some p:=by
 unfold rLost;rw[ZbW];have h1:∀(st:Nat)(p:Nat×Nat),rL1 es left unc st=some p->p.1=st:=by simp_all[rL1]
 grind
theorem Qj9{pre:List Ed}{e:Ed}(st:Nat):rL1 (pre++[e]) left unc st=match rL1 pre left unc st with|some p=>some p|none=>if e.1==st&&bad left unc e then some (st,e.2.1)else none:=by grind[rL1,bad]
theorem Qry:∀(es2 pre:List Ed)(out:List (Nat×Nat)),(pre++es2).Pairwise (fun a b=>a.1<=b.1)->out.Pairwise (fun a b=>a.1<b.1)->(∀p,p∈out↔rL1 pre left unc p.1=some p)->(∀p∈out,∃e∈pre,e.1=p.1)->(es2.foldl (pLs left unc) out).Pairwise (fun a b=>a.1<b.1)/\∀p,p∈es2.foldl (pLs left unc) out↔rL1 (pre++es2) left unc p.1=some p:=by intro es2;induction es2 with|nil=>intro pre out _ h1 h2 _;rw[Zas];exact⟨h1,h2⟩|cons e es2 ih=>
 intro pre out hs h1 h2 h3;have ea:pre++e::es2=(pre++[e])++es2:=by simp
 rw[ea]at hs⊢;rw[ZaS];have hge:∀p∈out,p.1<=e.1:=fun p hp=>by obtain⟨x,hx,hxe⟩:=h3 p hp;rw[Zbg]at hs;have:=(Zbg.1 hs.1).2.2 x hx e (by simp);omega
 by_cases hb:bad left unc e=true
 ·by_cases hlast:(match out.getLast? with|some p=>p.1==e.1|none=>false)=true
  ·have e1:pLs left unc out e=out:=by grind[pLs]
   rw[e1];refine ih (pre++[e]) out hs h1 (fun p=>?_) fun p hp=>?_;·rw[Qj9];cases hr:rL1 pre left unc p.1 with|some q=>rw[h2 p,hr]|none=>
    have hnp:¬p∈out:=fun hp=>by grind
    have hne:(e.1==p.1)=false:=by grind
    simp only[hne,ZbQ,Zat,if_false];exact⟨fun hp=>absurd hp hnp,fun h=>by cases h⟩
   obtain⟨x,hx,hxe⟩:=h3 p hp;grind
  have e1:pLs left unc out e=out++[(e.1,e.2.1)]:=by grind[pLs]
  have hlt:∀p∈out,p.1<e.1:=by intro p hp;cases hg:out.getLast? with|none=>rw[List.getLast?_eq_none_iff]at hg;subst hg;cases hp|some q=>
   rw[hg]at hlast;have hqe:q.1≠e.1:=by grind
   have hq:q∈out:=List.mem_of_getLast? hg;have hqle:=hge q hq;obtain⟨init,hi⟩:∃init,out=init++[q]:=by grind[List.getLast?_eq_some_iff]
   rw[hi]at hp h1;rcases ZaE.1 hp with hp|hp;·grind
   grind
  rw[e1];refine ih (pre++[e]) _ hs (Zbg.2 ⟨h1,by simp,fun p hp q hq=>by grind⟩) (fun p=>?_) fun p hp=>?_
  ·rw[Qj9,ZaE,ZaU]
   cases hr:rL1 pre left unc p.1 with|some q=>
    have hq1:p.1=q.1:=by
     unfold rL1 at hr;split at hr;·cases hf:pre.find? fun e=>e.1==p.1&&!left e.2.2&&unc.contains e.2.1 with|none=>rw[hf]at hr;cases hr|some e=>rw[hf]at hr;cases hr;rfl
     cases hr
    have hqm:q∈out:=(h2 q).2 (by grind);have hne:p≠(e.1,e.2.1):=by grind
    simp only[hne,or_false];rw[h2 p,hr]|none=>
    have hnp:¬p∈out:=fun hp=>by grind
    simp only[hnp,false_or];by_cases hep:e.1=p.1;·grind
    grind
  rcases ZaE.1 hp with hp|hp;·obtain⟨x,hx,hxe⟩:=h3 p hp;grind
  grind
 have e1:pLs left unc out e=out:=by grind[pLs]
 rw[e1];refine ih (pre++[e]) out hs h1 (fun p=>?_) fun p hp=>?_;·rw[Qj9];grind
 obtain⟨x,hx,hxe⟩:=h3 p hp;grind
theorem Qm8(i:es.Pairwise fun a b=>a.1<=b.1)(d:∀e∈es,e.1<n):pLost es left unc=rLost n es left unc:=by
 obtain⟨h1,c⟩:=Qry (left:=left) (unc:=unc) es [] [] (by simpa using i) List.Pairwise.nil (fun p=>by simp[rL1]) (fun p hp=>by cases hp);rw[ZaT]at c;refine Qrx h1 (QgI n es left unc) fun p=>?_;rw[QgJ];refine(c p).trans ⟨fun h=>⟨?_,h⟩,fun h=>h.2⟩;unfold rL1 at h;split at h;·cases hf:es.find? fun e=>e.1==p.1&&!left e.2.2&&unc.contains e.2.1 with|none=>rw[hf]at h;cases h|some e=>have g:=ZbL hf;have f:=List.find?_some hf;simp only[Zac,beq_iff_eq]at f;have:=d e g;omega
 cases h
structure Rm where
 st:Nat
 rank:Int
 reason:Nat
 ev:Int deriving DecidableEq
def lostF(rank:Int)(l:List (Nat×Nat)):List Rm:=l.map fun p=>⟨p.1,rank,2,(p.2:Int)⟩
def blkF(left:Nat->Bool)(rank:Int)(d:List Int):List Rm:=(List.range d.length).filterMap fun i=>if left i&&decide (d.getD i 0<0)then some ⟨i,rank,3,-1⟩else none
def pNext(n:Nat)(es:List Ed)(mk:List Nat)(left:Nat->Bool)(unc:List Nat)(rank:Int)(all:Bool):List Rm:=if decide (0<(pLost es left unc).length)||!all then lostF rank (pLost es left unc)else blkF left rank (pDist n es mk left)
abbrev LB:=List Bool
def lf(l:LB):Nat->Bool:=fun i=>l.getD i false
def offs(l:LB)(xs:List Nat):LB:=xs.foldl (fun l x=>l.set x false) l
def pRounds(n:Nat)(es:List Ed)(mk:List Nat)(unc:List Nat)(all:Bool):Nat->Nat->LB->List Rm->Nat->LB×List Rm×Nat|0,_,l,rs,k=>(l,rs,k)|f+1,a,l,rs,k=>if(pNext n es mk (lf l) unc a all).length=0 then(l,rs,k)else pRounds n es mk unc all f (a+1) (offs l ((pNext n es mk (lf l) unc a all).map (·.st))) (rs++pNext n es mk (lf l) unc a all) a
def putR(rs:List Rm)(l:List Rm):List Rm:=l.foldl (fun rs x=>rs.set x.st x) rs
def rm0(i:Nat):Rm:=⟨i,1,1,-1⟩
theorem Qiy(xs):∀l:LB,(offs l xs).length=l.length:=by induction xs with|nil=>intro l;rfl|cons x xs a=>intro l;show(offs (l.set x false) xs).length=_;rw[a];simp
theorem QdL(xs):∀(l:LB)(i:Nat),lf (offs l xs) i=(lf l i&&!xs.contains i):=by induction xs with|nil=>intro l i;simp[offs,lf]|cons x xs a=>
 intro l i;show lf (offs (l.set x false) xs) i=_;rw[a];have:lf (l.set x false) i=(lf l i&&!(i==x)):=by grind[lf]
 rw[this,List.contains_cons];cases lf l i<;>cases(i==x)<;>cases xs.contains i<;>rfl
theorem Qm9{rank:Int}{all:Bool}(hin:InN n es mk)(c:mk.Nodup)(g:es.Pairwise fun a b=>a.1<=b.1):(pNext n es mk left unc rank all).Pairwise (fun a b=>a.st<b.st)/\∀r∈pNext n es mk left unc rank all,r.st<n/\left r.st=true:=by
 have d:(pDist n es mk left).length=n:=(Qjj hin (n+1) 0 _ (Qfs (left:=left) hin c) (by omega)).1;unfold pNext;split
 ·unfold lostF;rw[Qm8 g fun e he=>(hin.1 e he).1];constructor;·simp_all[Zbr,QgI]
  intro r f;obtain⟨p,hp,rfl⟩:=Zaq.1 f;simp_all[QgJ,rL1]
 unfold blkF;rw[d];constructor;·grind[ZbF]
 grind
def cntL(n:Nat)(l:LB):Nat:=(List.range n).countP fun i=>lf l i
theorem Qpm{l c}(h:∀i,i<n->lf c i=true->lf l i=true)(g:x<n)(h1:lf l x=true)(o:lf c x=false):cntL n c<cntL n l:=by unfold cntL;have a:x∈List.range n:=Zau.2 g;have b:∀y∈List.range n,lf c y=true->lf l y=true:=fun y f=>h y (Zau.1 f);generalize List.range n=L at a b;induction L with|nil=>cases a|cons y L m=>
 have hle:L.countP (fun x=>lf c x)<=L.countP (fun x=>lf l x):=List.countP_mono_left fun z k d=>b z (by simp[k]) d;rw[Zch,Zch];rcases Zav.1 a with e|hm;·grind
 grind
theorem Qe5{r}(h:r∈xs):xs.contains r=true:=by simpa using h
structure Agr(n:Nat)(l:LB)(rs rr:List Rm):Prop where
 len:rr.length=n
 st:∀(i:Nat)(r:Rm),rr[i]?=some r->r.st=i
 nd:(rs.map (·.st)).Nodup
 mem:∀r:Rm,r∈rs↔r.st<n/\lf l r.st=false/\rr[r.st]?=some r
theorem Qtq(l):∀rs,(putR rs l).length=rs.length:=by induction l with|nil=>intro rs;rfl|cons x l a=>intro rs;show(putR (rs.set x.st x) l).length=_;rw[a];simp
theorem Qtr:∀(l:List Rm)(rs:List Rm)(i:Nat),(∀r∈l,r.st<rs.length)->l.Pairwise (fun a b=>a.st<b.st)->(putR rs l)[i]?=match l.find? (fun r=>r.st==i)with|some r=>some r|none=>rs[i]?:=by intro l;induction l with|nil=>intro rs i _ _;rfl|cons x l f=>
 intro rs i c hp;rw[ZaB]at hp;show(putR (rs.set x.st x) l)[i]?=_;rw[f _ i (fun r g=>by simp_all) hp.2];have d:=c x (by simp);by_cases e:x.st=i;·grind
 simp_all
theorem Agr.step{l:LB}{rs rr d:List Rm}(h:Agr n l rs rr)(z:l.length=n)(hp:d.Pairwise fun a b=>a.st<b.st)(hm:∀r∈d,r.st<n/\lf l r.st=true):Agr n (offs l (d.map (·.st))) (rs++d) (putR rr d):=by
 have m:=fun i=>Qtr d rr i (fun r c=>by rw[h.len];simp_all) hp;have g:∀r∈d,d.find? (fun q=>q.st==r.st)=some r:=by intro r c;cases hf:d.find? (fun q=>q.st==r.st)with|none=>rw[ZbX]at hf;exact absurd (hf r c) (by simp)|some q=>
  have o:=ZbL hf;have x:q.st=r.st:=by grind
  have:q=r:=by clear hf m;induction d with|nil=>cases c|cons y d A=>
   rw[ZaB]at hp;rcases Zav.1 c with e|p<;>rcases Zav.1 o with v|u;·rw[e,v]
   ·grind
   ·grind
   simp_all
  rw[this]
 refine⟨by rw[Qtq,h.len],fun i r c=>?_,?_,fun r=>?_⟩;·rw[m]at c;cases hf:d.find? (fun q=>q.st==i)with|some q=>rw[hf]at c;cases c;simpa using List.find?_some hf|none=>rw[hf]at c;exact h.st i r c
 ·rw[ZaJ,List.nodup_append];refine⟨h.nd,?_,fun a w b s e=>?_⟩;·rw[ZaN,Zbr];exact hp.imp fun h=>by omega
  subst e;obtain⟨r,c,rfl⟩:=Zaq.1 w;obtain⟨q,o,t⟩:=Zaq.1 s;have h1:=((h.mem r).1 c).2.1;grind
 rw[ZaE,QdL,m];constructor
 ·rintro(c|c);·obtain⟨h1,k,f⟩:=(h.mem r).1 c;grind
  grind
 rintro⟨h1,k,f⟩;cases hf:d.find? (fun q=>q.st==r.st)with|some q=>rw[hf]at f;cases f;exact .inr (ZbL hf)|none=>
  rw[hf]at f;refine .inl ((h.mem r).2 ⟨h1,?_,f⟩);have:(d.map (·.st)).contains r.st=false:=by simp_all
  rw[this]at k;simpa using k
structure Rgt(n:Nat)(es:List Ed)(mk:List Nat)(forb unc:List Nat)(S:Nat->Bool):Prop where
 lt:∀x,S x=true->x<n
 forb:∀x,S x=true->x∉forb
 ctl:∀e∈es,S e.1=true->e.2.1∈unc->S e.2.2=true
 nb:∀x,S x=true->∃d,Rch es mk S d x
theorem Qrz(hin:InN n es mk)(b:mk.Nodup)(g:x<n):0<=(pDist n es mk left).getD x 0↔∃d,Rch es mk left d x:=by
 obtain⟨h1,a⟩:=Qjj hin (n+1) 0 _ (Qfs (left:=left) hin b) (by omega);have a:Dst es mk left (fun x=>if x<n then(pDist n es mk left).getD x 0 else-1):=a;constructor;·intro h;obtain⟨k,f⟩:=Zbq h;exact⟨k,(a.rch k x).2 (by omega)⟩
 rintro⟨d,c⟩;have:=(a.rch d x).1 c;omega
theorem QrA(i:es.Pairwise fun a b=>a.1<=b.1)(g:∀e∈es,e.1<n)(h:pLost es left unc=[]):∀e∈es,left e.1=true->e.2.1∈unc->left e.2.2=true:=by intro e he f k;rw[Qm8 i g]at h;cases c:left e.2.2 with|true=>rfl|false=>
 exfalso;have hex:∃p,rL1 es left unc e.1=some p/\p.1=e.1:=by unfold rL1;rw[if_pos f];cases hf:es.find? fun x=>x.1==e.1&&!left x.2.2&&unc.contains x.2.1 with|none=>rw[ZbX]at hf;have:=hf e he;simp[c,k]at this|some x=>exact⟨_,rfl,rfl⟩
 obtain⟨p,hp,d⟩:=hex;have:p∈rLost n es left unc:=QgJ.2 ⟨by grind,by simp_all⟩;rw[h]at this;cases this
theorem Qqv{all:Bool}(hin:InN n es mk)(d:mk.Nodup)(o:es.Pairwise fun a b=>a.1<=b.1):∀(f rank:Nat)(l:LB)(rs:List Rm)(k:Nat),cntL n l<f->(∀x,lf (pRounds n es mk unc all f rank l rs k).1 x=true->lf l x=true)/\∃c:Nat,pNext n es mk (lf (pRounds n es mk unc all f rank l rs k).1) unc c all=[]:=by intro f;induction f with|zero=>intro rank l rs k h;omega|succ f q=>
 intro rank l rs k h;unfold pRounds;split;·grind
 rename_i m;obtain⟨r,g⟩:∃r,r∈pNext n es mk (lf l) unc rank all:=by cases hp:pNext n es mk (lf l) unc rank all with|nil=>rw[hp]at m;exact absurd rfl m|cons r _=>exact⟨r,by simp⟩
 obtain⟨h1,p⟩:=(Qm9 (left:=lf l) (unc:=unc) (rank:=rank) (all:=all) hin d o).2 r g;have u:cntL n (offs l ((pNext n es mk (lf l) unc rank all).map (·.st)))<cntL n l:=by
  refine Qpm (fun i _ hi=>?_) h1 p ?_;·simp_all[QdL]
  rw[QdL,Qe5 (Zaq.2 ⟨r,g,rfl⟩)];simp
 obtain⟨s,t⟩:=q (rank+1) (offs l ((pNext n es mk (lf l) unc rank all).map (·.st))) (rs++pNext n es mk (lf l) unc rank all) rank (by omega);simp_all[QdL]
def left0(n:Nat)(forb:List Nat):LB:=offs (List.replicate n true) forb
theorem Qiz{forb}:lf (left0 n forb) x=true↔x<n/\x∉forb:=by grind[left0,QdL,lf]
def fin(n:Nat)(es:List Ed)(mk:List Nat)(forb unc:List Nat)(all:Bool):LB×List Rm×Nat:=pRounds n es mk unc all (n+1) 2 (left0 n forb) (forb.map rm0) (if forb.length=0 then 0 else 1)
theorem QuG{forb:List Nat}(hin:InN n es mk)(g:mk.Nodup)(m:es.Pairwise fun a b=>a.1<=b.1):Rgt n es mk forb unc (lf (fin n es mk forb unc true).1):=by
 have hc:cntL n (left0 n forb)<n+1:=by grind[cntL,ZbH]
 obtain⟨h1,c,h⟩:=Qqv (unc:=unc) (all:=true) hin g m (n+1) 2 (left0 n forb) (forb.map rm0) (if forb.length=0 then 0 else 1) hc;have hf:=fun x d=>Qiz.1 (h1 x d);replace h:pNext n es mk (lf (fin n es mk forb unc true).1) unc c true=[]:=h;have f:pLost es (lf (fin n es mk forb unc true).1) unc=[]:=by cases hp:pLost es (lf (fin n es mk forb unc true).1) unc with|nil=>rfl|cons p l=>unfold pNext at h;rw[hp]at h;simp[lostF]at h
 have k:blkF (lf (fin n es mk forb unc true).1) c (pDist n es mk (lf (fin n es mk forb unc true).1))=[]:=by simp_all[pNext]
 refine⟨fun x d=>(hf x d).1,fun x d=>(hf x d).2,fun e he=>QrA m (fun e he=>(hin.1 e he).1) f e he,fun x d=>?_⟩;have i:=(hf x d).1;refine(Qrz hin g i).1 ?_;have o:(pDist n es mk (lf (fin n es mk forb unc true).1)).length=n:=(Qjj hin (n+1) 0 _ (Qfs hin g) (by omega)).1;simp_all[blkF]
structure Aut where
 al:List Nat
 n:Nat
 ms:List Nat
 es:List Ed
variable{a:Aut}
structure WfA(a:Aut):Prop where
 al:a.al.Pairwise (·<·)al5:∀x∈a.al,x<32
 n5:a.n<=4096
 ms:a.ms.Pairwise (·<·)msn:∀x∈a.ms,x<a.n
 es:a.es.Pairwise fun x y=>x.1<y.1\/(x.1=y.1/\x.2.1<y.2.1)esn:∀e∈a.es,e.1<a.n/\e.2.2<a.n
 ev:∀e∈a.es,e.2.1∈a.al
theorem WfA.inN(h:WfA a):InN a.n a.es a.ms:=⟨h.esn,h.msn⟩
theorem WfA.nd(h:WfA a):a.ms.Nodup:=by rw[ZaN];exact h.ms.imp fun h=>by omega
theorem WfA.srt(h:WfA a):a.es.Pairwise fun x y=>x.1<=y.1:=h.es.imp fun h=>by omega
def ZA(es:List Ed)(s ev:Nat):Option Nat:=(es.find? fun e=>e.1==s&&e.2.1==ev).map (·.2.2)
def fEv(es:List Ed)(s:Nat)(out:List Nat)(ev:Nat):List Nat:=match ZA es s ev with|some to=>if out.contains to then out else out++[to]|none=>out
def fRow(al:List Nat)(es:List Ed)(s:Nat)(out:List Nat):List Nat:=al.foldl (fEv es s) out
def fQ(al:List Nat)(es:List Ed):Nat->Nat->List Nat->List Nat|0,_,out=>out|k+1,i,out=>match out[i]? with|some s=>fQ al es k (i+1) (fRow al es s out)|none=>out
def found(a:Aut):List Nat:=fQ a.al a.es (a.n+1) 0 (if 0<a.n then[0]else[])
def idx(l:List Nat)(x:Nat):Nat:=l.findIdx (·==x)
def cRow(a:Aut)(f:List Nat)(i s:Nat):List Ed:=a.al.filterMap fun ev=>(ZA a.es s ev).map fun to=>(i,ev,idx f to)
def cRows(a:Aut)(f:List Nat):List Ed:=(List.range f.length).flatMap fun i=>cRow a f i (f.getD i 0)
def canon(a:Aut):Aut:=⟨a.al,(found a).length,(List.range (found a).length).filter fun i=>a.ms.contains ((found a).getD i 0),cRows a (found a)⟩
theorem QeS(a:∀e∈es,e.1<n/\e.2.2<n){s ev to}(h:ZA es s ev=some to):to<n:=by unfold ZA at h;cases hf:es.find? fun e=>e.1==s&&e.2.1==ev with|none=>rw[hf]at h;cases h|some e=>rw[hf]at h;cases h;exact(a e (ZbL hf)).2
structure FI(n:Nat)(out:List Nat):Prop where
 nd:out.Nodup
 lt:∀x∈out,x<n
theorem Qa1:∀(n:Nat)(l:List Nat),l.Nodup->(∀x∈l,x<n)->l.length<=n
 |0,l,_,h=>by cases l with|nil=>exact Zar _|cons x l=>have:=h x (by simp);omega
 |n+1,l,a,h=>by
  by_cases hm:n∈l
  ·have h1:=Qa1 n (l.erase n) (a.erase n) fun x b=>by grind
   simp_all
  have :=Qa1 n l a fun x b=>by grind
  omega
theorem FI.len{out}(h:FI n out):out.length<=n:=Qa1 n out h.nd h.lt
theorem FI.row(g:∀e∈es,e.1<n/\e.2.2<n)(s):∀(al:List Nat)(out:List Nat),FI n out->FI n (al.foldl (fEv es s) out)/\(∃t,al.foldl (fEv es s) out=out++t)/\∀ev∈al,∀to,ZA es s ev=some to->to∈al.foldl (fEv es s) out:=by intro al;induction al with|nil=>intro out h;exact⟨h,⟨[],by simp⟩,fun ev f=>by cases f⟩|cons ev al k=>
 intro out h;rw[ZaS];have h1:FI n (fEv es s out ev)/\(∃t,fEv es s out ev=out++t)/\∀to,ZA es s ev=some to->to∈fEv es s out ev:=by unfold fEv;cases o:ZA es s ev with|none=>exact⟨h,⟨[],by simp⟩,fun to d=>by cases d⟩|some to=>
  dsimp only;split;·simp_all
  rename_i hc;refine⟨⟨?_,fun x c=>?_⟩,⟨[to],rfl⟩,fun t d=>by cases d;simp⟩;·rw[List.nodup_append];refine⟨h.nd,by simp,fun a v b y e=>?_⟩;simp_all
  rcases ZaE.1 c with c|c;·exact h.lt x c
  simp at c;subst c;exact QeS g o
 obtain⟨m,⟨t,w⟩,q⟩:=h1;obtain⟨l,⟨i,p⟩,u⟩:=k _ m;refine⟨l,⟨t++i,by simp_all⟩,fun e he to d=>?_⟩;rcases Zav.1 he with rfl|he;·grind
 grind
theorem fQ_ok(x:∀e∈es,e.1<n/\e.2.2<n):∀(k i:Nat)(out:List Nat),FI n out->i<=out.length->n<k+i->(∀j s,j<i->out[j]?=some s->∀ev∈al,∀to,ZA es s ev=some to->to∈out)->FI n (fQ al es k i out)/\(∃t,fQ al es k i out=out++t)/\∀s∈fQ al es k i out,∀ev∈al,∀to,ZA es s ev=some to->to∈fQ al es k i out:=by intro k;induction k with|zero=>intro i out h hi l _;have:=h.len;omega|succ k o=>intro i out h hi l w;unfold fQ;cases f:out[i]? with|none=>have c:out.length<=i:=List.getElem?_eq_none_iff.1 f;refine⟨h,⟨[],by simp⟩,fun s hm ev a to g=>?_⟩;have hm:s∈out:=hm;obtain⟨j,b⟩:=List.getElem?_of_mem hm;have p:j<out.length:=(Zaf.1 b).1;exact w j s (by omega) b ev a to g|some s=>
 dsimp only;obtain⟨y,⟨t,d⟩,B⟩:=FI.row x s al out h;have c:i<out.length:=(Zaf.1 f).1;have d:fRow al es s out=out++t:=d;obtain⟨q,⟨v,z⟩,u⟩:=o (i+1) (fRow al es s out) y (by grind) (by omega) fun j A b m ev a to g=>by grind
 exact⟨q,⟨t++v,by simp_all⟩,u⟩
theorem QfT(c:∀e∈a.es,e.1<a.n/\e.2.2<a.n):FI a.n (found a)/\(∃t,found a=(if 0<a.n then[0]else[])++t)/\∀s∈found a,∀ev∈a.al,∀to,ZA a.es s ev=some to->to∈found a:=by
 refine fQ_ok c (a.n+1) 0 _ ?_ (Zaj _) (by omega) fun j s f=>by omega
 split;·rename_i d;exact⟨by simp,fun x b=>by simp_all⟩
 exact⟨by simp,fun x b=>by cases b⟩
theorem Qjk(h:x∈l):idx l x<l.length:=Zbt ⟨x,h,by simp⟩
theorem QuH(h:x∈l):l[idx l x]?=some x:=by have h1:=Qjk h;rw[Zak h1];have:=List.findIdx_getElem (p:=(·==x)) (w:=h1);exact congrArg some (by simp_all:l[List.findIdx (·==x) l]'h1=x)
theorem Qc4(h1:∀i∈l,(f i).Pairwise R)(a:l.Pairwise fun i j=>∀x∈f i,∀y∈f j,R x y):(l.flatMap f).Pairwise R:=by grind
theorem Qts(g:a.al.Pairwise (·<·))(t:∀x∈a.al,x<32)(l:a.n<=4096)(u:∀e∈a.es,e.1<a.n/\e.2.2<a.n):WfA (canon a):=by
 obtain⟨h1,_,w⟩:=QfT u;have b:∀i s,∀e∈cRow a (found a) i s,e.1=i/\e.2.1∈a.al/\(s∈found a->e.2.2<(found a).length):=by intro i s e he;obtain⟨ev,d,hm⟩:=ZbW.1 he;cases c:ZA a.es s ev with|none=>rw[c]at hm;cases hm|some to=>rw[c]at hm;cases hm;exact⟨rfl,d,fun n=>Qjk (w s n ev d to c)⟩
 have f:∀i,i<(found a).length->(found a).getD i 0∈found a:=fun i hi=>by simp_all
 refine⟨g,t,ZaC h1.len l,?_,fun x o=>?_,?_,fun e he=>?_,fun e he=>?_⟩;·exact List.pairwise_lt_range.filter _
 ·have :=(ZaZ.1 o).1;exact Zau.1 this
 ·refine Qc4 (fun i hi=>?_) (List.pairwise_lt_range.imp fun v x o y B=>.inl ?_);·refine List.Pairwise.filterMap _ (R:=(·<·)) ?_ g;intro x y m p hp q k;cases c:ZA a.es ((found a).getD i 0) x with|none=>rw[c]at hp;cases hp|some to=>cases h:ZA a.es ((found a).getD i 0) y with|none=>rw[h]at k;cases k|some to2=>rw[c]at hp;rw[h]at k;cases hp;cases k;exact .inr ⟨rfl,m⟩
  grind
 ·obtain⟨i,hi,he⟩:=Zby.1 he;have hi:=Zau.1 hi;obtain⟨z,_,A⟩:=b _ _ e he;exact⟨by rw[z];exact hi,A (f i hi)⟩
 obtain⟨i,hi,he⟩:=Zby.1 he;exact(b _ _ e he).2.1
abbrev OE:=List Nat×List Ed
def sEd(i:Nat)(s:OE)(e:Ed):OE:=if s.1.contains e.2.2 then(s.1,s.2++[(i,e.2.1,idx s.1 e.2.2)])else(s.1++[e.2.2],s.2++[(i,e.2.1,s.1.length)])
def ZO(es:List Ed)(left:Nat->Bool)(v:Nat):List Ed:=es.filter fun e=>e.1==v&&left e.2.2
def sRow(es:List Ed)(left:Nat->Bool)(i v:Nat)(s:OE):OE:=(ZO es left v).foldl (sEd i) s
def sQ(es:List Ed)(left:Nat->Bool):Nat->Nat->OE->OE|0,_,s=>s|k+1,i,s=>match s.1[i]? with|some v=>sQ es left k (i+1) (sRow es left i v s)|none=>s
def sAll(a:Aut)(left:Nat->Bool):OE:=sQ a.es left (a.n+1) 0 (if decide (0<a.n)&&left 0 then[0]else[],[])
def ZR(a:Aut)(left:Nat->Bool):Aut:=⟨a.al,(sAll a left).1.length,(List.range (sAll a left).1.length).filter fun i=>a.ms.contains ((sAll a left).1.getD i 0),(sAll a left).2⟩
theorem Qde(h:x∈l):idx (l++t) x=idx l x:=by simp_all[idx,List.findIdx_append]
theorem QdM(h:x∉l):idx (l++[x]) x=l.length:=by grind[idx]
theorem Qv3(a:l.Nodup)(h:l[i]?=some x):idx l x=i:=by grind[QuH,List.getElem?_inj]
def num(o:List Nat)(i:Nat)(e:Ed):Ed:=(i,e.2.1,idx o e.2.2)
theorem Qc5(i):∀(c:List Ed)(s:OE),(∀e∈c,e.2.2<n/\left e.2.2=true)->FI n s.1->(∀x∈s.1,left x=true)->FI n (c.foldl (sEd i) s).1/\(∀x∈(c.foldl (sEd i) s).1,left x=true)/\(∃t,(c.foldl (sEd i) s).1=s.1++t)/\(∀e∈c,e.2.2∈(c.foldl (sEd i) s).1)/\(c.foldl (sEd i) s).2=s.2++c.map (num (c.foldl (sEd i) s).1 i):=by intro c;induction c with|nil=>intro s _ h l;exact⟨h,l,⟨[],by simp⟩,(fun e he=>by cases he),by simp⟩|cons e c p=>
 intro s f h l;rw[ZaS];obtain⟨v,w⟩:=f e (by simp);by_cases hc:s.1.contains e.2.2=true
 ·have o:sEd i s e=(s.1,s.2++[(i,e.2.1,idx s.1 e.2.2)]):=if_pos hc;have hm:e.2.2∈s.1:=by simpa using hc
  rw[o];obtain⟨m,k,⟨t,g⟩,q,u⟩:=p (s.1,s.2++[(i,e.2.1,idx s.1 e.2.2)]) (fun x d=>f x (by simp[d])) h l;refine⟨m,k,⟨t,g⟩,fun x d=>?_,?_⟩;·grind
  grind[num,Qde]
 have o:sEd i s e=(s.1++[e.2.2],s.2++[(i,e.2.1,s.1.length)]):=if_neg hc;have hm:e.2.2∉s.1:=by simpa using hc
 rw[o];obtain⟨m,k,⟨t,g⟩,q,u⟩:=p (s.1++[e.2.2],s.2++[(i,e.2.1,s.1.length)]) (fun x d=>f x (by simp[d])) ⟨by rw[List.nodup_append];refine⟨h.nd,by simp,fun a y b z e=>?_⟩;simp_all,fun x d=>by
  rcases ZaE.1 d with d|d;·exact h.lt x d
  simp_all⟩ (fun x d=>by grind);have g:(c.foldl (sEd i) (s.1++[e.2.2],s.2++[(i,e.2.1,s.1.length)])).1=(s.1++[e.2.2])++t:=g;refine⟨m,k,⟨[e.2.2]++t,by simp_all⟩,fun x d=>?_,?_⟩;·grind
 grind[num,Qde,QdM]
structure SI(n:Nat)(es:List Ed)(left:Nat->Bool)(i:Nat)(s:OE):Prop where
 fi:FI n s.1
 lft:∀x∈s.1,left x=true
 le:i<=s.1.length
 cl:∀j v,j<i->s.1[j]?=some v->∀e∈ZO es left v,e.2.2∈s.1
 ed:s.2=(List.range i).flatMap fun j=>(ZO es left (s.1.getD j 0)).map (num s.1 j)
theorem QaV{e}:e∈ZO es left v↔e∈es/\e.1=v/\left e.2.2=true:=by simp_all[ZO]
theorem SI.step(l:∀e∈es,e.1<n/\e.2.2<n){s}(h:SI n es left i s)(p:s.1[i]?=some v):SI n es left (i+1) (sRow es left i v s):=by
 obtain⟨q,o,⟨t,a⟩,w,f⟩:=Qc5 i (ZO es left v) s (fun e he=>⟨(l e (QaV.1 he).1).2,(QaV.1 he).2.2⟩) h.fi h.lft;have m:i<s.1.length:=(Zaf.1 p).1;have a:(sRow es left i v s).1=s.1++t:=a;have c:∀j,j<s.1.length->(sRow es left i v s).1.getD j 0=s.1.getD j 0:=fun j b=>by grind
 refine⟨q,o,by grind,fun j u b k e he=>?_,?_⟩
 ·rw[a,ZaP (by omega)]at k;by_cases g:j<i;·rw[a];exact List.mem_append_left _ (h.cl j u g k e he)
  grind
 show(sRow es left i v s).2=_;have f:(sRow es left i v s).2=s.2++(ZO es left v).map (num (sRow es left i v s).1 i):=f;rw[f,h.ed,ZaK,Zao];congr 1
 ·have :∀j∈List.range i,(ZO es left (s.1.getD j 0)).map (num s.1 j)=(ZO es left ((sRow es left i v s).1.getD j 0)).map (num (sRow es left i v s).1 j):=fun j b=>by
   have b:=Zau.1 b;rw[c j (by omega)];have d:s.1[j]?=some (s.1.getD j 0):=by grind
   refine Zbf fun e he=>?_;unfold num;rw[a,Qde (h.cl j _ b d e he)]
  grind[Zbf]
 simp_all
theorem sQ_ok(c:∀e∈es,e.1<n/\e.2.2<n):∀(k i:Nat)(s:OE),SI n es left i s->n<k+i->SI n es left (sQ es left k i s).1.length (sQ es left k i s)/\∃t,(sQ es left k i s).1=s.1++t:=by intro k;induction k with|zero=>intro i s h g;have:=h.fi.len;have:=h.le;omega|succ k f=>intro i s h g;unfold sQ;cases a:s.1[i]? with|some v=>obtain⟨h1,t,l⟩:=f (i+1) _ (h.step c a) (by omega);obtain⟨_,_,⟨b,d⟩,_,_⟩:=Qc5 i (ZO es left v) s (fun e he=>⟨(c e (QaV.1 he).1).2,(QaV.1 he).2.2⟩) h.fi h.lft;have d:(sRow es left i v s).1=s.1++b:=d;exact⟨h1,b++t,by simp_all⟩|none=>
 have:s.1.length=i:=by have:=List.getElem?_eq_none_iff.1 a;have:=h.le;omega
 dsimp only;rw[this];exact⟨h,[],by simp⟩
theorem QbM(h:WfA a):SI a.n a.es left (sAll a left).1.length (sAll a left)/\∃t,(sAll a left).1=(if decide (0<a.n)&&left 0 then[0]else[])++t:=by
 refine sQ_ok h.esn (a.n+1) 0 _ ?_ (by omega);refine⟨?_,fun x b=>?_,Zaj _,fun j v c=>by omega,by simp⟩
 ·split;·rename_i hc;simp only[Zac,decide_eq_true_eq]at hc;exact⟨by simp,fun x b=>by simp_all⟩
  exact⟨by simp,fun x b=>by cases b⟩
 simp_all
theorem QeT(h:WfA a):WfA (ZR a left):=by
 obtain⟨g,_⟩:=QbM (left:=left) h;have d:∀(j:Nat)(e:Ed),j<(sAll a left).1.length->e∈(ZO a.es left ((sAll a left).1.getD j 0)).map (num (sAll a left).1 j)->∃b∈a.es,b.1=(sAll a left).1.getD j 0/\e=(j,b.2.1,idx (sAll a left).1 b.2.2)/\b.2.2∈(sAll a left).1:=by
  intro j e c he;obtain⟨b,f,rfl⟩:=Zaq.1 he;have m:(sAll a left).1[j]?=some ((sAll a left).1.getD j 0):=by simp_all
  exact⟨b,(QaV.1 f).1,(QaV.1 f).2.1,rfl,g.cl j _ c m b f⟩
 refine⟨h.al,h.al5,ZaC g.fi.len h.n5,List.pairwise_lt_range.filter _,fun x k=>Zau.1 (ZaZ.1 k).1,?_,fun e he=>?_,fun e he=>?_⟩
 ·show(sAll a left).2.Pairwise _;rw[g.ed];refine Qc4 (fun j c=>?_) (List.pairwise_lt_range.imp_of_mem fun{i j}hi c s x k y n=>.inl ?_);·rw[Zbr];have:(ZO a.es left ((sAll a left).1.getD j 0)).Pairwise fun x y=>x.1<y.1\/(x.1=y.1/\x.2.1<y.2.1):=h.es.filter _;refine this.imp_of_mem fun{x y}k n p=>.inr ⟨rfl,?_⟩;have h1:=(QaV.1 k).2.1;have t:=(QaV.1 n).2.1;show x.2.1<y.2.1;omega
  grind
 ·have he:e∈(sAll a left).2:=he;rw[g.ed]at he;obtain⟨j,c,he⟩:=Zby.1 he;obtain⟨b,_,_,l,o⟩:=d j e (Zau.1 c) he;rw[l];exact⟨Zau.1 c,Qjk o⟩
 have he:e∈(sAll a left).2:=he;rw[g.ed]at he;obtain⟨j,c,he⟩:=Zby.1 he;obtain⟨b,q,_,l,o⟩:=d j e (Zau.1 c) he;rw[l];exact h.ev b q
theorem QuI(ho:o.Nodup)(i):∀(a:List Ed)(s:OE)(t:List Nat),(a.foldl (sEd i) s).1++t=o->(∃f,s.1++f=o)->(a.map (num o i)).foldl (sEd i) (List.range s.1.length,s.2)=(List.range (a.foldl (sEd i) s).1.length,(a.foldl (sEd i) s).2):=by intro a;induction a with|nil=>intro s t _ _;rfl|cons e a g=>
 intro s t k l;rw[ZaS]at k;rw[ZaL,ZaS,ZaS];obtain⟨f,l⟩:=l;have c:∀(a:List Ed)(s:OE),∃u,(a.foldl (sEd i) s).1=s.1++u:=by intro a;induction a with|nil=>intro s;exact⟨[],by simp⟩|cons e a g=>
  intro s;rw[ZaS];obtain⟨u,m⟩:=g (sEd i s e);rw[m];unfold sEd;split;·simp_all
  simp_all
 by_cases hc:s.1.contains e.2.2=true
 ·have h:sEd i s e=(s.1,s.2++[(i,e.2.1,idx s.1 e.2.2)]):=if_pos hc;have hm:e.2.2∈s.1:=by simpa using hc
  have b:idx o e.2.2=idx s.1 e.2.2:=by grind[Qde]
  have p:sEd i (List.range s.1.length,s.2) (num o i e)=(List.range s.1.length,s.2++[(i,e.2.1,idx s.1 e.2.2)]):=by
   have d:idx o e.2.2<s.1.length:=by simp_all[Qjk]
   unfold sEd num;rw[if_pos (by simpa using d)];have:idx (List.range s.1.length) (idx o e.2.2)=idx o e.2.2:=Qv3 Za3 (Zbu d);simp_all
  grind
 have h:sEd i s e=(s.1++[e.2.2],s.2++[(i,e.2.1,s.1.length)]):=if_neg hc;have hm:e.2.2∉s.1:=by simpa using hc
 rw[h]at k⊢;obtain⟨u,m⟩:=c a (s.1++[e.2.2],s.2++[(i,e.2.1,s.1.length)]);have n:o=(s.1++[e.2.2])++(u++t):=by simp_all
 have b:idx o e.2.2=s.1.length:=by grind[Qde,QdM]
 have p:sEd i (List.range s.1.length,s.2) (num o i e)=(List.range (s.1++[e.2.2]).length,s.2++[(i,e.2.1,s.1.length)]):=by simp_all[sEd,num,ZaK]
 grind
theorem Qv4{es'}(ho:o.Nodup)(l:∀e∈es,e.1<n/\e.2.2<n)(m:∀i v,o[i]?=some v->ZO es' (fun _=>true) i=(ZO es left v).map (num o i)):∀(k i:Nat)(s:OE)(c:Nat),SI n es left i s->n<k+i->n<c+i->(sQ es left k i s).1=o->sQ es' (fun _=>true) c i (List.range s.1.length,s.2)=(List.range o.length,(sQ es left k i s).2):=by intro k;induction k with|zero=>intro i s c h z _ _;have:=h.fi.len;have:=h.le;omega|succ k y=>intro i s c h z x b;cases c with|zero=>have:=h.fi.len;have:=h.le;omega|succ c=>unfold sQ at b⊢;cases g:s.1[i]? with|none=>have d:s.1.length<=i:=List.getElem?_eq_none_iff.1 g;rw[g]at b;have b:s.1=o:=b;have:(List.range s.1.length)[i]?=none:=ZaG (by simpa using d);dsimp only;rw[this,b]|some v=>
 have d:i<s.1.length:=(Zaf.1 g).1;rw[g]at b;have b:(sQ es left k (i+1) (sRow es left i v s)).1=o:=b;have:(List.range s.1.length)[i]?=some i:=Zbu d;dsimp only;rw[this];dsimp only;have a:=h.step l g;obtain⟨_,t,q⟩:=sQ_ok l k (i+1) _ a (by omega);rw[b]at q;obtain⟨_,_,⟨u,p⟩,_,_⟩:=Qc5 i (ZO es left v) s (fun e he=>⟨(l e (QaV.1 he).1).2,(QaV.1 he).2.2⟩) h.fi h.lft;have p:(sRow es left i v s).1=s.1++u:=p;have w:o[i]?=some v:=by grind
 have f:sRow es' (fun _=>true) i i (List.range s.1.length,s.2)=(List.range (sRow es left i v s).1.length,(sRow es left i v s).2):=by simp_all[sRow,QuI]
 rw[f];exact y (i+1) _ c a (by omega) (by omega) b
theorem Qjl(h:WfA a)(d:(sAll a left).1[i]?=some v):ZO (ZR a left).es (fun _=>true) i=(ZO a.es left v).map (num (sAll a left).1 i):=by
 obtain⟨f,_⟩:=QbM (left:=left) h;have k:i<(sAll a left).1.length:=(Zaf.1 d).1;show(sAll a left).2.filter _=_;rw[f.ed,List.filter_flatMap];have h1:∀j∈List.range (sAll a left).1.length,(((ZO a.es left ((sAll a left).1.getD j 0)).map (num (sAll a left).1 j)).filter fun e=>e.1==i&&true)=if j=i then(ZO a.es left v).map (num (sAll a left).1 i)else[]:=by
  intro j _;by_cases e:j=i;·subst e;rw[if_pos rfl,Zah,d];refine ZbI.2 fun x b=>?_;obtain⟨y,_,rfl⟩:=Zaq.1 b;simp[num]
  rw[if_neg e];refine List.filter_eq_nil_iff.2 fun x b=>?_;obtain⟨y,_,rfl⟩:=Zaq.1 b;simp[num,e]
 rw[List.flatMap_def,Zbf h1,<-List.flatMap_def];have key:∀(l:List Nat)(X:List Ed),l.Nodup->(l.flatMap fun j=>if j=i then X else[])=if i∈l then X else[]:=by intro l X;induction l with|nil=>intro _;rfl|cons j l g=>
  intro c;rw[Zcj]at c;rw[Zaz,g c.2];by_cases e:j=i;·simp_all
  grind
 simp_all[Za3]
theorem Qqw(h:WfA a):sAll (ZR a left) (fun _=>true)=(List.range (ZR a left).n,(ZR a left).es):=by
 obtain⟨u,t,q⟩:=QbM (left:=left) h;have p:SI a.n a.es left 0 ((if decide (0<a.n)&&left 0 then[0]else[],[]):OE):=by
  refine⟨?_,fun x c=>?_,Zaj _,fun j v y=>by omega,by simp⟩
  ·split;·rename_i hc;simp only[Zac,decide_eq_true_eq]at hc;exact⟨by simp,fun x c=>by simp_all⟩
   exact⟨by simp,fun x c=>by cases c⟩
  simp_all
 have C:(ZR a left).n<=a.n:=u.fi.len;by_cases hc:(decide (0<a.n)&&left 0)=true
 ·rw[if_pos hc]at p q;have o:sAll a left=sQ a.es left (a.n+1) 0 ([0],[]):=by simp_all[sAll]
  have n:0<(ZR a left).n:=by show 0<(sAll a left).1.length;rw[q];simp
  have A:sAll (ZR a left) (fun _=>true)=sQ (ZR a left).es (fun _=>true) ((ZR a left).n+1) 0 (List.range ([0]:List Nat).length,[]):=by simp_all[sAll]
  rw[A];have l:∀(es:List Ed)(left:Nat->Bool)(k i:Nat)(s:OE)(m:Nat),SI m es left i s->(∀e∈es,e.1<m/\e.2.2<m)->m<k+i->∀b,k<=b->sQ es left k i s=sQ es left b i s:=by intro es left k;induction k with|zero=>intro i s m h _ B;have:=h.fi.len;have:=h.le;omega|succ k z=>intro i s m h hm B b w;cases b with|zero=>omega|succ b=>unfold sQ;cases g:s.1[i]? with|none=>rfl|some v=>exact z (i+1) _ m (h.step hm g) hm (by omega) b (by omega)
  have f:=QeT (left:=left) h;have d:SI (ZR a left).n (ZR a left).es (fun _=>true) 0 ((List.range ([0]:List Nat).length,[]):OE):=⟨⟨Za3,fun x c=>by simp_all⟩,fun _ _=>rfl,Zaj _,fun j v y=>by omega,by simp⟩;rw[l _ _ ((ZR a left).n+1) 0 _ (ZR a left).n d f.esn (by omega) (a.n+1) (by omega)];have:=Qv4 (n:=a.n) (es:=a.es) (es':=(ZR a left).es) (left:=left) (o:=(sAll a left).1) u.fi.nd h.esn (fun i v g=>Qjl h g) (a.n+1) 0 ([0],[]) (a.n+1) p (by omega) (by omega) (by rw[o]);rw[this];show _=(List.range (sAll a left).1.length,(sAll a left).2);rw[o]
 simp_all[sAll,if_neg,sQ,ZR]
theorem QoL(h:WfA a):ZR (ZR a left) (fun _=>true)=ZR a left:=by
 have h1:=Qqw (left:=left) h;have b:(sAll (ZR a left) fun _=>true).1.length=(ZR a left).n:=by rw[h1];simp
 have e:∀(A B:Aut),A.al=B.al->A.n=B.n->A.ms=B.ms->A.es=B.es->A=B:=fun A B h1 f g d=>by cases A;simp_all
 refine e _ _ rfl b ?_ (by simp_all[ZR]);show(List.range (sAll (ZR a left) fun _=>true).1.length).filter _=_;rw[b,h1];have c:(ZR a left).ms=(List.range (ZR a left).n).filter fun i=>a.ms.contains ((sAll a left).1.getD i 0):=rfl;have:∀i∈List.range (ZR a left).n,(ZR a left).ms.contains ((List.range (ZR a left).n).getD i 0)=a.ms.contains ((sAll a left).1.getD i 0):=fun i hi=>by simp_all
 grind[ZbA]
def part(n bits:Nat):List Nat:=(List.range n).filter fun i=>bits.testBit i
theorem Qna{bits}:x∈part n bits↔x<n/\bits.testBit x=true:=by simp[part]
theorem Qd4(n bits):(part n bits).Pairwise (·<·):=List.pairwise_lt_range.filter _
def kept(n:Nat)(l:LB):List Nat:=(List.range n).filter (lf l)
end Go.AM.SD
theorem Go.AM.buyxd{p:Prop}(h:p:=by
 simp only[aAppend,aSrc,if_true,slLen,QcH,QcZ,QeK];apply propext;constructor;·rintro⟨c,o,f,k,i⟩;rw[f,Qb2,if_pos ⟨rfl,k⟩];exact⟨_,_,rfl,rfl,⟨c.1,c.2.1⟩,c.2.2,i⟩
 rintro⟨p,q,l,m,c,k,i⟩;cases l;unfold srcB at m;grind):p:=h
theorem Go.AM.buzPr{p:Prop}(h:p:=by
 rename_i s z;cases s<;>simp only[SOp.touch,SOp.cls,show Nat.beq 2 0=false from rfl,cond_false,reduceCtorEq,Zab]at h;subst h;refine⟨QbX ?_,fun _ _ _=>by simp⟩;unfold aBox;split;·exact new1
 trivial):p:=h
theorem Go.AM.bwcU5{p:Prop}(h:p:=by
 rename_i s z;cases s<;>simp only[SOp.absV,reduceCtorEq,Zab]at d;subst d;refine n rfl ?_;unfold aBox;split;·exact QcI (self rfl)
 trivial):p:=h
theorem Go.AM.bBgPw{p:Prop}(h:p:=by
 refine Zc7 a ?_;exact⟨.inr trivial,_,rfl,by rw[QiB fun j y f=>m j y (by have:=(Zaf.1 f).1;omega) f];rfl⟩):p:=h
namespace Go.AM
variable{ok:Okc}
open Go.ChangeShapes Go.WideShapes
def inF(w:World)(k:Nat):Prop:=k<w.heap.size
end Go.AM
namespace Go.AM
open Go.ChangeShapes Go.WideShapes
variable{v:AV}{x:Blk}{h:Heap}{k:IntKind}{a:List (Nat×Nat×AV)}{cs vs y z:List AV}{c l:List MemPlace}{b n off:Nat}{q:Nat->Bool}{w:Nat->Nat->AV}{P:Program}{H:Type}{t:TypeId}
inductive Ty where|int(k:IntKind)|bool|str|arr(n:Nat)(t:Ty)|sl(t:Ty)|st(fs:Ty)|unit|pair(a b:Ty)
def Ty.sz:Ty->Nat|.int _|.bool|.str|.sl _=>1|.arr n t=>n*t.sz|.st fs=>fs.sz|.unit=>0|.pair a b=>a.sz+b.sz
abbrev Ty.D:Ty->Type|.int _=>Int|.bool=>Bool|.str=>List UInt8|.arr _ t|.sl t=>List t.D|.st fs=>fs.D|.unit=>Unit|.pair a b=>a.D×b.D
def Ty.cells:(t:Ty)->t.D->List AV|.int k,n=>[.int k n]|.bool,b=>[.bool b]|.str,s=>[.str s]|.arr _ t,l=>List.flatMap (Ty.cells t) l|.sl t,l=>[.fsl (List.flatMap (Ty.cells t) l) (List.length l) t.sz]|.st fs,d=>Ty.cells fs d|.unit,_=>[]|.pair a b,d=>Ty.cells a d.1++Ty.cells b d.2
def Ty.wf:(t:Ty)->t.D->Prop|.int k,n=>(Lit.int k n).wf=true|.bool,_=>True|.str,s=>List.length s<=9223372036854775807|.arr n t,l=>List.length l=n/\∀x∈(show List t.D from l),Ty.wf t x|.sl t,l=>List.length l<=9223372036854775807/\∀x∈(show List t.D from l),Ty.wf t x|.st fs,d=>Ty.wf fs d|.unit,_=>True|.pair a b,d=>Ty.wf a d.1/\Ty.wf b d.2
def eltT(P:Program)(a:List TypeId):List TypeId:=match a with|t::_=>(match P.underlying t with|some (.slice e)=>[e]|some (.array _ e)=>[e]|_=>[])|[]=>[]
def fldT(P:Program)(a:List TypeId):List TypeId:=match a with|t::_=>(match P.underlying t with|some (.struct l)=>l.toList.map (·.type)|_=>[])|[]=>[]
def Ty.sized(P:Program):(t:Ty)->List TypeId->t.D->Prop|.arr _ t,c,l=>∀x∈(show List t.D from l),Ty.sized P t (eltT P c) x|.sl t,c,l=>(∀e∈eltT P c,List.length l*P.bytesOf e<=reachBytes)/\∀x∈(show List t.D from l),Ty.sized P t (eltT P c) x|.st fs,c,d=>Ty.sized P fs (fldT P c) d|.pair a b,c,d=>Ty.sized P a (c.take 1) d.1/\Ty.sized P b c.tail d.2|_,_,_=>True
theorem QdN{e}:∀{l:List (DataW H)}{d:DataW H},d∈l->(DataW.weightsAll P e l).all q=true->(d.weights P e).all q=true
 |x::l,d,a,h=>by
  simp only[DataW.weightsAll,ZbR,Zac]at h;rcases Zav.1 a with rfl|a;·exact h.1
  exact QdN a h.2
mutual def okTy(P:Program):Ty->TypeId->Bool
 |.int k,t=>match P.underlying t with|some (.int k')=>k'==k|_=>false
 |.bool,t=>match P.underlying t with|some .bool=>true|_=>false
 |.str,t=>match P.underlying t with|some .string=>true|_=>false
 |.arr n e,t=>match P.underlying t with|some (.array m u)=>n==m&&okTy P e u&&P.cellsOf u==e.sz&&P.cellsOf t==n*e.sz|_=>false
 |.sl e,t=>match P.underlying t with|some (.slice u)=>okTy P e u&&P.cellsOf u==e.sz&&Nat.blt 0 e.sz|_=>false
 |.st fs,t=>match P.underlying t with|some (.struct l)=>okFs P fs l.toList 0&&P.cellsOf t==fs.sz|_=>false
 |_,_=>false termination_by structural ty=>ty def okFs(P:Program):Ty->List Field->Nat->Bool
 |.unit,l,_=>match l with|[]=>true|_=>false
 |.pair a b,l,off=>match l with|f::l=>f.offset==off&&okTy P a f.type&&P.cellsOf f.type==a.sz&&okFs P b l (off+a.sz)|_=>false
 |_,_,_=>false termination_by structural ty=>ty end
section
variable{ok:Okc}{H:Type}{enc:TypeId×Value->H}{P:Program}{W:World}{spare:Nat->Bool}
theorem Qea:∀(t:Ty)(d:t.D),t.wf d->(t.cells d).length=t.sz
 |.int _,_,_=>rfl|.bool,_,_=>rfl|.str,_,_=>rfl|.sl _,_,_=>rfl|.unit,_,_=>rfl|.st fs,d,h=>Qea fs d h|.pair a b,d,h=>by simp only[Ty.cells,Ty.sz,Zag,Qea a d.1 h.1,Qea b d.2 h.2]|.arr n t,l,h=>by
  obtain⟨h1,g⟩:=h;simp only[Ty.cells,Ty.sz,<-h1];have:∀(l:List t.D),(∀x∈l,t.wf x)->(l.flatMap t.cells).length=l.length*t.sz:=by intro l;induction l with|nil=>intro _;simp|cons x l i=>intro c;simp[Zaz,Qea t x (c x (by simp)),i fun y f=>c y (by simp[f]),Zbn];omega
  exact this l g
theorem QiA{α β:Type}{f}:∀{l:List α}{r:List β},l.mapM f=some r->r.length=l.length/\∀(i:Nat)(x:α),l[i]?=some x->∃y,f x=some y/\r[i]?=some y|[],r,h=>by simp_all|a::l,r,h=>by simp only[List.mapM_cons,Option.bind_eq_bind,Zb3]at h;obtain⟨y,d,g,b,e⟩:=h;simp at e;subst e;obtain⟨h1,c⟩:=QiA b;grind
theorem many{ok}{t:Ty}{R:t.D->Prop}{c:Ctx ok}:∀{cs:List Value},(∀i,i<n->∃x:t.D,R x/\VRels c W (t.cells x) ((cs.drop (i*t.sz)).take t.sz))->n*t.sz<=cs.length->∃l:List t.D,l.length=n/\(∀x∈l,R x)/\VRels c W (l.flatMap t.cells) (cs.take (n*t.sz)):=by induction n with|zero=>intro cs _ _;exact⟨[],rfl,by simp,by simp[VRels]⟩|succ n d=>intro cs b f;obtain⟨x,h1,h⟩:=b 0 (by omega);rw[Zbn]at f;obtain⟨l,g,k,a⟩:=d (cs:=cs.drop t.sz) (fun i hi=>by grind[Za1]) (by simp;omega);refine⟨x::l,by simp[g],by simp_all,?_⟩;rw[Zaz,Zbn,Nat.add_comm,List.take_add];refine QbC ?_ a;simpa using h
mutual theorem Qhf:∀(ty:Ty)(t:TypeId)(fuel:Nat)(cs:List Value)(x:DataW H×List MemPlace),(∀b,spare b=true)->okTy P ty t=true->DataW.trod enc P W 0 spare true fuel t cs=some x->∃d:ty.D,(ty.wf d/\((x.1.weights P t).all (·<=reachBytes)=true->ty.sized P [t] d))/\VRels (only (ok:=ok) (inF W)) W (ty.cells d) cs:=by intro ty t fuel cs x hs ho h;match ty with
 |.int k=>
  simp only[okTy]at ho;split at ho<;>try(cases ho;done)
  rename_i k' hu;simp only[beq_iff_eq]at ho;subst ho;obtain⟨n,rfl,_,hw⟩:=DataW.trod_int hu h;exact⟨n,⟨hw,fun _=>trivial⟩,by simp[Ty.cells,VRels,VRel]⟩|.bool=>
  simp only[okTy]at ho;split at ho<;>try(cases ho;done)
  rename_i hu;obtain⟨b,rfl,_⟩:=DataW.trod_bool hu h;exact⟨b,⟨trivial,fun _=>trivial⟩,by simp[Ty.cells,VRels,VRel]⟩|.str=>
  simp only[okTy]at ho;split at ho<;>try(cases ho;done)
  rename_i hu;obtain⟨s,rfl,_,hl⟩:=DataW.trod_string hu h;refine⟨s.data.toList,⟨?_,fun _=>trivial⟩,?_⟩;·simp only[ByteArray.size,maxLen]at hl;simp_all[Ty.wf]
  ·simp[Ty.cells,VRels,VRel]|.unit=>simp[okTy]at ho|.pair a b=>simp[okTy]at ho|.st fs=>
  simp only[okTy]at ho;split at ho<;>try(cases ho;done)
  rename_i l hu;simp only[Zac,beq_iff_eq]at ho;obtain⟨ho,hsz⟩:=ho;cases fuel with|zero=>simp[DataW.trod]at h|succ n=>
   unfold DataW.trod at h;rw[hu]at h;split at h<;>first|(simp_all;done)|skip
   rename_i fs' he;injection he with he;injection he with he;subst he;split at h
   ·rename_i hl;simp only[Option.map_eq_some_iff]at h;obtain⟨xs,hm,rfl⟩:=h;obtain⟨d,⟨h1,h3⟩,h2⟩:=Qpn fs l.toList 0 n _ xs hs ho hm (by omega);refine⟨d,⟨h1,fun hw=>?_⟩,?_⟩;·simp only[DataW.weights,hu]at hw;show Ty.sized P fs (fldT P [t]) d;simp only[fldT,hu];exact h3 hw
    grind[Ty.cells]
   ·cases h
 |.arr m e=>
  simp only[okTy]at ho;split at ho<;>try(cases ho;done)
  rename_i m' u hu;simp only[Zac,beq_iff_eq]at ho;obtain⟨⟨⟨rfl,ho⟩,hsz⟩,hst⟩:=ho;cases fuel with|zero=>simp[DataW.trod]at h|succ n=>
   unfold DataW.trod at h;rw[hu]at h;split at h<;>first|(simp_all;done)|skip
   rename_i m' u' he;injection he with he;injection he with he1 he2;subst he1;subst he2;split at h
   ·rename_i hl;simp only[Option.map_eq_some_iff]at h;obtain⟨xs,hm,rfl⟩:=h;obtain⟨g1,g2⟩:=QiA hm;rw[hst]at hl;obtain⟨l,k1,k2,k3⟩:=many (t:=e) (R:=fun x=>e.wf x/\((DataW.weightsAll P u (xs.map (·.1))).all (·<=reachBytes)=true->e.sized P [u] x)) (c:=only (inF W)) (n:=m) (fun i hi=>by obtain⟨y,hy,hyx⟩:=g2 i i (by simp[hi]);rw[hsz]at hy;obtain⟨d,⟨j1,j2⟩,j3⟩:=Qhf e u n _ y hs ho hy;exact⟨d,⟨j1,fun hw=>j2 (QdN (Zaq.2 ⟨y,Zaa hyx,rfl⟩) hw)⟩,j3⟩) (by omega);refine⟨l,⟨⟨k1,fun x hx=>(k2 x hx).1⟩,fun hw=>?_⟩,?_⟩;·simp only[DataW.weights,hu]at hw;show∀x∈l,Ty.sized P e (eltT P [t]) x;simp only[eltT,hu];exact fun x hx=>(k2 x hx).2 hw
    rw[<-hl,Zan]at k3;exact k3
   ·cases h
 |.sl e=>
  simp only[okTy]at ho;split at ho<;>try(cases ho;done)
  rename_i u hu;simp only[Zac,beq_iff_eq,Zb1]at ho;obtain⟨⟨ho,hsz⟩,hpos⟩:=ho;rcases DataW.trod_slice hu h with⟨rfl,_⟩|⟨a,len,cap,elems,rest,n,_,rfl,rfl,_,hl,hm,hlen,hel,hsp,hns⟩;·exact⟨[],⟨⟨by simp,by simp⟩,fun _=>⟨fun _ _=>by simp,by simp⟩⟩,by simp[Ty.cells,VRels,VRel]⟩
  obtain⟨hrl,hr⟩:=hsp (hs _);have each:∀i,i<cap->∃cs,(w':W.cells? 0 (a.add (i*e.sz)) e.sz=some cs)->True:=fun _ _=>⟨[],fun _=>trivial⟩;have each:∀i,i<cap->∃cs y,W.cells? 0 (a.add (i*e.sz)) e.sz=some cs/\DataW.trod enc P W 0 spare true n u cs=some y:=by
   intro i hi;by_cases hil:i<len;·grind[Zb3]
   ·have h1:=hr (i-len) (by omega);grind[Zb3]
  by_cases h0:cap=0
  ·have :len=0:=by omega
   subst h0;subst this;exact⟨[],⟨⟨by simp,by simp⟩,fun _=>⟨fun _ _=>by simp,by simp⟩⟩,by simp[Ty.cells,VRels,VRel]⟩
  have cellsAt:∀i cs,W.cells? 0 (a.add (i*e.sz)) e.sz=some cs->cs.length=e.sz/\∀j,j<e.sz->W.cell? ((a.add (i*e.sz)).add j)=cs[j]?:=by intro i cs hcs;unfold World.cells? at hcs;rw[if_pos (Zaj _)]at hcs;obtain⟨g1,g2⟩:=QiA hcs;refine⟨by simpa using g1,fun j hj=>?_⟩;obtain⟨y,k1,k2⟩:=g2 j j (by simp[hj]);rw[k1,k2]
  obtain⟨cs0,y0,hc0,_⟩:=each 0 (by omega);obtain⟨q1,q2⟩:=cellsAt 0 cs0 hc0;have hcell0:=q2 0 hpos;rw[Zak (by omega)]at hcell0;obtain⟨b,off,spot⟩:=a;have hspot:spot=none:=by simpa[Addr.add]using World.cell?_spot hcell0
  subst hspot;have hb:∃C e fr,W.heap[b]?=some (.cells C e fr):=by grind[World.cell?,Addr.add]
  obtain⟨C,et,fr,hb⟩:=hb;have hcell:∀i cs,W.cells? 0 ((⟨b,off,none⟩:Addr).add (i*e.sz)) e.sz=some cs->i<cap->(C.toList.drop (off+i*e.sz)).take e.sz=cs:=by
   intro i cs hcs hi;obtain⟨k1,k2⟩:=cellsAt i cs hcs;refine ZbG fun j=>?_;by_cases hj:j<e.sz;·simp_all[Go.WideShapes.add_plain,World.cell?]
   grind
  have hCs:len*e.sz<=(C.toList.drop off).length:=by
   by_cases hl0:len=0;·subst hl0;simp
   obtain⟨cs,y,hcs,_⟩:=each (len-1) (by omega);have h1:=hcell (len-1) cs hcs (by omega);obtain⟨k1,_⟩:=cellsAt (len-1) cs hcs;have h2:=congrArg List.length h1;rw[k1,Zap,ZaR]at h2;rw[ZaR];have h3:len*e.sz=(len-1)*e.sz+e.sz:=by rw[<-Zbn];congr 1;omega
   omega
  have eachL:∀i,i<len->∃cs y,W.cells? 0 ((⟨b,off,none⟩:Addr).add (i*e.sz)) e.sz=some cs/\DataW.trod enc P W 0 spare true n u cs=some y/\y∈elems:=by intro i hi;have h1:=hel i hi;rw[Zak (by omega),hsz,Zb3]at h1;obtain⟨cs,hcs,hy⟩:=h1;exact⟨cs,_,hcs,hy,List.getElem_mem _⟩
  obtain⟨l,k1,k2,k3⟩:=many (t:=e) (R:=fun x=>e.wf x/\((DataW.weightsAll P u (elems.map (·.1))).all (·<=reachBytes)=true->e.sized P [u] x)) (c:=only (inF W)) (n:=len) (cs:=C.toList.drop off) (fun i hi=>by obtain⟨cs,y,hcs,hy,hyx⟩:=eachL i hi;rw[Za1,hcell i cs hcs (by omega)];obtain⟨d,⟨j1,j2⟩,j3⟩:=Qhf e u n cs y hs ho hy;exact⟨d,⟨j1,fun hw=>j2 (QdN (Zaq.2 ⟨y,hyx,rfl⟩) hw)⟩,j3⟩) hCs;have k2':∀x∈l,e.wf x:=fun x hx=>(k2 x hx).1;refine⟨l,⟨⟨by grind[maxLen],k2'⟩,fun hw=>?_⟩,?_⟩
  ·replace hw:(DataW.weights P t (.slice (elems.map (·.1)) (rest.map (·.1)))).all (·<=reachBytes)=true:=hw;simp only[DataW.weights,hu,Zcb,ZbR,Zac,decide_eq_true_eq,Zax]at hw;refine⟨fun v hv=>?_,?_⟩;·simp only[eltT,hu,ZaU]at hv;subst hv;refine ZaC (Zbe _ ?_) hw.1;show List.length l<=_;omega
   ·show∀x∈l,Ty.sized P e (eltT P [t]) x;simp only[eltT,hu];exact fun x hx=>(k2 x hx).2 hw.2.1
  simp only[Ty.cells,VRels,VRel];have hll:(l.flatMap e.cells).length=l.length*e.sz:=Qea (.arr l.length e) l ⟨rfl,k2'⟩;refine⟨_,[],rfl,.inr ⟨b,off,cap,C,et,fr,by rw[k1],by omega,hll,Qbk hb,hb,?_⟩,rfl⟩;have:=Qig (vs:=(C.toList.drop off).drop (len*e.sz)) k3;rwa[Za9]at this termination_by structural ty=>ty theorem Qpn:∀(ty:Ty)(fs:List Field)(off fuel:Nat)(cs:List Value)(xs:List (DataW H×List MemPlace)),(∀b,spare b=true)->okFs P ty fs off=true->(fs.mapM fun f=>DataW.trod enc P W 0 spare true fuel f.type ((cs.drop f.offset).take (P.cellsOf f.type)))=some xs->off+ty.sz<=cs.length->∃d:ty.D,(ty.wf d/\((DataW.weightsEach P (fs.map (·.type)) (xs.map (·.1))).all (·<=reachBytes)=true->ty.sized P (fs.map (·.type)) d))/\VRels (only (ok:=ok) (inF W)) W (ty.cells d) ((cs.drop off).take ty.sz):=by intro ty fs off fuel cs xs hs ho h hl;match ty with
 |.unit=>exact⟨(),⟨trivial,fun _=>trivial⟩,by simp[Ty.cells,VRels,Ty.sz]⟩|.pair a b=>cases fs with|nil=>simp[okFs]at ho|cons f fs=>
  simp only[okFs,Zac,beq_iff_eq]at ho;obtain⟨⟨⟨rfl,h1⟩,h2⟩,h3⟩:=ho;simp only[List.mapM_cons,Option.bind_eq_bind,Zb3]at h;obtain⟨y,hy,ys,hys,hxs⟩:=h;have hxs:y::ys=xs:=by simpa using hxs
  subst hxs;rw[h2]at hy;simp only[Ty.sz]at hl;obtain⟨d1,⟨g1,w1⟩,g2⟩:=Qhf a f.type fuel _ y hs h1 hy;obtain⟨d2,⟨g3,w2⟩,g4⟩:=Qpn b fs (f.offset+a.sz) fuel cs ys hs h3 hys (by omega);refine⟨(d1,d2),⟨⟨g1,g3⟩,fun hw=>?_⟩,?_⟩;·simp only[ZaL,DataW.weightsEach,ZbR,Zac]at hw;exact⟨w1 hw.1,w2 hw.2⟩
  simp only[Ty.cells,Ty.sz];rw[List.take_add];refine QbC g2 ?_;rw[Za1];exact g4
 |.int _=>simp[okFs]at ho|.bool=>simp[okFs]at ho|.str=>simp[okFs]at ho|.arr _ _=>simp[okFs]at ho|.sl _=>simp[okFs]at ho|.st _=>simp[okFs]at ho termination_by structural ty=>ty end
def Ty.val:(t:Ty)->t.D->AV|.arr n t,d=>.agg (Ty.cells (.arr n t) d)|.st fs,d=>.agg (Ty.cells (.st fs) d)|.int k,n=>.int k n|.bool,b=>.bool b|.str,s=>.str s|.sl t,l=>.fsl (List.flatMap (Ty.cells t) l) (List.length l) t.sz|.unit,_=>.any|.pair _ _,_=>.any
theorem QuJ(ty){base}{v}{g}(ho:okTy P ty t=true)(c:Value.okWide P W .any base t v)(h:DataW.Trod enc P W 0 (fun _=>true) true t v g l):∃d:ty.D,(ty.wf d/\((g.weights P t).all (·<=reachBytes)=true->ty.sized P [t] d))/\VRel (only (ok:=ok) (inF W)) W (ty.val d) v:=by
 obtain⟨fuel,h⟩:=h;obtain⟨d,h1,f⟩:=Qhf (spare:=fun _=>true) ty t fuel _ _ (fun _=>rfl) ho h;refine⟨d,h1,?_⟩;have one:∀(u:AV),VRels (only (ok:=ok) (inF W)) W [u] v.cells.toList->(∀cs,v≠.agg cs)->VRel (only (ok:=ok) (inF W)) W u v:=by
  intro u hu i;have:v.cells=#[v]:=by cases v<;>first|rfl|exact absurd rfl (i _)
  simp_all[VRels]
 cases ty with|unit=>simp[okTy]at ho|pair a b=>simp[okTy]at ho|arr n e=>
  simp only[okTy]at ho;split at ho<;>try(cases ho;done)
  rename_i hu;simp only[Value.okWide,hu]at c;obtain⟨cs,rfl,_⟩:=c;simp only[Ty.val,VRel];exact⟨_,rfl,f⟩|st fs=>
  simp only[okTy]at ho;split at ho<;>try(cases ho;done)
  rename_i hu;simp only[Value.okWide,hu]at c;obtain⟨cs,rfl,_⟩:=c;simp only[Ty.val,VRel];exact⟨_,rfl,f⟩|int k=>
  refine one _ f ?_;rintro cs rfl;simp only[okTy]at ho;split at ho<;>try(cases ho;done)
  rename_i hu;simp[Value.okWide,hu,Cell.okWide,Cell.ok]at c|bool=>
  refine one _ f ?_;rintro cs rfl;simp only[okTy]at ho;split at ho<;>try(cases ho;done)
  rename_i hu;simp[Value.okWide,hu,Cell.okWide,Cell.ok]at c|str=>
  refine one _ f ?_;rintro cs rfl;simp only[okTy]at ho;split at ho<;>try(cases ho;done)
  rename_i hu;simp[Value.okWide,hu,Cell.okWide,Cell.ok]at c|sl e=>
  refine one _ f ?_;rintro cs rfl;simp only[okTy]at ho;split at ho<;>try(cases ho;done)
  rename_i hu;simp[Value.okWide,hu,Cell.okWide,Cell.ok]at c
theorem arg_in(ty){base}{v}{d}(ho:okTy P ty t=true)(b:Value.okWide P W .any base t v)(h:DataW.Trod enc P W 0 (fun _=>true) true t v d c):∃d:ty.D,ty.wf d/\VRel (only (ok:=ok) (inF W)) W (ty.val d) v:=by obtain⟨e,h1,a⟩:=QuJ (ok:=ok) ty ho b h;exact⟨e,h1.1,a⟩
end
variable{P:Program}
section
variable{N:NM}{n:Nat}{d:Option Nat}{af dead:List Nat}{r:List SOper}{T:Tmps}{h:Heap}{Q:QC}{fs:List Fr}
def wL(P:Program)(N:NM)(o:Option (List AV))(len:Nat)(v:AV)(d:Option Nat)(ops:List SOper)(dead:List Nat)(fs:List Fr)(n:Nat)(T:Tmps)(h:Heap)(Q:QC):Prop:=∃cs,o=some cs/\cs.length=len/\wN P N cs v d ops dead fs n T h Q
theorem Qka{len}:wL P N (some cs) len v d r dead fs n T h Q=if cs.length=len then wN P N cs v d r dead fs n T h Q else False:=by simp_all[wL]
theorem wN_go{x}(a:n<1099511627775):wN P N x v d r dead fs n T h Q=if h.get n=none then wR P N r dead fs (n+1) (putD T d v) (h.set n (.cells 0 x)) Q else False:=by
 split;·rename_i b;exact Qv1 b a
 simp_all[wN]
theorem wB_go(a:b<1099511627775):wB P N (some x) b v d r dead fs n T h Q=wR P N r dead fs (n+1) (putD T d v) (h.set b x) Q:=Qfq a
theorem QaA{k}(a:k<1099511627775):(h.set k x).get k=some x:=by rw[Zcl h a];simp
theorem QaH{j k}(b:k<1099511627775)(a:j≠k):(h.set k x).get j=h.get j:=by rw[Zcl h b];simp[a]
theorem QgK{x}(i:x 0=.cells 0 y):wM P N (HM.new .dyn n x fun b g=>.ret (w b g)) d r dead fs n T h Q=wN P N y (w n 0) d r dead fs n T h Q:=by
 apply propext;constructor;·rintro⟨l,h1,hm,a⟩;unfold HM.new at hm;simp only[HM.run]at hm;cases c:h.get n with|none=>rw[c]at hm;obtain⟨k,hm⟩:=Qa5 hm;simp only[HM.run,Zab,Zal]at hm;obtain⟨rfl,rfl⟩:=hm;rw[i]at a;exact⟨c,k,a⟩|some z=>rw[c]at hm;cases hm
 rintro⟨c,k,a⟩;refine⟨_,_,?_,by rw[<-i]at a;exact a⟩;unfold HM.new;simp only[HM.run,c];have f:Nat.blt n lim=true:=by simp_all
 rw[f];rfl
theorem Qnb{x}:wM P N (aBox .dyn n x) d r dead fs n T h Q=if x.boxable=true then wN P N x.cells (.ptr n 0 0) d r dead fs n T h Q else False:=by
 split;·simp_all[Qto]
 simp_all[aBox,Qet]
theorem Qe6{sz len}:wM P N (aBuildSlice false .dyn n sz len z a) d r dead fs n T h Q=wL P N (fillA z a) (len*sz) (.sl n 0 0 len sz) d r dead fs n T h Q:=by unfold aBuildSlice;cases fillA z a with|none=>simp[Qet,wL]|some cs=>
 simp only[Qka,Zat,if_false];split;·exact QgK rfl
 exact Qet
theorem Qft{sz bytes}{a b}{l c}:wM P N (aMakeSlice .dyn n sz bytes z (.int a l) (.int b c)) d r dead fs n T h Q=if 0<=l/\l<=c/\bytes*c<=140737488355328/\c<=140737488355328 then wN P N (List.replicate c.toNat z).flatten (.sl n 0 0 l.toNat sz) d r dead fs n T h Q else False:=by
 by_cases hc:0<=l/\l<=c/\bytes*c<=140737488355328/\c<=140737488355328;·simp only[aMakeSlice,if_pos hc];exact QgK (x:=fun g=>.cells g (List.replicate c.toNat z).flatten) rfl
 simp_all[aMakeSlice,if_neg,Qet]
theorem Qlj:fillA cs []=some cs:=rfl
theorem Qjm{size}{r}:fillA cs ((off,size,v)::r)=if v.cells.length=size/\off+size<=cs.length/\v.boxable=true then fillA (putR cs off v.cells) r else none:=rfl
theorem Qlk:aBuild z a=(fillA z a).map AV.agg:=by grind[aBuild]
theorem Qll{a}:(AV.int k a).cells=[.int k a]:=rfl
theorem Qlm:(AV.agg cs).cells=cs:=rfl
theorem Qnc{g len sz}:(AV.sl b g off len sz).cells=[.sl b g off len sz]:=rfl
theorem Qln{len sz}:(AV.fsl cs len sz).cells=[.fsl cs len sz]:=rfl
theorem QhY:AV.nilsl.cells=[.nilsl]:=rfl
theorem Qpo{a}:(AV.int k a).boxable=true:=rfl
theorem Qpp:(AV.agg cs).boxable=true:=rfl
theorem QrB{g len sz}:(AV.sl b g off len sz).boxable=true:=rfl
theorem Qpq{len sz}:(AV.fsl cs len sz).boxable=true:=rfl
theorem Qlo:AV.nilsl.boxable=true:=rfl
theorem Qpr{a}:(AV.int k a).one=true:=rfl
theorem QrC{g len sz}:(AV.sl b g off len sz).one=true:=rfl
theorem Qps{len sz}:(AV.fsl cs len sz).one=true:=rfl
theorem Qlp:AV.nilsl.one=true:=rfl
theorem Qnd:putR cs off [v]=cs.set off v:=rfl
theorem Qlq{w}:putR cs off (v::w::vs)=cs.take off++(v::w::vs)++cs.drop (off+(v::w::vs).length):=rfl
def srcB(o:Option Blk)(g off len sz:Nat):Option (List AV):=match o with|some (.cells a cs)=>if a=g/\off+len*sz<=cs.length then some ((cs.drop off).take (len*sz))else none|_=>none
theorem Qb2{g a len sz}:srcB (some (.cells a cs)) g off len sz=if a=g/\off+len*sz<=cs.length then some ((cs.drop off).take (len*sz))else none:=rfl
theorem QoM{sz bytes g len}:wM P N (aAppend .dyn n sz bytes .nilsl (.sl b g off (len+1) sz)) d r dead fs n T h Q=∃ys,srcB (h.get b) g off (len+1) sz=some ys/\((len+1)*bytes<=140737488355328/\len+1<=140737488355328)/\ys.all AV.one=true/\wN P N ys (.sl n 0 0 (len+1) sz) d r dead fs n T h Q:=by
 simp only[aAppend,aSrc,if_true,slLen,ZbS,QcH,QcZ];apply propext;constructor;·rintro⟨cs,i,h1,a,f⟩;rw[i,Qb2,if_pos ⟨rfl,h1⟩];exact⟨_,rfl,⟨a.1,a.2.1⟩,a.2.2,by rw[QgK rfl]at f;exact f⟩
 rintro⟨ys,c,a,f,k⟩;unfold srcB at c;split at c
 ·rename_i l cs i;split at c;·rename_i e;obtain⟨rfl,e⟩:=e;cases c;exact⟨cs,i,e,⟨a.1,a.2,f⟩,by rw[QgK rfl];exact k⟩
  cases c
 cases c
theorem Qqx{sz bytes g len b2 f c a}:wM P N (aAppend .dyn n sz bytes (.sl b2 f c a sz) (.sl b g off len sz)) d r dead fs n T h Q=∃ys i,srcB (h.get b) g off len sz=some ys/\srcB (h.get b2) f c a sz=some i/\((a+len)*bytes<=140737488355328/\a+len<=140737488355328)/\ys.all AV.one=true/\wB P N (some (.cells (f+1) (i++ys))) b2 (.sl b2 (f+1) 0 (a+len) sz) d r dead fs n T h Q:=by
 simp only[aAppend,aSrc,if_true,slLen,QcH,QcZ,QeK];apply propext;constructor;·rintro⟨cs,t,h1,s,q,k,l,p⟩;rw[t,k,Qb2,Qb2,if_pos ⟨rfl,h1⟩,if_pos ⟨rfl,l⟩];simp_all
 rintro⟨ys,i,o,m,s,l,p⟩;unfold srcB at o m;grind
end
def Fresh(n:Nat)(h:Heap):Prop:=∀b,n<=b->h.get b=none
theorem Fresh.e:Fresh n .e:=fun b _=>by simp[Tr.get]
theorem Fresh.le{m}(hf:Fresh n h)(a:n<=m):Fresh m h:=fun b c=>hf b (ZaC a c)
theorem Fresh.set{k}(hf:Fresh n h)(a:k<1099511627775)(d:k<n):Fresh n (h.set k x):=fun b c=>by rw[QaH a (by omega)];exact hf b c
end Go.AM
theorem _root_.Go.AM.Zcw:type_of%@Go.AM.Fresh.le:=@Go.AM.Fresh.le
theorem _root_.Go.AM.Zcx:type_of%@Go.AM.Fresh.set:=@Go.AM.Fresh.set
namespace Go.AM
variable{P:Program}
def FrzTo(h:Heap)(x y:AV):Prop:=∀(ok:Okc)(c:Ctx ok)(w:World)(v:Value),HRel c h w->VRel c w x v->VRel (lent c) w y v
def FrzL(h:Heap):List AV->List AV->Prop|[],[]=>True|x::xs,y::a=>FrzTo h x y/\FrzL h xs a|_,_=>False
variable{h:Heap}
theorem FrzTo.same(x):FrzTo h x x:=fun _ c w v _ a=>Zcm (Qim c w) _ _ a
theorem FrzL.same:∀(xs:List AV),FrzL h xs xs|[]=>trivial|x::xs=>⟨.same x,FrzL.same xs⟩
theorem FrzL.length:∀{xs ys:List AV},FrzL h xs ys->ys.length=xs.length|[],[],_=>rfl|[],_::_,a=>a.elim|_::_,[],a=>a.elim|x::xs,y::ys,a=>by simp[FrzL.length a.2]
theorem FrzL.pre{ok}{c:Ctx ok}{w}(H:HRel c h w):∀{xs ys:List AV}{vs:List Value},FrzL h xs ys->VPre c w xs vs->VPre (lent c) w ys vs|[],[],_,_,_=>by simp[VPre]|[],_::_,_,a,_=>a.elim|_::_,[],_,a,_=>a.elim|x::xs,y::ys,vs,a,d=>by simp only[VPre]at d⊢;obtain⟨v,b,rfl,f,g⟩:=d;exact⟨v,b,rfl,a.1 _ c w v H f,FrzL.pre H a.2 g⟩
theorem FrzL.rels{ok}{c:Ctx ok}{w}(H:HRel c h w):∀{xs ys:List AV}{vs:List Value},FrzL h xs ys->VRels c w xs vs->VRels (lent c) w ys vs|[],[],_,_,b=>by grind[VRels]|[],_::_,_,a,_=>a.elim|_::_,[],_,a,_=>a.elim|x::xs,y::ys,vs,a,b=>by simp only[VRels]at b⊢;obtain⟨v,d,rfl,f,g⟩:=b;exact⟨v,d,rfl,a.1 _ c w v H f,FrzL.rels H a.2 g⟩
theorem FrzTo.agg{xs ys}(d:FrzL h xs ys):FrzTo h (.agg xs) (.agg ys):=fun _ c w v H a=>by simp only[VRel]at a⊢;obtain⟨b,rfl,a⟩:=a;exact⟨b,rfl,d.rels H a⟩
theorem FrzTo.sl{b g off len sz}{cs ys}(s:h.get b=some (.cells g cs))(G:off+len*sz<=cs.length)(p:FrzL h ((cs.drop off).take (len*sz)) ys):FrzTo h (.sl b g off len sz) (.fsl ys len sz):=fun _ c w v H n=>by
 have hlen:=p.length;simp only[VRel]at n;rcases n with⟨hp,rfl,rfl,rfl⟩|⟨z,base,o,cap,C,e,A,hp,rfl,k,q,f⟩;·simp_all[VRel]
 obtain⟨C',F,y,E,d,t,u,i⟩:=H.here s hp;rw[q]at d;cases d;by_cases x:cap=0
 ·have l:len=0:=by omega
  subst l;have m:ys=[]:=by simp_all
  subst m;simp only[VRel];simp_all
 obtain⟨rfl,B⟩:=f.resolve_left x;have a:=Qco (len*sz) (Qbn off i);rw[Za1]at a;simp only[VRel];exact .inr ⟨z,base+off,cap,C,e,A,rfl,k,by grind,.inr E,q,p.pre H a⟩
section
variable{N:NM}{n:Nat}{d:Option Nat}{af dead:List Nat}{r:List SOper}{T:Tmps}{Q:QC}{fs:List Fr}
end
end Go.AM
theorem _root_.Go.AM.Zcy:type_of%@Go.AM.FrzTo.same:=@Go.AM.FrzTo.same
theorem _root_.Go.AM.Zcz:type_of%@Go.AM.FrzL.same:=@Go.AM.FrzL.same
namespace Go.AM
variable{P:Program}
variable{v:AV}{x:Blk}{h:Heap}{es fs:List (AV×AV)}{a c:List (Nat×Src)}{cs ds ys:List AV}{b g i k m n off:Nat}{π:Nat->Option Src}{l:SCode}{Q:SX->St->Prop}{s:Src}{A:St}{T T':Tmps}{β:Type}
abbrev HL:=List (Nat×Blk)
variable{L:HL}
def hp:HL->Heap|[]=>.e|p::r=>(hp r).set p.1 p.2
theorem Qne:hp []=.e:=rfl
theorem Qa0{r:HL}:hp ((b,x)::r)=(hp r).set b x:=rfl
theorem get_e{b}:Tr.get (α:=Blk) .e b=none:=by simp[Tr.get]
def lkS:List (Nat×Src)->Nat->Option Src|[],_=>none|(b,s)::r,k=>if k=b then some s else lkS r k
def srcNew(s:Src):List (Nat×Src)->Bool|[]=>true|(_,t)::r=>(match s,t with|.blk b _,.blk a _=>!Nat.beq b a|_,_=>true)&&srcNew s r
def okPs(m:Nat):List (Nat×Src)->HL->Bool|[],[]=>true|(b,s)::r,(a,_)::l=>Nat.beq b a&&Nat.blt b 1099511627775&&(Nat.blt b m||((match s with|.blk k _=>Nat.ble m k|.nil=>true)&&srcNew s r))&&(r.all fun p=>!Nat.beq p.1 b)&&okPs m r l|_,_=>false
def ow(m:Nat)(a:List (Nat×Src)):Nat->Option Src:=fun b=>if b<m then none else lkS a b
def RB(m:Nat)(π:Nat->Option Src)(h:Heap):HL->Prop|[]=>True|(a,x)::r=>((a<m/\BRn m π h (some (.blk a x.gen)) x)\/(m<=a/\x.gen=0/\(∀g,x≠.dead g)/\BRn m π h (π a) x))/\RB m π h r
section
variable{m:Nat}{π:Nat->Option Src}{h:Heap}
theorem QrD:∀{L:HL}{d:List (Nat×Src)},okPs m d L=true->∀{b:Nat}{x:Blk},(hp L).get b=some x->(b,x)∈L
 |[],[],_,b,x,c=>by simp[hp,Tr.get]at c|[],_::_,a,_,_,_=>by simp[okPs]at a|(i,f)::L,[],a,_,_,_=>by simp[okPs]at a|(i,f)::L,(k,s)::d,a,b,x,c=>by
  simp only[okPs,Zac,Zb1,Zb7]at a;obtain⟨⟨⟨⟨rfl,g⟩,_⟩,_⟩,h⟩:=a;simp only[hp]at c;by_cases e:b=k;·simp_all[QaA]
  rw[QaH g e]at c;simp[QrD h c]
theorem Qpt:∀{L:HL}{d:List (Nat×Src)},okPs m d L=true->∀{b:Nat},(hp L).get b=none->lkS d b=none
 |[],[],_,b,_=>rfl|[],_::_,a,_,_=>by simp[okPs]at a|(i,f)::L,[],a,_,_=>by simp[okPs]at a|(i,f)::L,(k,s)::d,a,b,c=>by
  simp only[okPs,Zac,Zb1,Zb7]at a;obtain⟨⟨⟨⟨rfl,g⟩,_⟩,_⟩,h⟩:=a;simp only[hp]at c;by_cases e:b=k;·simp_all[QaA]
  rw[QaH g e]at c;simp only[lkS,if_neg e];exact Qpt h c
theorem RB.mem:∀{L:HL},RB m π h L->∀{b:Nat}{x:Blk},(b,x)∈L->(b<m/\BRn m π h (some (.blk b x.gen)) x)\/(m<=b/\x.gen=0/\(∀g,x≠.dead g)/\BRn m π h (π b) x)
 |[],_,_,_,hm=>by cases hm|(d,c)::L,a,b,x,hm=>by
  rcases Zav.1 hm with e|hm;·cases e;exact a.1
  exact RB.mem a.2 hm
theorem Qnf:∀{d:List (Nat×Src)}{L:HL},okPs m d L=true->∀{b f g:Nat},m<=b->lkS d b=some (.blk f g)->m<=f
 |[],_,_,_,_,_,_,a=>by simp[lkS]at a|_::_,[],c,_,_,_,_,_=>by simp[okPs]at c|(k,s)::d,(n,o)::L,c,b,f,g,l,a=>by
  simp only[okPs,Zac,Zbo,Zb1]at c;obtain⟨⟨⟨_,h⟩,_⟩,i⟩:=c;simp only[lkS]at a;split at a
  ·rename_i e;cases a;rcases h with h|h;·omega
   simp_all
  exact Qnf i l a
theorem QgL:∀{d:List (Nat×Src)}{b g c h k:Nat},srcNew (.blk b g) d=true->lkS d k=some (.blk c h)->b≠c
 |[],_,_,_,_,_,_,a=>by simp[lkS]at a|(j,s)::d,b,g,c,h,k,f,a=>by
  simp only[srcNew,Zac]at f;simp only[lkS]at a;split at a;·cases a;have:=f.1;simp only[Zbh]at this;intro e;simp_all
  exact QgL f.2 a
theorem Qng:∀{f:List (Nat×Src)}{L:HL},okPs m f L=true->∀{h b2 b g i:Nat},m<=h->m<=b2->lkS f h=some (.blk b g)->lkS f b2=some (.blk b i)->h=b2
 |[],_,_,_,_,_,_,_,_,_,p,_=>by simp[lkS]at p|_::_,[],d,_,_,_,_,_,_,_,_,_=>by simp[okPs]at d|(k,s)::f,(u,v)::L,d,h,b2,b,g,i,q,n,h1,c=>by
  simp only[okPs,Zac,Zbo,Zb1]at d;obtain⟨⟨⟨_,a⟩,_⟩,o⟩:=d;simp only[lkS]at h1 c;split at h1<;>split at c;·omega
  ·rename_i l t;cases h1;rcases a with a|a;·omega
   exact absurd rfl (QgL a.2 c)
  ·rename_i l t;cases c;rcases a with a|a;·omega
   exact absurd rfl (QgL a.2 h1)
  exact Qng o q n h1 c
theorem Qpu:∀{d:List (Nat×Src)}{L:HL},okPs m d L=true->∀{b:Nat}{s:Src},lkS d b=some s->∃x,(b,x)∈L
 |[],_,_,_,_,a=>by simp[lkS]at a|_::_,[],c,_,_,_=>by simp[okPs]at c|(k,t)::d,(h,i)::L,c,b,s,a=>by
  simp only[okPs,Zac,Zb7]at c;obtain⟨⟨⟨⟨rfl,_⟩,_⟩,_⟩,f⟩:=c;simp only[lkS]at a;split at a;·simp_all
  obtain⟨x,g⟩:=Qpu f a;grind
def RO(m:Nat)(L:HL)(h:Heap):Prop:=∀b,b<m->(∀p∈L,p.1≠b)->h.get b=none
theorem RO.zero:RO 0 L h:=fun b a=>absurd a (Zay _)
theorem RO.e:RO m L .e:=fun b _ _=>get_e
theorem RO.set(a:(Nat.blt k 1099511627775&&(Nat.ble m k||L.any fun p=>Nat.beq p.1 k))=true)(f:RO m L h):RO m L (h.set k x):=fun b c d=>by
 simp only[Zac,Zbo,Zb1,Nat.ble_eq,Za8,Zb7]at a;obtain⟨h1,g⟩:=a;have:b≠k:=by grind
 rw[QaH h1 this];exact f b c d
def Rec(m:Nat)(T':Tmps)(L:HL)(T:Tmps)(h:Heap):Prop:=∃a,okPs m a L=true/\RO m L h/\RB m (ow m a) h L/\RT m (ow m a) h T' T
theorem ow_ge(c:m<=b):ow m a b=lkS a b:=if_neg (by omega)
theorem Rec.maps(ho:okPs m c L=true)(s:RB m (ow m c) h L):Maps m (ow m c) h:=by
 refine⟨fun y b g hm d=>?_,fun u b2 b g v n l h1 o=>Qng ho n l (by rw[<-ow_ge n];exact h1) (by rw[<-ow_ge l];exact o)⟩;rw[ow_ge hm]at d;refine⟨?_,Qnf ho hm d⟩;obtain⟨x,t⟩:=Qpu ho d;rcases s.mem t with⟨w,_⟩|⟨_,q1,q2,f⟩;·omega
 rw[ow_ge hm,d]at f;cases x with|cells i cs=>obtain⟨q,_,a,_⟩:=f;exact⟨_,a,rfl,fun k=>by simp⟩|map i es=>obtain⟨q,a,_⟩:=f;exact⟨_,a,rfl,fun k=>by simp⟩|loop i N T c p body st=>obtain⟨T0,a,_⟩:=f;exact⟨_,a,rfl,fun k=>by simp⟩|dead i=>exact absurd rfl (q2 i)
theorem Rec.heap(ho:okPs m a L=true)(b:RB m (ow m a) h L):RH m (ow m a) h (hp L):=fun d f c=>b.mem (QrD ho c)
theorem QrE:∀{L:HL}{f:List (Nat×Src)},okPs m f L=true->∀{b:Nat},(hp L).get b=none->∀p∈L,p.1≠b
 |[],_,_,_,_,p,hp=>by cases hp|(i,l)::L,[],c,_,_,_,_=>by simp[okPs]at c|(i,l)::L,(k,s)::f,c,b,d,p,a=>by
  simp only[okPs,Zac,Zb1,Zb7]at c;obtain⟨⟨⟨⟨rfl,g⟩,_⟩,_⟩,h⟩:=c;simp only[hp]at d;by_cases e:b=k;·simp_all[QaA]
  rw[QaH g e]at d;rcases Zav.1 a with rfl|a;·omega
  exact QrE h d p a
theorem Rec.dom{b}(ho:okPs m b L=true)(f:RO m L h):RD m (ow m b) h (hp L):=fun g d=>⟨fun a=>f g a (QrE ho d),fun c=>by grind[ow_ge,Qpt]⟩
theorem W2.recL{c}(f:Rec m T' L T h)(hw:W2 P ⟨n,m⟩ c Q ⟨T',hp L⟩):W2 P ⟨n,m⟩ c Q ⟨T,h⟩:=by obtain⟨g,ho,a,b,d⟩:=f;exact W2.recast (N:=⟨n,m⟩) (Rec.maps ho b) (Rec.heap ho b) (Rec.dom ho a) d hw
theorem W2.post(hw:W2 P ⟨k,m⟩ l (fun e B=>Q e B\/∃T' L,Rec m T' L B.T B.h/\Q e ⟨T',hp L⟩) A):W2 P ⟨k,m⟩ l Q A:=by
 intro code g c a w S ro b Q' q;refine hw code g c a w S ro b Q' ?_;rintro e B d s f(n|⟨T',L,⟨h,ho,b,o,p⟩,n⟩)S' E';·grind
 have M:=Rec.maps ho o;exact q e ⟨T',hp L⟩ (nctx m (ow m h) B.h d) s f n ⟨(Rec.heap ho o).hrel (Rec.dom ho b) M S'.heap,fun i=>p i _ d f _ S'.heap M (S'.tmps i),S'.size,S'.defers.mono2 (QeI (m:=m) (π:=ow m h) (h:=B.h) d f)⟩ (E'.trans (QeI d f))
theorem RT.nil:RT m π h [] T:=fun _=>Zcr
theorem RT.cons{j}(b:Rn m π h v (lk T j))(a:RT m π h T' T):RT m π h ((j,v)::T') T:=by
 intro i;rw[Qbb];split;·simp_all
 exact a i
theorem RB.nil:RB m π h []:=trivial
theorem RB.cells{a:Nat}{r}(hm:Nat.ble m a=true)(hp:π a=some (.blk b g))(c:h.get b=some (.cells g ds))(hc:RnL m π h cs ds)(d:RB m π h r):RB m π h ((a,.cells 0 cs)::r):=⟨.inr ⟨Zaw hm,rfl,fun _=>by simp,by rw[hp];exact⟨ds,ds.length,c,by simp_all⟩⟩,d⟩
theorem RB.newnil{a:Nat}{r}(hm:Nat.ble m a=true)(hp:π a=some .nil)(b:RB m π h r):RB m π h ((a,.cells 0 [])::r):=⟨.inr ⟨Zaw hm,rfl,fun _=>by simp,by rw[hp];rfl⟩,b⟩
theorem RB.map{a:Nat}{r}(hm:Nat.ble m a=true)(hp:π a=some (.blk b g))(c:h.get b=some (.map g fs))(hc:RnM m π h es fs)(d:RB m π h r):RB m π h ((a,.map 0 es)::r):=⟨.inr ⟨Zaw hm,rfl,fun _=>by simp,by rw[hp];exact⟨fs,c,hc⟩⟩,d⟩
theorem RB.cellsB{r}(hm:Nat.blt b m=true)(a:h.get b=some (.cells g ds))(hc:RnL m π h cs ds)(c:RB m π h r):RB m π h ((b,.cells g cs)::r):=⟨.inl ⟨by simpa using hm,ds,ds.length,a,by simp_all⟩,c⟩
theorem RB.mapB{r}(hm:Nat.blt b m=true)(a:h.get b=some (.map g fs))(hc:RnM m π h es fs)(c:RB m π h r):RB m π h ((b,.map g es)::r):=⟨.inl ⟨by simpa using hm,fs,a,hc⟩,c⟩
theorem Qkb:∀{g:List (Nat×Src)},srcNew s g=true->∀d c,lkS g d=some c->(match s,c with|.blk b _,.blk b2 _=>b≠b2|_,_=>True)
 |[],_,d,c,a=>by simp[lkS]at a|(j,t)::g,f,d,c,a=>by
  simp only[srcNew,Zac]at f;simp only[lkS]at a;split at a;·cases a;have:=f.1;cases s<;>cases t<;>simp_all;intro e;simp_all
  exact Qkb f.2 d c a
theorem RnL.nil:RnL m π h [] []:=trivial
theorem RnL.cons{x y}{xs}(h1:Rn m π h x y)(a:RnL m π h xs ys):RnL m π h (x::xs) (y::ys):=⟨h1,a⟩
theorem Rn.fz{len sz}(d:h.get b=some (.cells g ds))(f:srcNew (.blk b g) a=true)(hm:Nat.ble m b=true)(k:ds.length=len*sz)(n:RnL m (ow m a) h cs ds):Rn m (ow m a) h (.fsl cs len sz) (.sl b g 0 len sz):=by
 refine Rn.frz d (by simpa using hm) (fun i l c e=>?_) (by omega) ?_;·rw[ow_ge c]at e;exact Qkb f i _ e rfl
 grind
theorem Rn.fzm{len sz}(c:h.get b=some (.cells g ds))(i:srcNew (.blk b g) a=true)(hm:Nat.ble m b=true)(d:k=len)(f:ds.length=len*sz)(l:RnL m (ow m a) h cs ds):Rn m (ow m a) h (.fsl cs k sz) (.sl b g 0 len sz):=by simp_all[Rn.fz]
theorem Rn.fz0{len sz}(a:h.get b=some (.cells g ds))(c:ds.length=len*sz)(f:RnL 0 π0 h cs ds):Rn 0 π0 h (.fsl cs len sz) (.sl b g 0 len sz):=by refine Rn.frz a (Zaj _) (fun i d _ e=>by simp[π0]at e) (by omega) ?_;grind
end
theorem Rn.slot{j}(a:lk T j=v)(b:noRef v=true):Rn m π h v (lk T j):=by simp_all[Zcs]
section
variable{m:Nat}{π:Nat->Option Src}{h:Heap}
theorem Rn.x1{a len sz:Nat}(hm:Nat.ble m a=true)(hp:π a=some (.blk b g)):Rn m π h (.sl a 0 off len sz) (.sl b g off len sz):=Rn.sl (Zaw hm) hp
theorem Rn.x2{a:Nat}(hm:Nat.ble m a=true)(hp:π a=some (.blk b g)):Rn m π h (.ptr a 0 off) (.ptr b g off):=Rn.ptr (Zaw hm) hp
theorem Rn.x3{a:Nat}(hm:Nat.ble m a=true)(hp:π a=some (.blk b g)):Rn m π h (.map a 0) (.map b g):=Rn.map (Zaw hm) hp
theorem Rn.x4{a sz:Nat}(hm:Nat.ble m a=true)(hp:π a=some .nil):Rn m π h (.sl a 0 0 0 sz) .nilsl:=Rn.slnil (Zaw hm) hp
theorem Rn.x5{len sz}(hm:Nat.ble (b+1) m=true):Rn m π h (.sl b g off len sz) (.sl b g off len sz):=Rn.slB (Zaw hm)
theorem Rn.x6(hm:Nat.ble (b+1) m=true):Rn m π h (.ptr b g off) (.ptr b g off):=Rn.ptrB (Zaw hm)
theorem Rn.x7(hm:Nat.ble (b+1) m=true):Rn m π h (.map b g) (.map b g):=Rn.mapB (Zaw hm)
end
section
variable{k m n:Nat}{T:Tmps}{h:Heap}{Q:QC}{fs:List Fr}{α:Type}{env:α->Tmps}{H:α->HL}{I:α->Prop}{μ:α->Nat}{a:α}
def loopR(P:Program)(k m:Nat){α:Type}(env:α->Tmps)(H:α->HL)(I:α->Prop)(μ:α->Nat)(a:α)(fs:List Fr)(Q:QC):QC:=fun e T h n=>match e with|.normal=>∃b,μ b<μ a/\I b/\Rec m (env b) (H b) T h|e=>wX P ⟨k,m⟩ e fs n T h Q
theorem QgM:loopR P k m env H I μ a fs Q .normal T h n=∃b,μ b<μ a/\I b/\Rec m (env b) (H b) T h:=rfl
theorem Qjn:loopR P k m env H I μ a fs Q (.exit i) T h n=wX P ⟨k,m⟩ (.exit i) fs n T h Q:=rfl
theorem Qlr:loopR P k m env H I μ a fs Q .ret T h n=wX P ⟨k,m⟩ .ret fs n T h Q:=rfl
theorem QaC{b}(t)(env:α->Tmps)(H:α->HL)(I:α->Prop)(μ)(c)(s:Rec m (env c) (H c) T h)(l:I c)(round:∀a,I a->wS P ⟨k,m⟩ b [] t (env a) (hp (H a)) (loopR P k m env H I μ a fs Q)):wS P ⟨k,m⟩ (.loop b) fs n T h Q:=by show W2 P ⟨k,m⟩ (.loop b) (fun e B=>∃n,ct P ⟨k,m⟩ fs Q e B.T B.h n) ⟨T,h⟩;refine W2.loop (fun q B=>∃a,μ a=q/\I a/\Rec m (env a) (H a) B.T B.h) (μ c) ⟨c,rfl,l,s⟩ ?_;rintro q B⟨a,rfl,hi,o⟩;refine W2.recL o ((wpC.toW (round a hi)).mono ?_);rintro e C⟨f,d⟩;cases e with|normal=>obtain⟨g,h1,u,p⟩:=d;exact⟨μ g,h1,g,rfl,u,p⟩|exit i=>exact⟨f,d⟩|ret=>exact⟨f,d⟩
def loopX(P:Program)(k m:Nat){α β:Type}(env:α->Tmps)(H:α->HL)(I:α->Prop)(μ:α->Nat)(i:Nat)(T1:β->Tmps)(L1:β->HL)(J:β->Prop)(a:α)(fs:List Fr)(Q:QC):QC:=fun e T h n=>match e with|.normal=>∃c,μ c<μ a/\I c/\Rec m (env c) (H c) T h|.exit j=>if j=i then∃b,J b/\Rec m (T1 b) (L1 b) T h else wX P ⟨k,m⟩ (.exit j) fs n T h Q|.ret=>wX P ⟨k,m⟩ .ret fs n T h Q
section
variable{β:Type}{i:Nat}{T1:β->Tmps}{L1:β->HL}{J:β->Prop}
theorem QgN:loopX P k m env H I μ i T1 L1 J a fs Q .normal T h n=∃b,μ b<μ a/\I b/\Rec m (env b) (H b) T h:=rfl
theorem QfU{j}:loopX P k m env H I μ i T1 L1 J a fs Q (.exit j) T h n=if j=i then∃b,J b/\Rec m (T1 b) (L1 b) T h else wX P ⟨k,m⟩ (.exit j) fs n T h Q:=rfl
theorem Qls:loopX P k m env H I μ i T1 L1 J a fs Q .ret T h n=wX P ⟨k,m⟩ .ret fs n T h Q:=rfl
end
theorem Qas{b}(w)(env:α->Tmps)(H:α->HL)(I:α->Prop)(μ)(d)(i o)(T1)(L1:β->HL)(J)(s:Rec m (env d) (H d) T h)(t:I d)(round:∀a,I a->wS P ⟨k,m⟩ b [] w (env a) (hp (H a)) (loopX P k m env H I μ i T1 L1 J a fs Q))(cont:∀b,J b->wX P ⟨k,m⟩ (.exit i) fs o (T1 b) (hp (L1 b)) Q):wS P ⟨k,m⟩ (.loop b) fs n T h Q:=by
 show W2 P ⟨k,m⟩ (.loop b) (fun e B=>∃n,ct P ⟨k,m⟩ fs Q e B.T B.h n) ⟨T,h⟩;refine W2.post ?_;refine W2.loop (fun q B=>∃a,μ a=q/\I a/\Rec m (env a) (H a) B.T B.h) (μ d) ⟨d,rfl,t,s⟩ ?_;rintro q B⟨a,rfl,hi,g⟩;refine W2.recL g ((wpC.toW (round a hi)).mono ?_);rintro e C⟨f,c⟩
 cases e with|normal=>obtain⟨l,h1,p,u⟩:=c;exact⟨μ l,h1,l,rfl,p,u⟩|exit j=>
  replace c:loopX P k m env H I μ i T1 L1 J a fs Q (.exit j) C.T C.h f:=c;rw[QfU]at c;split at c;·rename_i e;subst e;obtain⟨b,v,g⟩:=c;exact .inr ⟨_,_,g,o,cont b v⟩
  exact .inl ⟨f,c⟩|ret=>exact .inl ⟨f,c⟩
end
section
variable{N:NM}{n:Nat}{d:Option Nat}{af dead:List Nat}{r:List SOper}{T:Tmps}{h:Heap}{Q:QC}{fs:List Fr}
def wA(P:Program)(N:NM)(c ys:Option (List AV))(g a len sz bytes b:Nat)(d:Option Nat)(ops:List SOper)(dead:List Nat)(fs:List Fr)(n:Nat)(T:Tmps)(h:Heap)(Q:QC):Prop:=∃y z,ys=some y/\c=some z/\((a+len)*bytes<=140737488355328/\a+len<=140737488355328)/\y.all AV.one=true/\wB P N (some (.cells (g+1) (z++y))) b (.sl b (g+1) 0 (a+len) sz) d ops dead fs n T h Q
theorem QhZ{sz bytes len b2 f c a}:wM P N (aAppend .dyn n sz bytes (.sl b2 f c a sz) (.sl b g off len sz)) d r dead fs n T h Q=wA P N (srcB (h.get b2) f c a sz) (srcB (h.get b) g off len sz) f a len sz bytes b2 d r dead fs n T h Q:=by
 rw[Qqx];apply propext;constructor;·rintro⟨l,i,h1,m,k,o,p⟩;exact⟨l,i,h1,m,k,o,p⟩
 rintro⟨l,i,h1,m,k,o,p⟩;simp_all
theorem Qpv{zs}{len2 len sz bytes}(h1:(len2+len)*bytes<=140737488355328)(h2:len2+len<=140737488355328):wA P N (some zs) (some ys) g len2 len sz bytes b d r dead fs n T h Q=if ys.all AV.one=true then wB P N (some (.cells (g+1) (zs++ys))) b (.sl b (g+1) 0 (len2+len) sz) d r dead fs n T h Q else False:=by
 by_cases ho:ys.all AV.one=true
 ·rw[if_pos ho];apply propext;constructor;·rintro⟨y,z,e1,e2,_,_,h5⟩;simp_all
  ·intro h5;exact⟨ys,zs,rfl,rfl,⟨h1,h2⟩,ho,h5⟩
 ·rw[if_neg ho];apply propext;constructor;·rintro⟨y,z,e1,e2,_,h4,h5⟩;grind
  simp_all
theorem QfV{len sz}(a:cs.length=len*sz):srcB (some (.cells g cs)) g 0 len sz=some cs:=by rw[Qb2,if_pos ⟨rfl,by omega⟩,Za5,<-a,Zan]
end
end Go.AM
theorem _root_.Go.AM.ZcA:type_of%@Go.AM.RO.zero:=@Go.AM.RO.zero
theorem _root_.Go.AM.ZcB:type_of%@Go.AM.RT.nil:=@Go.AM.RT.nil
theorem _root_.Go.AM.ZcC:type_of%@Go.AM.RT.cons:=@Go.AM.RT.cons
theorem _root_.Go.AM.ZcD:type_of%@Go.AM.RB.nil:=@Go.AM.RB.nil
theorem _root_.Go.AM.ZcE:type_of%@Go.AM.RB.cells:=@Go.AM.RB.cells
theorem _root_.Go.AM.ZcF:type_of%@Go.AM.RB.newnil:=@Go.AM.RB.newnil
theorem _root_.Go.AM.ZcG:type_of%@Go.AM.RB.map:=@Go.AM.RB.map
theorem _root_.Go.AM.ZcH:type_of%@Go.AM.RB.cellsB:=@Go.AM.RB.cellsB
theorem _root_.Go.AM.ZcI:type_of%@Go.AM.RB.mapB:=@Go.AM.RB.mapB
theorem _root_.Go.AM.ZcJ:type_of%@Go.AM.RnL.nil:=@Go.AM.RnL.nil
theorem _root_.Go.AM.ZcK:type_of%@Go.AM.RnL.cons:=@Go.AM.RnL.cons
theorem _root_.Go.AM.ZcL:type_of%@Go.AM.Rn.fzm:=@Go.AM.Rn.fzm
theorem _root_.Go.AM.ZcM:type_of%@Go.AM.Rn.fz0:=@Go.AM.Rn.fz0
theorem _root_.Go.AM.ZcN:type_of%@Go.AM.Rn.slot:=@Go.AM.Rn.slot
namespace Go.AM
variable{v x:AV}{es:List (AV×AV)}{args bs ds vs xs ys:List AV}{b f g:Nat}{sf:SFn}{w:World}
theorem words:type_of%@QoW/\type_of%@Qq9/\type_of%@QoX/\type_of%@QkY/\type_of%@Qra/\type_of%@QoY/\type_of%@QmE/\type_of%@QoZ/\type_of%@QmF/\type_of%@Qo0/\type_of%@Qrb/\type_of%@wX_sq/\type_of%@QkZ/\type_of%@Qi3/\type_of%@Qrc/\type_of%@Qi4/\type_of%@QhK/\type_of%@QgF/\type_of%@Qjf/\type_of%@Qlg/\type_of%@ev_t/\type_of%@ev_c/\type_of%@ev_f/\type_of%@Qrd/\type_of%@Qbb/\type_of%@Qj4/\type_of%@Qre/\type_of%@Qrf/\type_of%@rm_no/\type_of%@Qo1/\type_of%@Qk0/\type_of%@Qk1/\type_of%@QmG/\type_of%@Qk2/\type_of%@Qo2/\type_of%@QmH/\type_of%@QmI/\type_of%@QmJ/\type_of%@QhL/\type_of%@QgB/\type_of%@Qrg/\type_of%@QmK/\type_of%@Qo3/\type_of%@Qo4/\type_of%@Qrh/\type_of%@Qo5/\type_of%@Qo6/\type_of%@QmL/\type_of%@Qk3/\type_of%@Qri/\type_of%@wR_eq/\type_of%@wR_un/\type_of%@Qo7/\type_of%@QeJ/\type_of%@QmN/\type_of%@QmO/\type_of%@QmP/\type_of%@QmQ/\type_of%@QmR/\type_of%@Qi6/\type_of%@Qk4/\type_of%@QmS/\type_of%@Qrl/\type_of%@Qk5/\type_of%@Qo8/\type_of%@QmT/\type_of%@QmU/\type_of%@Qi7/\type_of%@Qk6/\type_of%@Qo9/\type_of%@Qrm/\type_of%@Qk7/\type_of%@Qpa/\type_of%@Qpb/\type_of%@Qes/\type_of%@QmV/\type_of%@Qrn/\type_of%@QcG/\type_of%@Qfq/\type_of%@Qlb/\type_of%@QhM/\type_of%@QhN/\type_of%@Qi8/\type_of%@Qlc/\type_of%@QmX/\type_of%@Qld/\type_of%@QhO/\type_of%@Qle/\type_of%@Qk9/\type_of%@Qla/\type_of%@Qiq/\type_of%@Qir/\type_of%@Qis/\type_of%@Qit/\type_of%@QmY/\type_of%@QmZ/\type_of%@QeL/\type_of%@QeM/\type_of%@QeN/\type_of%@QeO/\type_of%@QeP/\type_of%@QeQ/\type_of%@Qpd/\type_of%@Qpe/\type_of%@QgC/\type_of%@Qja/\type_of%@QhP/\type_of%@Qi9/\type_of%@QgD/\type_of%@Qm0/\type_of%@Qm1/\type_of%@QgE/\type_of%@wr_u8/\type_of%@Qrp/\type_of%@Qrq/\type_of%@Qro/\type_of%@Qrr/\type_of%@Qjb/\type_of%@Qlf/\type_of%@Qjc/\type_of%@QhQ/\type_of%@Qjd/\type_of%@QhR/\type_of%@QhS/\type_of%@QhT/\type_of%@List.elem_cons.{0}/\type_of%@List.elem_nil.{0}/\type_of%@Zat/\type_of%@Bool.true_eq_false/\type_of%@List.getElem?_cons_zero.{0}/\type_of%@List.getElem?_cons_succ.{0}/\type_of%@decide_eq_true_eq/\type_of%@decide_eq_false_iff_not/\type_of%@decide_true/\type_of%@decide_false/\type_of%@Bool.not_true/\type_of%@Bool.not_false/\type_of%@Zbh/\type_of%@Bool.not_eq_eq_eq_not/\type_of%@List.nil_append.{0}/\type_of%@List.append_nil.{0}/\type_of%@List.cons_append.{0}/\type_of%@and_true/\type_of%@true_and/\type_of%@ZaV/\type_of%@Int.toNat_natCast/\type_of%@ZbY/\type_of%@ZbS/\type_of%@Int.toNat_zero/\type_of%@Qjg/\type_of%@Qm2/\type_of%@Qpf/\type_of%@Qje:=⟨@QoW,@Qq9,@QoX,@QkY,@Qra,@QoY,@QmE,@QoZ,@QmF,@Qo0,@Qrb,@wX_sq,@QkZ,@Qi3,@Qrc,@Qi4,@QhK,@QgF,@Qjf,@Qlg,@ev_t,@ev_c,@ev_f,@Qrd,@Qbb,@Qj4,@Qre,@Qrf,@rm_no,@Qo1,@Qk0,@Qk1,@QmG,@Qk2,@Qo2,@QmH,@QmI,@QmJ,@QhL,@QgB,@Qrg,@QmK,@Qo3,@Qo4,@Qrh,@Qo5,@Qo6,@QmL,@Qk3,@Qri,@wR_eq,@wR_un,@Qo7,@QeJ,@QmN,@QmO,@QmP,@QmQ,@QmR,@Qi6,@Qk4,@QmS,@Qrl,@Qk5,@Qo8,@QmT,@QmU,@Qi7,@Qk6,@Qo9,@Qrm,@Qk7,@Qpa,@Qpb,@Qes,@QmV,@Qrn,@QcG,@Qfq,@Qlb,@QhM,@QhN,@Qi8,@Qlc,@QmX,@Qld,@QhO,@Qle,@Qk9,@Qla,@Qiq,@Qir,@Qis,@Qit,@QmY,@QmZ,@QeL,@QeM,@QeN,@QeO,@QeP,@QeQ,@Qpd,@Qpe,@QgC,@Qja,@QhP,@Qi9,@QgD,@Qm0,@Qm1,@QgE,@wr_u8,@Qrp,@Qrq,@Qro,@Qrr,@Qjb,@Qlf,@Qjc,@QhQ,@Qjd,@QhR,@QhS,@QhT,@List.elem_cons.{0},@List.elem_nil.{0},@Zat,@Bool.true_eq_false,@List.getElem?_cons_zero.{0},@List.getElem?_cons_succ.{0},@decide_eq_true_eq,@decide_eq_false_iff_not,@decide_true,@decide_false,@Bool.not_true,@Bool.not_false,@Zbh,@Bool.not_eq_eq_eq_not,@List.nil_append.{0},@List.append_nil.{0},@List.cons_append.{0},@and_true,@true_and,@ZaV,@Int.toNat_natCast,@ZbY,@ZbS,@Int.toNat_zero,@Qjg,@Qm2,@Qpf,@Qje⟩
theorem wordsN:type_of%@Qnb/\type_of%@Qft/\type_of%@Qe6/\type_of%@Qlk/\type_of%@Option.map_some.{0,0}/\type_of%@Qka/\type_of%@wN_go/\type_of%@wB_go/\type_of%@QaA/\type_of%@QaH/\type_of%@Qlj/\type_of%@Qjm/\type_of%@Qll/\type_of%@Qlm/\type_of%@Qnc/\type_of%@Qln/\type_of%@QhY/\type_of%@Qpo/\type_of%@Qpp/\type_of%@QrB/\type_of%@Qpq/\type_of%@Qlo/\type_of%@Qpr/\type_of%@QrC/\type_of%@Qps/\type_of%@Qlp/\type_of%@Qnd/\type_of%@List.set_cons_zero.{0}/\type_of%@List.set_cons_succ.{0}/\type_of%@List.length_cons.{0}/\type_of%@List.length_nil.{0}/\type_of%@List.all_cons.{0}/\type_of%@List.all_nil.{0}/\type_of%@Zad/\type_of%@Zai/\type_of%@List.drop_zero.{0}/\type_of%@List.drop_succ_cons.{0}/\type_of%@List.take_succ_cons.{0}/\type_of%@List.take_zero.{0}/\type_of%@List.head?_cons.{0}/\type_of%@Qlq/\type_of%@Zar/\type_of%@Int.cast_ofNat_Int/\type_of%@Int.natCast_zero/\type_of%@Int.natCast_one:=⟨@Qnb,@Qft,@Qe6,@Qlk,@Option.map_some.{0,0},@Qka,@wN_go,@wB_go,@QaA,@QaH,@Qlj,@Qjm,@Qll,@Qlm,@Qnc,@Qln,@QhY,@Qpo,@Qpp,@QrB,@Qpq,@Qlo,@Qpr,@QrC,@Qps,@Qlp,@Qnd,@List.set_cons_zero.{0},@List.set_cons_succ.{0},@List.length_cons.{0},@List.length_nil.{0},@List.all_cons.{0},@List.all_nil.{0},@Zad,@Zai,@List.drop_zero.{0},@List.drop_succ_cons.{0},@List.take_succ_cons.{0},@List.take_zero.{0},@List.head?_cons.{0},@Qlq,@Zar,@Int.cast_ofNat_Int,@Int.natCast_zero,@Int.natCast_one⟩
theorem wordsR:type_of%@Qne/\type_of%@Qa0/\type_of%@get_e/\type_of%@QgM/\type_of%@Qjn/\type_of%@Qlr/\type_of%@QgN/\type_of%@QfU/\type_of%@Qls/\type_of%@QhZ/\type_of%@Qpv/\type_of%@QfV/\type_of%@Int.ofNat_lt/\type_of%@Int.ofNat_le/\type_of%@Int.ofNat_inj/\type_of%@Int.natCast_pos/\type_of%@ZaF/\type_of%@List.length_map.{0,0}/\type_of%@List.length_append.{0}/\type_of%@List.take_length.{0}/\type_of%@Zcf/\type_of%@Nat.one_mul/\type_of%@Nat.add_zero/\type_of%@Int.zero_add/\type_of%@Zay/\type_of%@Int.le_refl/\type_of%@not_true/\type_of%@not_false_iff/\type_of%@Nat.lt_irrefl/\type_of%@Int.lt_irrefl:=⟨@Qne,@Qa0,@get_e,@QgM,@Qjn,@Qlr,@QgN,@QfU,@Qls,@QhZ,@Qpv,@QfV,@Int.ofNat_lt,@Int.ofNat_le,@Int.ofNat_inj,@Int.natCast_pos,@ZaF,@List.length_map.{0,0},@List.length_append.{0},@List.take_length.{0},@Zcf,@Nat.one_mul,@Nat.add_zero,@Int.zero_add,@Zay,@Int.le_refl,@not_true,@not_false_iff,@Nat.lt_irrefl,@Int.lt_irrefl⟩
variable{P:Program}
def FSpec(P:Program)(f:Nat)(args:List AV)(v:AV):Prop:=Callable P f/\noRefs args=true/\noRef v=true/\∀(F:Nat->Prop)(w:World)(a:Array Value),(∀k,F k->k<w.heap.size)->VRels (only (ok:=okc P) F) w args a.toList->Calls P f a w fun e b=>∃c F',e=.returned c/\Evo2 0 (only (ok:=okc P) F) w (only (ok:=okc P) fun k=>F k\/F' k) b/\(∀k,F' k->w.heap.size<=k/\k<b.heap.size)/\VRel (only (ok:=okc P) F') b v c
def RnO(h:Heap)(x y:AV):Prop:=∀(ok:Okc)(c:Ctx ok)(w:World)(v:Value),HRel c h w->VRel c w y v->VRel (only (ok:=ok) c.O) w x v
def RnOL(h:Heap):List AV->List AV->Prop|[],[]=>True|x::xs,y::a=>RnO h x y/\RnOL h xs a|_,_=>False
section
variable{h:Heap}
theorem RnO.flat(hf:flatV x=true):RnO h x x:=fun _ c w v _ a=>VRel.flat _ _ hf a
theorem RnOL.nil:RnOL h [] []:=trivial
theorem RnOL.cons{y}(h1:RnO h x y)(a:RnOL h xs ys):RnOL h (x::xs) (y::ys):=⟨h1,a⟩
theorem RnOL.rels{ok}{c:Ctx ok}(H:HRel c h w):∀{xs ys:List AV}{vs:List Value},RnOL h xs ys->VRels c w ys vs->VRels (only (ok:=ok) c.O) w xs vs|[],[],_,_,b=>by grind[VRels]|[],_::_,_,a,_=>a.elim|_::_,[],_,a,_=>a.elim|x::xs,y::ys,vs,a,b=>by simp only[VRels]at b⊢;obtain⟨v,d,rfl,f,g⟩:=b;exact⟨v,d,rfl,a.1 _ c w v H f,RnOL.rels H a.2 g⟩
theorem RnO.tup(d:RnOL h xs ys):RnO h (.tup xs) (.tup ys):=fun _ c w v H a=>by simp only[VRel]at a⊢;obtain⟨b,rfl,a⟩:=a;exact⟨b,rfl,d.rels H a⟩
theorem RnO.sl{len sz}(p:h.get b=some (.cells g ds))(hf:flatVs ds=true)(n:ds.length=len*sz):RnO h (.fsl ds len sz) (.sl b g 0 len sz):=fun _ c w v H k=>by
 simp only[VRel]at k;rcases k with⟨hp,rfl,_,rfl⟩|⟨y,base,o,cap,C,e,u,hp,rfl,f,l,d⟩;·simp_all[VRel]
 obtain⟨C',B,t,A,a,x,q,m⟩:=H.here p hp;rw[l]at a;cases a;by_cases z:cap=0
 ·have i:len=0:=by omega
  subst i;have:ds=[]:=Zb2 (by rw[n];simp);subst this;simp only[VRel];simp_all
 obtain⟨ho,s⟩:=d.resolve_left z;simp only[VRel];exact .inr ⟨y,o,cap,C,e,u,rfl,f,n,A,l,by grind[VPre.flat]⟩
theorem RnO.slm{len k sz}{es}(d:h.get b=some (.cells g ds))(he:es=ds)(c:k=len)(hf:flatVs ds=true)(a:ds.length=len*sz):RnO h (.fsl es k sz) (.sl b g 0 len sz):=by simp_all[RnO.sl]
end
theorem FSpec.of_W2(c:okFn P f sf=true)(t:args.length<=sf.n)(n:noRefs args=true)(q:noRef v=true)(hw:W2 P ⟨sf.n,0⟩ sf.body (fun e B=>(e=.normal\/e=.ret)/\∃vs,resV B.T B.h sf.res=some vs/\RnO B.h v (resOf vs)) ⟨argT 0 args,.e⟩):FSpec P f args v:=by
 obtain⟨_,_,_,_,_,_,_,hc⟩:=Qcq c;refine⟨hc,n,q,fun F w l u n=>(Qdo (R:=fun vs k=>RnO k v (resOf vs)) c t hw (HRel.only u) n).mono ?_⟩;rintro e x⟨o,m,vs,k,rfl,E,H',V,a⟩;have d:∀k,m.O k->w.heap.size<=k:=fun k i=>(E.own k i).elim (fun h=>h.elim) id;refine⟨o,m.O,rfl,?_,fun k i=>⟨d k i,H'.inO k i⟩,a _ m x o H' V⟩;refine⟨E.os,E.tape,E.output,E.size,E.shape,fun k a _=>E.keep k a (fun h=>h),fun b g p s=>absurd s (Zay _),fun k a=>.inl a,fun k a=>?_,fun k a=>a.elim,rfl⟩;rcases a with a|a;·exact .inl a
 simp_all
theorem FSpec.of_wS(n)(a:okFn P f sf=true)(c:Nat.ble args.length sf.n=true)(d:noRefs args=true)(b:noRef v=true)(hw:wS P ⟨sf.n,0⟩ sf.body [] n (argT 0 args) .e fun e T h _=>(e=.normal\/e=.ret)/\∃vs,resV T h sf.res=some vs/\RnO h v (resOf vs)):FSpec P f args v:=FSpec.of_W2 a (Zaw c) d b ((wpC.toW hw).mono fun e B⟨_,h⟩=>h)
section
variable{h:Heap}
theorem FrzTo.fn{us}(k:FrzL h xs ys)(i:FrzL h us vs):FrzTo h (.fn f xs us) (.fn f ys vs):=fun _ c w v H a=>by simp only[VRel]at a⊢;obtain⟨g,d,rfl,h1,b⟩:=a;exact⟨g,d,rfl,k.rels H h1,i.rels H b⟩
theorem FrzTo.ptr{off}{cs}(s:h.get b=some (.cells g cs))(p:FrzL h (cs.drop off) ys):FrzTo h (.ptr b g off) (.fptr ys):=fun _ c w v H k=>by simp only[VRel]at k;obtain⟨m,base,hp,rfl⟩:=k;obtain⟨C',q,f,o,i,l,n,d⟩:=H.here s hp;have a:=Qbn off d;rw[Za1]at a;simp only[VRel];exact⟨m,base+off,C',q,f,rfl,.inr o,i,p.pre H a⟩
theorem FrzTo.map{ks:List AV}(f:h.get b=some (.map g es))(k:FrzL h (es.map (·.1)) ks)(p:FrzL h (es.map (·.2)) vs):FrzTo h (.map b g) (.fmap ks vs):=fun _ c w v H d=>by simp only[VRel]at d;obtain⟨o,hp,rfl⟩:=d;obtain⟨ms,clock,q,m,a,n⟩:=H.atMap f hp;obtain⟨s,i,l⟩:=Qj1 a;have t:=Qb1 a;simp only[VRel];exact⟨o,ms,clock,rfl,.inr q,m,by simp_all,s,k.rels H i,p.rels H l⟩
theorem HSpec.lend(b:FrzL h args bs)(hp:PSpec P f bs v)(d:flatV v=true):HSpec P f args h v h:=by obtain⟨i,hc,_⟩:=hp.2.2;exact⟨hc,fun c w a H g=>(hp.borrow d H (b.rels H g)).2⟩
theorem HSpec.of_F(s:FrzL h args bs)(hp:FSpec P f bs v):HSpec P f args h v h:=by
 obtain⟨hc,o,m,p⟩:=hp;refine⟨hc,fun c w b H q=>?_⟩;have i:∀k,(c.F k\/c.O k)->k<w.heap.size:=fun k a=>a.elim (H.inF k) (H.inO k);refine(p (fun k=>c.F k\/c.O k) w b i (Zcq (c:=lent c) (c':=only fun k=>c.F k\/c.O k) (fun _ h=>h) _ _ o (s.rels H q))).mono ?_;rintro e g⟨l,F',rfl,E,d,V⟩;have a:∀k,k<w.heap.size->g.heap[k]?=w.heap[k]?:=fun k a=>E.keep k a (fun h=>h);obtain⟨E1,H1⟩:=H.grow E.os E.tape E.output E.size a;refine⟨l,{c with F:=fun k=>c.F k\/F' k},rfl,?_,H1.frozen (fun k=>c.F k\/F' k) (fun k a=>.inl a) (fun k a=>?_),Zcp (c:=only F') (c':={c with F:=fun k=>c.F k\/F' k}) (fun _ h=>.inr h) _ _ m V⟩;·refine⟨E1.os,E1.tape,E1.output,E1.size,E1.shape,E1.keep,E1.rho,fun k a=>.inl a,fun k a=>?_,E1.own,rfl⟩;grind
 rcases a with a|a;·exact⟨fun n=>H.disj k a n,Zbb (H.inF k a) E.size⟩
 grind
end
end Go.AM
theorem _root_.Go.AM.ZcO:type_of%@Go.AM.RnOL.cons:=@Go.AM.RnOL.cons
theorem _root_.Go.AM.ZcP:type_of%@Go.AM.FrzTo.ptr:=@Go.AM.FrzTo.ptr
theorem _root_.Go.AM.ZcQ:type_of%@Go.AM.HSpec.lend:=@Go.AM.HSpec.lend
namespace Go.AM
variable{P:Program}
def noLoop:SCode->Bool|.loop _|.mloop ..=>false|.seq a b=>noLoop a&&noLoop b|.cond _ a b=>noLoop a&&noLoop b|.block _ b=>noLoop b|.rfunc ..=>false|_=>true
theorem wpC.toW1{N}:∀{c:SCode}{n:Nat}{T:Tmps}{h:Heap}{Q:QC},noLoop c=true->wpC P N c n T h Q->W P N.n c (fun e B=>∃n,Q e B.T B.h n) ⟨T,h⟩
 |.skip,n,T,h,Q,_,d=>W.skip ⟨n,d⟩|.ret,n,T,h,Q,_,d=>W.ret ⟨n,d⟩|.exit i,n,T,h,Q,_,d=>W.exit ⟨n,d⟩|.bad,_,_,_,_,_,d=>d.elim|.mloop ..,n,T,h,Q,f,d=>by simp[noLoop]at f|.rfunc ..,n,T,h,Q,f,d=>by simp[noLoop]at f|.loop _,n,T,h,Q,f,d=>by simp[noLoop]at f|.region ops [] dead,n,T,h,Q,_,d=>by have:=wpR.toWR (i:=0) d;exact W.regionR n (this|>fun h=>by simpa using(show _ from(wpC.toW.wr_mono h)))|.region ops (p::s) dead,n,T,h,Q,_,d=>by obtain⟨fs,T',o,h1,m,q⟩:=wpRF.toF (i:=0) d;grind[W.regionF]|.seq a b,n,T,h,Q,f,d=>by simp only[wpC]at d;simp only[noLoop,Zac]at f;refine W.seq ((wpC.toW1 (c:=a) f.1 d).mono ?_);rintro e B⟨k,g⟩;cases e with|normal=>exact wpC.toW1 f.2 g|exit i=>exact⟨k,g⟩|ret=>exact⟨k,g⟩
 |.cond x a b,n,T,h,Q,f,⟨t,l,d⟩=>by
  simp only[noLoop,Zac]at f;refine W.cond l ?_ ?_;·intro e;rw[if_pos e]at d;exact wpC.toW1 f.1 d
  intro e;rw[if_neg (by simp[e])]at d;exact wpC.toW1 f.2 d|.block i b,n,T,h,Q,f,d=>by simp only[wpC]at d;refine W.block ((wpC.toW1 (c:=b) f d).mono ?_);grind
section
variable{N:NM}{n:Nat}{T L:Tmps}{h:Heap}{Q:QC}{fs:List Fr}{b2:Nat}{G:Prop}
end
end Go.AM
namespace Go.AM
variable{P:Program}
section
variable{N:NM}{n:Nat}{d:Option Nat}{af dead:List Nat}{r:List SOper}{T:Tmps}{h:Heap}{Q:QC}{fs:List Fr}
theorem QgO(f:n<1099511627775):wM P N (aMakeMap .dyn n) d r dead fs n T h Q=if h.get n=none then wR P N r dead fs (n+1) (putD T d (.map n 0)) (h.set n (.map 0 [])) Q else False:=by
 have c:Nat.blt n lim=true:=by simp[Nat.blt];unfold lim;omega
 apply propext;constructor;·rintro⟨g,h1,hm,a⟩;unfold aMakeMap HM.new at hm;simp only[HM.run]at hm;cases b:h.get n with|none=>rw[b]at hm;obtain⟨f,hm⟩:=Qa5 hm;simp only[HM.run,Zab,Zal]at hm;obtain⟨rfl,rfl⟩:=hm;rw[if_pos rfl];exact a|some z=>rw[b]at hm;cases hm
 split;·rename_i b;intro a;refine⟨_,_,?_,a⟩;grind[aMakeMap,HM.new,HM.run]
 simp_all
def keyM(k:IntKind)(v:AV)(l:List Nat):List (AV×AV):=l.map fun x:Nat=>(.int k (x:Int),v)
theorem RnM.keyM{m}{π}{h}{k}{v}(a:noRef v=true):∀{l:List Nat},RnM m π h (keyM k v l) (keyM k v l)|[]=>trivial|x::l=>⟨⟨Zcs rfl,Zcs a⟩,RnM.keyM a (l:=l)⟩
end
theorem wordsM:AV.nilmap.boxable=true/\AV.nilmap.cells=[.nilmap]/\(∀b g,(AV.map b g).cells=[.map b g])/\(∀b g,(AV.map b g).one=true)/\(∀b g,(AV.map b g).boxable=true)/\AV.nilmap.one=true:=⟨rfl,rfl,fun _ _=>rfl,fun _ _=>rfl,fun _ _=>rfl,rfl⟩
theorem HSpec.Qv5{f m:Nat}{sf}{args}{L0 L}{v}(n)(c:okFn P f sf=true)(l:Nat.ble args.length sf.n=true)(hm:(Nat.ble m 1099511627775&&L0.all fun p=>Nat.blt p.1 m)=true)(o:noRef v=true)(hw:wS P ⟨sf.n,m⟩ sf.body [] n (argT 0 args) (hp L0) fun e T k _=>(e=.normal\/e=.ret)/\∃vs,resV T k sf.res=some vs/\resOf vs=v/\Rec m [] L T k):HSpec P f args (hp L0) v (hp L):=by
 simp only[Zac,Nat.ble_eq]at hm;refine HSpec.of_W2 c (Zaw l) (fun b d=>?_) ((wpC.toW hw).mono ?_)
 ·have :∀M:HL,M.all (fun p=>Nat.blt p.1 m)=true->(hp M).get b=none:=by intro M;induction M with|nil=>intro _;exact get_e|cons q M h=>obtain⟨j,x⟩:=q;intro i;simp only[Zcb,Zac,Nat.blt,Nat.ble_eq]at i;rw[Qa0,QaH (by omega) (by omega)];exact h (by grind[Nat.blt])
  grind
 rintro e B⟨t,h1,vs,g,u,w,ho,a,d,s⟩;exact⟨h1,vs,_,g,Rec.maps ho d,Rec.heap ho d,Rec.dom ho a,by simp_all[Zcs]⟩
end Go.AM
theorem _root_.Go.AM.ZcR:type_of%@Go.AM.RnM.keyM:=@Go.AM.RnM.keyM
namespace Go.AM
variable{P:Program}
variable{a b c:Int}{d k:IntKind}{cs:List AV}{g:Nat}
section
variable{N:NM}{n:Nat}{d:Option Nat}{dead:List Nat}{r:List SOper}{T:Tmps}{h:Heap}{Q:QC}{fs:List Fr}
theorem Qh0{sz bytes len b2 b a}:wM P N (aAppend .dyn n sz bytes (.sl b2 g b a sz) (.fsl cs len sz)) d r dead fs n T h Q=wA P N (srcB (h.get b2) g b a sz) (some cs) g a len sz bytes b2 d r dead fs n T h Q:=by
 exact buyxd
theorem Qfj{sz bytes b2 b a}:wM P N (aAppend .dyn n sz bytes (.sl b2 g b a sz) .nilsl) d r dead fs n T h Q=wA P N (srcB (h.get b2) g b a sz) (some []) g a 0 sz bytes b2 d r dead fs n T h Q:=by
 exact buyxd
end
theorem Qh1{len sz}:aSliceC (some sz) (.fsl cs len sz) (some (.int k a)) none none=if 0<=a/\a<=len then some (.fsl ((cs.drop (a.toNat*sz)).take ((len-a.toNat)*sz)) (len-a.toNat) sz)else none:=by simp_all[aSliceC,aSlice,bnd]
theorem Qh2{len sz}:aSliceC (some sz) (.fsl cs len sz) none (some (.int k b)) none=if 0<=b/\b<=len then some (.fsl (cs.take (b.toNat*sz)) b.toNat sz)else none:=by simp_all[aSliceC,aSlice,bnd]
theorem Qh3{len sz}{c}:aSliceC (some sz) (.fsl cs len sz) (some (.int k a)) (some (.int c b)) none=if 0<=a/\a<=b/\b<=len then some (.fsl ((cs.drop (a.toNat*sz)).take ((b.toNat-a.toNat)*sz)) (b.toNat-a.toNat) sz)else none:=by simp_all[aSliceC,aSlice,bnd]
theorem Qjo{b off len sz}:aSliceC (some sz) (.sl b g off len sz) (some (.int k a)) none none=if 0<=a/\a<=len then some (.sl b g (off+a.toNat*sz) (len-a.toNat) sz)else none:=by simp_all[aSliceC,aSlice,bnd]
theorem Qjp{b off len sz}:aSliceC (some sz) (.sl b g off len sz) none (some (.int k c)) none=if 0<=c/\c<=len then some (.sl b g off c.toNat sz)else none:=by simp_all[aSliceC,aSlice,bnd]
theorem Qjq{b off len sz}:aSliceC (some sz) (.sl b g off len sz) (some (.int k a)) (some (.int d c)) none=if 0<=a/\a<=c/\c<=len then some (.sl b g (off+a.toNat*sz) (c.toNat-a.toNat) sz)else none:=by simp_all[aSliceC,aSlice,bnd]
end Go.AM
namespace Go.AM
variable{P:Program}
variable{v y:AV}{f:FP}{h h1:Heap}{ps:List (Nat×Nat)}{fs:List Fr}{ks:List LK}{a bs d dead o:List Nat}{ops:List SOper}{N:NM}{b g i off:Nat}{x:Nat->Blk}{B:Nat->Prop}{p:Nat×Nat}{n:Option Nat}{Q:QC}{s:SOper}{T T0:Tmps}{α:Type}{R:α->Prop}
def HM.tch{α}(B:Nat->Prop):HM α->Prop|.ret _=>True|.fail=>True|.look b k=>B b/\∀x,(k x).tch B|.put b _ k=>B b/\k.tch B
variable{m:HM AV}{k:List AV->Nat->HM AV}
theorem HM.Qv6(m:HM α):m.tch B->∀h b,b∈(m.fp h).1\/b∈(m.fp h).2->B b:=by induction m with
 |ret a=>intro _ h b c;simp[HM.fp]at c|fail=>intro _ h b c;simp[HM.fp]at c|look b k g=>
  rintro⟨h1,f⟩h d c;simp only[HM.fp,Zav]at c;rcases c with(rfl|c)|c;·exact h1
  ·grind
  grind|put b x k g=>
  rintro⟨h1,f⟩h d c;simp only[HM.fp,Zav]at c;rcases c with c|rfl|c;·grind
  ·exact h1
  grind
theorem HM.Qtt{β}{m:HM α}{f:α->HM β}(h1:m.tch B)(d:∀a,(f a).tch B):(m.bind f).tch B:=by induction m with|ret a=>exact d a|fail=>trivial|look b k c=>exact⟨h1.1,fun x=>c x (h1.2 x)⟩|put b x k c=>exact⟨h1.1,c h1.2⟩
theorem Qpw(o:Option α):(HM.opt o).tch B:=by cases o<;>trivial
theorem Qeb{k:List AV->HM α}(d:B b)(a:∀cs,(k cs).tch B):(HM.cells b g k).tch B:=by refine⟨d,fun x=>?_⟩;match x with
 |some (.cells c cs)=>simp only;cases Nat.beq c g<;>first|exact trivial|exact a cs
 |some (.map _ _)=>trivial|some (.dead _)=>trivial|some (.loop ..)=>trivial|none=>trivial
theorem Qkc{k:Nat->Nat->HM α}(a:B i)(c:∀b g,(k b g).tch B):(HM.new .dyn i x k).tch B:=by refine⟨a,fun y=>?_⟩;match y with|none=>exact⟨a,c _ _⟩|some z=>trivial
def blks:AV->Option (List Nat)|.ptr b _ _=>some [b]|.sl b _ _ _ _=>some [b]|.map b _=>some [b]|.any=>none|.agg _=>none|.tup []=>some []|.tup _=>none|.fn _ _ _=>none|.ifc _ _=>none|.typed _ _ _=>none|_=>some []
def Pts(v:AV)(bs:List Nat):Prop:=∃cs,blks v=some cs/\∀b∈cs,b∈bs
abbrev Abs:=List (Nat×Option (List Nat))
variable{A:Abs}
def absT(T:Tmps):Abs->Nat->Option (List Nat)|[],i=>blks (lk T i)|(j,a)::r,i=>bif Nat.beq j i then a else absT T r i
def absO(T:Tmps)(A:Abs):Opd->Option (List Nat)|.t i=>absT T A i|.c v=>blks v|_=>none
def SOp.absV(i:Nat)(ax:Opd->Option (List Nat)):SOp->Option (List Nat)|.mov x=>ax x|.slice _ x _ _ _=>ax x|.iaddr _ _ x _=>ax x|.faddr _ x=>ax x|.alloc .dyn _=>some [i]|.box .dyn _=>some [i]|.bslice false .dyn _ _ _ _=>some [i]|.mkslice .dyn _ _ _ _ _=>some [i]|.mkmap .dyn=>some [i]|.append .dyn _ _ x _=>(ax x).map fun a=>i::a|_=>none
def SOp.touch(i:Nat)(ax:Opd->Option (List Nat)):SOp->Option (List Nat)
 |.load _ x=>ax x|.store _ x _=>ax x|.len _ x=>ax x|.alloc .dyn _=>some [i]|.box .dyn _=>some [i]|.bslice _ .dyn _ _ _ _=>some [i]|.mkslice .dyn _ _ _ _ _=>some [i]|.mkmap .dyn=>some [i]|.append .dyn _ _ x y=>match ax x,ax y with|some a,some b=>some (i::(a++b))|_,_=>none
 |.copy _ x y=>match ax x,ax y with|some a,some b=>some (a++b)|_,_=>none
 |.lookup _ _ _ _ x _=>ax x|.mupd _ _ x _ _=>ax x|s=>bif Nat.beq s.cls 0 then some []else none
def touches(n:Nat)(T:Tmps):List SOper->Abs->List (Option (List Nat))|[],_=>[]|s::r,A=>s.op.touch n (absO T A)::touches (n+1) T r (match s.dst with|some d=>(d,s.op.absV n (absO T A))::A|none=>A)
def pairsOK(c:List (Option (List Nat)))(d:List (Nat×Nat)):Bool:=d.all fun p=>match c.getD p.1 none,c.getD p.2 none with|some a,some b=>a.all fun x=>!b.elem x|_,_=>false
section
variable{i:Nat}{T:Tmps}{ax:Opd->Option (List Nat)}{B:Nat->Prop}
theorem Qtu(h:Pts v bs):(aLoad n v).tch (·∈bs):=by
 obtain⟨cs,h1,a⟩:=h;unfold aLoad;split
 ·simp only[blks,Zab]at h1;subst h1;refine Qeb (a _ (by simp)) fun cs=>?_;split;·exact Qpw _
  split<;>trivial
 ·split;·exact Qpw _
  split<;>trivial
 trivial
theorem QrF{n}{u}(h:Pts v bs):(aStore n v u).tch (·∈bs):=by
 obtain⟨cs,h1,b⟩:=h;unfold aStore;split
 ·simp only[blks,Zab]at h1;subst h1;have a:=b _ (ZaU.2 rfl);refine Qeb a fun cs=>?_;split;·exact⟨a,trivial⟩
  trivial
 trivial
theorem QuK{k}(h:Pts v bs):(aLenC k v).tch (·∈bs):=by
 obtain⟨cs,h1,a⟩:=h;unfold aLenC;split
 ·unfold aLen;split<;>try trivial
  simp only[blks,Zab]at h1;subst h1;refine⟨a _ (by simp),fun y=>?_⟩;match y with|some (.map b es)=>simp only;generalize Nat.beq b _=t;cases t<;>trivial|some (.cells _ _)=>trivial|some (.dead _)=>trivial|some (.loop ..)=>trivial|none=>trivial
 trivial
theorem Qhg{sz}(h:Pts v bs)(c:∀b∈bs,B b)(a:∀ys n,(k ys n).tch B):(aSrc sz v k).tch B:=by
 obtain⟨cs,h1,d⟩:=h;unfold aSrc;split
 ·simp only[blks,Zab]at h1;subst h1;split
  ·refine Qeb (c _ (d _ (by simp))) fun cs=>?_;split;·exact a _ _
   trivial
  trivial
 ·split;·exact a _ _
  trivial
 ·exact a _ _
 ·exact a _ _
 ·exact a _ _
 ·split;·exact a _ _
  trivial
 trivial
theorem Qqy{sz bytes}{x}{b}(g:Pts x a)(f:Pts y b):(aAppend .dyn i sz bytes x y).tch (·∈i::(a++b)):=by
 unfold aAppend;refine Qhg f (fun c hc=>by simp[hc]) fun k n=>?_;split
 ·obtain⟨cs,h1,h⟩:=g;split
  ·split;·trivial
   exact Qkc (by simp) fun _ _=>trivial
  ·split;·trivial
   exact Qkc (by simp) fun _ _=>trivial
  ·split<;>trivial
  ·simp only[blks,Zab]at h1;subst h1;have d:=h _ (ZaU.2 rfl);split
   ·refine Qeb (by simp[d]) fun cs=>?_;split;·exact⟨by simp[d],trivial⟩
    trivial
   trivial
  ·simp[blks]at h1
  trivial
 trivial
theorem Qtv{sz}{x}{b}(h:Pts x a)(d:Pts y b):(aCopy sz x y).tch (·∈a++b):=by
 obtain⟨cs,h1,i⟩:=h;unfold aCopy;split
 ·simp only[blks,Zab]at h1;subst h1;have f:=i _ (ZaU.2 rfl);split
  ·refine Qhg d (fun c hc=>by simp[hc]) fun g n=>?_;refine Qeb (by simp[f]) fun cs=>?_;split;·exact⟨by simp[f],trivial⟩
   trivial
  trivial
 ·exact Qhg d (fun c hc=>by simp[hc]) fun g n=>trivial
 ·exact Qhg d (fun c hc=>by simp[hc]) fun g n=>trivial
 trivial
theorem Qh4{k:List (AV×AV)->HM α}(d:B b)(a:∀es,(k es).tch B):(HM.entries b g k).tch B:=by refine⟨d,fun x=>?_⟩;match x with
 |some (.map c es)=>simp only;cases Nat.beq c g<;>first|exact trivial|exact a es
 |some (.cells _ _)=>trivial|some (.dead _)=>trivial|some (.loop ..)=>trivial|none=>trivial
theorem Qqz{row ok}{z x k}(h:Pts x bs):(aLookup row ks z ok x k).tch (·∈bs):=by
 obtain⟨cs,h1,a⟩:=h;unfold aLookup;split
 ·split;·trivial
  ·simp only[blks,Zab]at h1;subst h1;refine Qh4 (a _ (by simp)) fun es=>?_;split<;>trivial
  ·split<;>trivial
  trivial
 trivial
theorem Qtw{row}{x k}(h:Pts x bs):(aMapUpd row ks x k v).tch (·∈bs):=by
 obtain⟨cs,h1,b⟩:=h;unfold aMapUpd;split
 ·split
  ·simp only[blks,Zab]at h1;subst h1;have a:=b _ (ZaU.2 rfl);refine Qh4 a fun es=>?_;split;·exact⟨a,trivial⟩
   ·exact⟨a,trivial⟩
   trivial
  trivial
 trivial
theorem QbX(h:m.tch B):(hval m).tch B:=HM.Qtt h fun _=>trivial
theorem Qtx{s}(d:∀x bs,ax x=some bs->Pts (ev T x) bs)(h:s.touch i ax=some o):s.cls≠0->(aop i T s).tch (·∈o)/\∀m x f,s≠.call m x f:=by
 intro p;have new1:∀{x:Nat->Blk}{r:Nat->Nat->AV},(HM.new .dyn i x fun b g=>.ret (r b g)).tch (·∈[i]):=fun{x r}=>Qkc (by simp) fun _ _=>trivial;cases s<;>try(exact absurd rfl p)
 ·exact buzPr
 ·simp only[SOp.touch,SOp.cls,show Nat.beq 2 0=false from rfl,cond_false,reduceCtorEq]at h
 ·exact buzPr
 ·rename_i fz s sz len z q;cases s<;>simp only[SOp.touch,SOp.cls,show Nat.beq 2 0=false from rfl,cond_false,reduceCtorEq,Zab]at h;subst h;refine⟨QbX ?_,fun _ _ _=>by simp⟩;unfold aBuildSlice;split
  ·split
   ·split;·split<;>trivial
    exact new1
   trivial
  trivial
 ·exact⟨QbX (Qtu (d _ _ h)),fun _ _ _=>by simp⟩
 ·exact⟨QbX (QrF (d _ _ h)),fun _ _ _=>by simp⟩
 ·simp only[SOp.touch,SOp.cls,show Nat.beq 1 0=false from rfl,cond_false,reduceCtorEq]at h
 ·simp only[SOp.touch,SOp.cls,show Nat.beq 2 0=false from rfl,cond_false,reduceCtorEq]at h
 ·simp only[SOp.touch,SOp.cls,show Nat.beq 2 0=false from rfl,cond_false,reduceCtorEq]at h
 ·simp only[SOp.touch,SOp.cls,show Nat.beq 2 0=false from rfl,cond_false,reduceCtorEq]at h
 ·simp only[SOp.touch,SOp.cls,show Nat.beq 2 0=false from rfl,cond_false,reduceCtorEq]at h
 ·simp only[SOp.touch,SOp.cls,show Nat.beq 2 0=false from rfl,cond_false,reduceCtorEq]at h
 ·simp only[SOp.touch,SOp.cls,show Nat.beq 2 0=false from rfl,cond_false,reduceCtorEq]at h
 ·simp only[SOp.touch,SOp.cls,show Nat.beq 1 0=false from rfl,cond_false,reduceCtorEq]at h
 ·rename_i s;cases s<;>simp only[SOp.touch,SOp.cls,show Nat.beq 2 0=false from rfl,cond_false,reduceCtorEq,Zab]at h;subst h;exact⟨QbX new1,fun _ _ _=>by simp⟩
 ·rename_i s sz b z l c;cases s<;>simp only[SOp.touch,SOp.cls,show Nat.beq 2 0=false from rfl,cond_false,reduceCtorEq,Zab]at h;subst h;refine⟨QbX ?_,fun _ _ _=>by simp⟩;unfold aMakeSlice;split
  ·split;·exact new1
   trivial
  trivial
 ·exact⟨QbX (Qqz (d _ _ h)),fun _ _ _=>by simp⟩
 ·exact⟨QbX (Qtw (d _ _ h)),fun _ _ _=>by simp⟩
 ·exact⟨QbX (QuK (d _ _ h)),fun _ _ _=>by simp⟩
 ·rename_i s sz b x y;cases s<;>simp only[SOp.touch,SOp.cls,show Nat.beq 2 0=false from rfl,cond_false,reduceCtorEq]at h;split at h;·rename_i a b n k;cases h;exact⟨QbX (Qqy (d _ _ n) (d _ _ k)),fun _ _ _=>by simp⟩
  cases h
 ·rename_i sz x y;simp only[SOp.touch]at h;split at h;·rename_i a b n k;cases h;exact⟨QbX (Qtv (d _ _ n) (d _ _ k)),fun _ _ _=>by simp⟩
  cases h
 rename_i m x f;exfalso;simp only[SOp.touch]at h;have:Nat.beq (SOp.call m x f).cls 0=false:=by cases m<;>rfl
 simp_all
theorem Qh5(k:∀x bs,ax x=some bs->Pts (ev T x) bs)(q:s.op.touch i ax=some d)(n:StepV P i s T h v h1 f):f.all=false/\∀b,b∈f.R\/b∈f.W->b∈d:=by
 by_cases w:s.op.cls=0;·obtain⟨C,z,A⟩:=n.cls (by omega);simp_all
 obtain⟨p,o⟩:=Qtx k q w;have key:∀{g:SOp},g=s.op->StepX P i g T h v h1 f->f.all=false/\∀b,b∈f.R\/b∈f.W->b∈d:=by
  rintro g rfl⟨out,F,hm,ho⟩;have fin:f=fpOf ((aop i T s.op).fp h)->f.all=false/\∀b,b∈f.R\/b∈f.W->b∈d:=by rintro rfl;exact⟨rfl,fun b y=>HM.Qv6 _ p h b y⟩
  match out,ho with
  |.val u,ho=>exact fin ho.2.2|.call .pure l args,ho=>exact fin ho.2.2|.call .borrow l args,ho=>exact fin ho.2.2.2|.call .heap l args,ho=>exfalso;cases a:s.op with|call m x c=>exact o m x c a|_=>rw[a]at hm;first|(obtain⟨u,hu,he⟩:=QaZ hm;cases he)|(obtain⟨u,t,hu,he⟩:=QaU hm;cases he)|(simp[aop,HM.run]at hm)
  |.round B E args,ho=>exfalso;cases a:s.op with|call m x c=>exact o m x c a|_=>rw[a]at hm;first|(obtain⟨u,hu,he⟩:=QaZ hm;cases he)|(obtain⟨u,t,hu,he⟩:=QaU hm;cases he)|(simp[aop,HM.run]at hm)
 unfold StepV at n;grind
theorem Pts.slice{x}{l h m}(f:Pts x bs)(a:aSliceC n x l h m=some v):Pts v bs:=by
 obtain⟨cs,h1,c⟩:=f;have key:aSlice x l h m=some v->Pts v bs:=by
  intro a;unfold aSlice at a;have nil:∀{v:AV},blks v=some []->Pts v bs:=fun h=>⟨[],h,fun b d=>by cases d⟩;split at a;·cases a
  split at a
  ·split at a
   ·split at a;·split at a<;>first|(cases a;exact nil rfl)|cases a
    split at a<;>first|(split at a<;>first|(cases a;first|exact⟨cs,h1,c⟩|exact nil rfl)|cases a)|cases a
   cases a
  ·cases a
  split at a
  ·split at a;·cases a
   split at a;·cases a;exact⟨cs,h1,c⟩
   cases a
  ·split at a;·cases a
   split at a;·cases a;exact nil rfl
   cases a
  ·split at a;·cases a
   split at a;·cases a;exact nil rfl
   cases a
  ·split at a;·cases a
   split at a;·cases a;exact nil rfl
   cases a
  ·split at a;·cases a
   split at a;·cases a;exact nil rfl
   cases a
  cases a
 unfold aSliceC at a;grind
theorem Pts.iaddr{a}{sz}{x j}(f:Pts x bs)(c:aIAddr a sz x j=some v):Pts v bs:=by
 obtain⟨cs,h1,g⟩:=f;have nil:∀{v:AV},blks v=some []->Pts v bs:=fun h=>⟨[],h,fun b d=>by cases d⟩;unfold aIAddr at c;split at c;·split at c<;>first|(split at c<;>first|(cases c;first|exact⟨cs,h1,g⟩|exact nil rfl)|cases c)|cases c
 cases c
theorem Pts.faddr{x}(d:Pts x bs)(a:aFAddr off x=some v):Pts v bs:=by
 obtain⟨cs,h1,f⟩:=d;have nil:∀{v:AV},blks v=some []->Pts v bs:=fun h=>⟨[],h,fun b c=>by cases c⟩;unfold aFAddr at a;split at a;·cases a;exact⟨cs,h1,f⟩
 ·cases a;exact nil rfl
 ·simp[blks]at h1
 cases a
def HM.gives{α}(R:α->Prop):HM α->Prop|.ret a=>R a|.fail=>True|.look _ k=>∀x,(k x).gives R|.put _ _ k=>k.gives R
theorem HM.QrG(m:HM α):m.gives R->∀h a h1,m.run h=some (a,h1)->R a:=by induction m with|ret a=>intro c h b h1 hm;simp only[HM.run,Zab,Zal]at hm;rw[<-hm.1];exact c|fail=>intro _ h b h1 hm;simp[HM.run]at hm|look b k d=>intro c h a h1 hm;exact d _ (c _) h a h1 hm|put b x k d=>intro c h a h1 hm;exact d c _ a h1 (Qa5 hm).2
theorem Qh6{k:List AV->HM α}(a:∀cs,(k cs).gives R):(HM.cells b g k).gives R:=by intro x;match x with
 |some (.cells c cs)=>simp only;cases Nat.beq c g<;>first|exact trivial|exact a cs
 |some (.map _ _)=>trivial|some (.dead _)=>trivial|some (.loop ..)=>trivial|none=>trivial
theorem QcI{k}(a:(k i 0).gives R):(HM.new .dyn i x k).gives R:=by intro y;match y with|none=>exact a|some z=>trivial
theorem QrH{R}{sz}(a:∀ys n,(k ys n).gives R):(aSrc sz v k).gives R:=by
 unfold aSrc;split
 ·split
  ·refine Qh6 fun cs=>?_;split;·exact a _ _
   trivial
  trivial
 ·split;·exact a _ _
  trivial
 ·exact a _ _
 ·exact a _ _
 ·exact a _ _
 ·split;·exact a _ _
  trivial
 trivial
theorem Qnh{sz bytes}{x}(d:Pts x a):(aAppend .dyn i sz bytes x y).gives fun v=>Pts v (i::a):=by
 have nil:∀{v:AV},blks v=some []->Pts v (i::a):=fun h=>⟨[],h,fun b c=>by cases c⟩;unfold aAppend;refine QrH fun g n=>?_;split
 ·obtain⟨cs,h1,f⟩:=d;split
  ·split;·exact nil rfl
   exact QcI ⟨_,rfl,fun b c=>by simp_all⟩
  ·split;·exact nil rfl
   exact QcI ⟨_,rfl,fun b c=>by simp_all⟩
  ·split;·exact nil rfl
   trivial
  ·simp only[blks,Zab]at h1;subst h1;split
   ·refine Qh6 fun cs=>?_;split;·exact⟨_,rfl,fun b c=>List.mem_cons_of_mem _ (f b c)⟩
    trivial
   trivial
  ·simp[blks]at h1
  trivial
 trivial
theorem Qej(g:∀x bs,ax x=some bs->Pts (ev T x) bs)(d:s.op.absV i ax=some bs)(k:StepV P i s T h v h1 f):Pts v bs:=by
 have self:∀{v:AV},blks v=some [i]->Pts v [i]:=fun h=>⟨_,h,fun b w=>w⟩;have key:∀{p:SOp},p.absV i ax=some bs->StepX P i p T h v h1 f->Pts v bs:=by
  rintro p d⟨out,C,hm,ho⟩;have n:∀{m:HM AV},aop i T p=hval m->(m.gives fun v=>Pts v bs)->Pts v bs:=by grind[QaU,HM.QrG]
  have q:∀{o:Option AV},aop i T p=lift o->(∀u,o=some u->Pts u bs)->Pts v bs:=by grind[QaZ]
  cases p<;>try(simp only[SOp.absV,reduceCtorEq]at d;done)
  ·simp only[aop,HM.run,Zab,Zal]at hm;obtain⟨rfl,rfl⟩:=hm;rw[ho.1];exact g _ _ d
  ·exact bwcU5
  ·exact bwcU5
  ·rename_i fz s sz len z B;cases fz<;>cases s<;>simp only[SOp.absV,reduceCtorEq,Zab]at d;subst d;refine n rfl ?_;unfold aBuildSlice;split
   ·split;·rw[if_neg (by simp)];exact QcI (self rfl)
    trivial
   trivial
  ·rename_i s;cases s<;>simp only[SOp.absV,reduceCtorEq,Zab]at d;subst d;exact n rfl (QcI (self rfl))
  ·rename_i s sz b z l c;cases s<;>simp only[SOp.absV,reduceCtorEq,Zab]at d;subst d;refine n rfl ?_;unfold aMakeSlice;split
   ·split;·exact QcI (self rfl)
    trivial
   trivial
  ·exact q rfl fun u hu=>(g _ _ d).slice hu
  ·exact q rfl fun u hu=>(g _ _ d).faddr hu
  ·exact q rfl fun u hu=>(g _ _ d).iaddr hu
  rename_i s sz b x y;cases s<;>simp only[SOp.absV,reduceCtorEq,Option.map_eq_some_iff]at d;obtain⟨a,A,rfl⟩:=d;exact n rfl (Qnh (g _ _ A))
 unfold StepV at k;split at k;·exact key d k
 obtain⟨t,_,k⟩:=k;split at k;·exact key d k
 obtain⟨rfl,_⟩:=k;exact⟨[],rfl,fun b w=>by cases w⟩
end
def AbsOK(T0:Tmps)(A:Abs)(T:Tmps):Prop:=∀j a,absT T0 A j=some a->Pts (lk T j) a
theorem AbsOK.opd(h:AbsOK T0 A T):∀x bs,absO T0 A x=some bs->Pts (ev T x) bs:=by intro x bs a;cases x with|t i=>exact h i bs a|c v=>exact⟨bs,a,fun b c=>c⟩|f n=>cases a|g n=>cases a
theorem AbsOK.nil:AbsOK T [] T:=fun j c h=>⟨c,h,fun b a=>a⟩
theorem AbsOK.up{d}{a}(h:AbsOK T0 A T)(c:∀bs,a=some bs->Pts v bs):AbsOK T0 ((d,a)::A) (up T d v):=by
 intro j bs b;rw[lk_up];simp only[absT]at b;by_cases e:d=j;·simp_all
 have :Nat.beq d j=false:=by simp_all[ZaI]
 rw[this]at b;rw[if_neg (fun h=>e h.symm)];exact h j bs b
theorem Qpx:∀{r:List SOper}{n:Nat}{A:Abs}{T:Tmps}{h:Heap}{K:Tmps->Heap->Nat->Prop}(hA:AbsOK T0 A T)(K':List FP->Tmps->Heap->Nat->Prop),(∀fs T h n',fs.length=r.length->(∀(j:Nat)a,(touches n T0 r A).getD j none=some a->(fs.getD j ⟨false,[],[]⟩).all=false/\∀b,b∈(fs.getD j ⟨false,[],[]⟩).R\/b∈(fs.getD j ⟨false,[],[]⟩).W->b∈a)->K T h n'->K' fs T h n')->wpR P n r T h K->wpRF P n r T h K'
 |[],n,A,T,h,K,hA,K',g,hw=>g [] T h n rfl (fun j a c=>by simp_all) hw|s::r,n,A,T,h,K,hA,K',g,hw=>by
  obtain⟨v,h1,f,i,m⟩:=hw;refine⟨v,h1,f,i,?_⟩;have k:AbsOK T0 (match s.dst with|some d=>(d,s.op.absV n (absO T0 A))::A|none=>A) (putD T s.dst v):=by cases s.dst with|none=>exact hA|some d=>exact AbsOK.up hA fun q l=>Qej hA.opd l i
  refine Qpx k (fun fs T h n=>K' (f::fs) T h n) (fun fs T h n' p hf o=>?_) m;refine g (f::fs) T h n' (by simp[p]) (fun j a c=>?_) o;cases j with|zero=>simp only[touches,List.getD_cons_zero]at c⊢;exact Qh5 hA.opd c i|succ j=>simp only[touches,List.getD_cons_succ]at c⊢;exact hf j a c
inductive PairsOK(n:Nat)(T:Tmps)(ops:List SOper)(ps:List (Nat×Nat)):Prop|mk(h:pairsOK (touches n T ops []) ps=true)
theorem Qjr{n}(hp:PairsOK n T ops (p::ps)):wS P N (.region ops (p::ps) dead) fs n T h Q=wR P N ops dead fs n T h Q:=by
 obtain⟨hp⟩:=hp;apply propext;constructor
 ·intro hw;have:∀{r:List SOper}{n:Nat}{T:Tmps}{h:Heap}{K:List FP->Tmps->Heap->Nat->Prop}{K':Tmps->Heap->Nat->Prop},(∀fs T h n,K fs T h n->K' T h n)->wpRF P n r T h K->wpR P n r T h K':=by intro r;induction r with|nil=>intro n T h K K' hK hw;exact hK _ _ _ _ hw|cons s r ih=>rintro n T h K K' hK⟨v,h1,f,hs,hr⟩;exact⟨v,h1,f,hs,ih (fun fs T h n hk=>hK _ _ _ _ hk) hr⟩
  exact this (fun fs' T h n hk=>hk.2) hw
 ·intro hw;refine Qpx AbsOK.nil _ (fun fs' T h n' hl hf hk=>⟨?_,hk⟩) hw;rw[ZaH];intro q hq;have:=ZaH.1 hp q hq;split at this
  ·rename_i a b ha hb;obtain⟨f1,f2⟩:=hf _ _ ha;obtain⟨g1,g2⟩:=hf _ _ hb;have hd:∀x y,x∈a->y∈b->x≠y:=by grind
   have dj:∀xs ys:List Nat,(∀x∈xs,∀y∈ys,x≠y)->disj xs ys=true:=by intro xs ys hh;unfold disj;grind
   grind[FP.apart]
  ·cases this
theorem FrzL.nil:FrzL h [] []:=trivial
theorem FrzL.cons{x}{xs ys}(h1:FrzTo h x y)(a:FrzL h xs ys):FrzL h (x::xs) (y::ys):=⟨h1,a⟩
end Go.AM
theorem _root_.Go.AM.ZcS:type_of%@Go.AM.FrzL.nil:=@Go.AM.FrzL.nil
theorem _root_.Go.AM.ZcT:type_of%@Go.AM.FrzL.cons:=@Go.AM.FrzL.cons
namespace Go.AM
variable{P:Program}
variable{v:AV}{x:Blk}{L:HL}{h:Heap}{args:List AV}{b f k:Nat}{sf:SFn}
def setL:HL->Heap->Heap|[],h=>h|(k,x)::r,h=>(setL r h).set k x
theorem Qni:setL [] h=h:=rfl
theorem Qlt{r:HL}:setL ((k,x)::r) h=(setL r h).set k x:=rfl
theorem Qnj(hf:Fresh b h):∀{L:HL},(L.all fun p=>Nat.ble b p.1&&Nat.blt p.1 1099511627775)=true->∀k,(setL L h).get k=if k<b then h.get k else(hp L).get k
 |[],_,k=>by
  simp only[setL,hp];split;·rfl
  rw[hf k (by omega),get_e]|(j,x)::r,a,k=>by
  simp only[Zcb,Zac,Nat.ble_eq,Zb1]at a;obtain⟨⟨h1,d⟩,c⟩:=a;have f:=Qnj hf (L:=r) (by simpa using c) k;simp only[setL,hp];by_cases e:k=j;·simp_all[QaA,if_neg]
  simp_all[QaH]
theorem HSpec.of_O(hn:noRefs args=true)(R:HSpec P f args .e v (hp L))(hf:Fresh b h)(Z:(L.all fun p=>Nat.ble b p.1&&Nat.blt p.1 1099511627775)=true):HSpec P f args h v (setL L h):=by
 obtain⟨hc,R⟩:=R;refine⟨hc,fun c w A H ha=>?_⟩;refine(R (only c.F) w A (HRel.only H.inF) (Zcq (c:=c) (c':=only c.F) (fun _ h=>h) _ _ hn ha)).mono ?_;rintro e I⟨cv,n,rfl,E,H',V⟩;have i:∀k,n.O k->w.heap.size<=k:=fun k d=>(E.own k d).elim (fun h=>h.elim) id;have m:∀k,n.F k->c.F k\/w.heap.size<=k:=fun k F=>(E.frzNew k F).elim .inl fun h=>h.elim (fun h=>h.elim) .inr;have l:∀k,k<w.heap.size->I.heap[k]?=w.heap[k]?:=fun k a=>E.keep k a (fun h=>h);have K:=Qnj hf Z;have Y:∀k,(hp L).get k≠none->b<=k:=fun k a=>by
  rcases ZbE k b with h1|h1
  ·exfalso;apply a;have:∀{M:HL},(M.all fun p=>Nat.ble b p.1&&Nat.blt p.1 1099511627775)=true->(hp M).get k=none:=by intro M;induction M with|nil=>intro _;exact get_e|cons q M ih=>obtain⟨j,x⟩:=q;intro hM;simp only[Zcb,Zac,Nat.ble_eq,Zb1]at hM;rw[Qa0,QaH hM.1.2 (by omega)];exact ih (by grind)
   exact this Z
  exact h1
 have S:∀k g,k<b->n.ρ k g=none:=fun k g a=>by
  have:(hp L).get k=none:=by grind
  exact H'.fresh k this g
 have J:∀k g,b<=k->c.ρ k g=none:=fun k g a=>H.fresh k (hf k a) g;let s:Ctx (okc P):={ρ:=fun k g=>if k<b then c.ρ k g else n.ρ k g,F:=n.F,O:=fun k=>c.O k\/n.O k,base:=c.base};have B:∀k g,k<b->s.ρ k g=c.ρ k g:=fun k g a=>if_pos a;have y:∀k g,b<=k->s.ρ k g=n.ρ k g:=fun k g a=>if_neg (by omega);have U:∀k g p,c.ρ k g=some p->s.ρ k g=some p:=fun k g p hp=>by grind
 have T:∀k g p,n.ρ k g=some p->s.ρ k g=some p:=fun k g p hp=>by grind
 have E2:Evo c w s I:=⟨E.os,E.tape,E.output,E.size,E.shape,fun k a _=>l k a,U,fun k a=>E.frz k a,fun k a=>(m k a).elim .inl fun h=>.inr (.inr h),fun k a=>a.elim .inl fun h=>.inr (i k h),rfl⟩;have X2:Ext n I s I:=⟨T,fun _ h=>h,fun k _ _ h=>h,fun k C e fr h=>⟨C,fr,h,rfl⟩⟩;refine⟨cv,s,rfl,E2,?_,Zcm X2 _ _ V⟩;refine⟨fun k a g=>?_,fun k x a g G=>?_,fun k x a=>?_,?_,fun k F d=>?_,fun k F=>H'.inF k F,fun k d=>d.elim (fun h=>Zbb (H.inO k h) E.size) (H'.inO k)⟩
 ·rw[K k]at a;split at a;·rename_i h1;rw[B k g h1];exact H.fresh k a g
  rename_i h1;rw[y k g (by omega)];exact H'.fresh k a g
 ·rw[K k]at a;split at a;·rename_i h1;rw[B k g h1];exact H.later k x a g G
  rename_i h1;rw[y k g (by omega)];exact H'.later k x a g G
 ·rw[K k]at a;split at a;·refine Zco (E2.ext H.disj) (fun o base t hp=>?_) (H.blk k x a);have d:=H.owned ⟨x,a,rfl,t⟩ hp;exact⟨.inl d,l o (H.inO _ d)⟩
  refine Zco X2 (fun o base t hp=>?_) (H'.blk k x a);have d:=H'.owned ⟨x,a,rfl,t⟩ hp;grind
 ·intro b1 g1 b2 g2 o u z l1 l2 p1 p2;have key:∀k g base,Live (setL L h) k g->s.ρ k g=some (.loc o base)->(k<b/\Live h k g/\c.ρ k g=some (.loc o base)/\o<w.heap.size)\/(b<=k/\Live (hp L) k g/\n.ρ k g=some (.loc o base)/\w.heap.size<=o):=by
   rintro k g base⟨x,a,rfl,t⟩hp;rw[K k]at a;split at a;·rename_i h1;rw[B k _ h1]at hp;exact .inl ⟨h1,⟨x,a,rfl,t⟩,hp,H.inO _ (H.owned ⟨x,a,rfl,t⟩ hp)⟩
   rename_i h1;rw[y k _ (by omega)]at hp;exact .inr ⟨by omega,⟨x,a,rfl,t⟩,hp,i _ (H'.owned ⟨x,a,rfl,t⟩ hp)⟩
  rcases key b1 g1 u l1 p1 with⟨k1,Q,O,k4⟩|⟨k1,Q,O,k4⟩<;>rcases key b2 g2 z l2 p2 with⟨j1,N,X,j4⟩|⟨j1,N,X,j4⟩;·exact H.inj _ _ _ _ _ _ _ Q N O X
  ·omega
  ·omega
  exact H'.inj _ _ _ _ _ _ _ Q N O X
 rcases d with d|d
 ·rcases m k F with h1|h1;·exact H.disj k h1 d
  have:=H.inO k d;omega
 exact H'.disj k F d
theorem HSpec.QbD(n)(c:okFn P f sf=true)(h:Nat.ble args.length sf.n=true)(hw:wS P ⟨sf.n,0⟩ sf.body [] n (argT 0 args) .e fun e T k _=>(e=.normal\/e=.ret)/\∃vs,resV T k sf.res=some vs/\Rec 0 [(0,v)] L [(0,resOf vs)] k):HSpec P f args .e v (hp L):=by refine HSpec.of_W2 (m:=0) c (Zaw h) (fun b _=>get_e) ((wpC.toW hw).mono ?_);rintro e B⟨l,h1,vs,i,m,ho,a,d,g⟩;exact⟨h1,vs,_,i,Rec.maps ho d,Rec.heap ho d,Rec.dom ho a,g 0⟩
end Go.AM
theorem _root_.Go.AM.ZcU:type_of%@Go.AM.HSpec.of_O:=@Go.AM.HSpec.of_O
theorem _root_.Go.AM.ZcV:type_of%@Go.AM.HSpec.QbD:=@Go.AM.HSpec.QbD
namespace Go.AM
variable{v z:AV}{k:IntKind}{l:List Nat}{b g x:Nat}{f:Nat->AV}{p:Prop}
theorem wV:type_of%@words/\type_of%@wordsN/\type_of%@wordsR/\type_of%@Qjr/\type_of%@Qh0/\type_of%@Qfj/\type_of%@Qh1/\type_of%@Qh2/\type_of%@Qh3/\type_of%@Qjo/\type_of%@Qjp/\type_of%@Qjq/\type_of%@Qlt/\type_of%@Qni/\type_of%@SX.exit.injEq/\type_of%@if_true.{1}/\type_of%@if_false.{1}/\type_of%@ne_eq.{1}:=⟨@words,@wordsN,@wordsR,@Qjr,@Qh0,@Qfj,@Qh1,@Qh2,@Qh3,@Qjo,@Qjp,@Qjq,@Qlt,@Qni,@SX.exit.injEq,@if_true,@if_false,@ne_eq⟩
theorem gg(h:p:=by first|(simp(disch:=omega)only[QaA,QaH,Qa0];done)|(simp(disch:=omega)only[QaA,QaH,Qa0];rfl)):p:=h
variable{P:Program}
def mapF(k:IntKind)(f:Nat->AV)(l:List Nat):List (AV×AV):=l.map fun x:Nat=>(.int k (x:Int),f x)
def updF(f:Nat->AV)(x:Nat)(v:AV):Nat->AV:=fun y=>if y=x then v else f y
theorem Qlu{y:Nat}:keyEq false [.i] (.int k (x:Int)) (.int k (y:Int))=some (decide (x=y)):=by
 by_cases e:x=y;·grind[keyEq,ZE,eqCell]
 have :¬(x:Int)=y:=by omega
 grind[keyEq,ZE,eqCell]
theorem QfW:∀(l:List Nat)(i:Nat),x∈l->aFind false [.i] (.int k (x:Int)) (mapF k f l) i=some (some (i+l.findIdx (·==x),f x))
 |[],_,h=>by cases h|y::l,i,b=>by
  show(match keyEq false [.i] (.int k (x:Int)) (.int k (y:Int))with|some true=>_|some false=>_|none=>_)=_;rw[Qlu,List.findIdx_cons];by_cases e:x=y;·subst e;simp
  have a:(y==x)=false:=by grind
  rw[decide_eq_false e,a];show aFind false [.i] (.int k (x:Int)) (mapF k f l) (i+1)=_;rw[QfW l (i+1) ((Zav.1 b).resolve_left e)];grind
theorem Qe7:∀(l:List Nat)(i:Nat),x∉l->aFind false [.i] (.int k (x:Int)) (mapF k f l) i=some none|[],_,_=>rfl|y::l,i,a=>by simp only[Zav,not_or]at a;show(match keyEq false [.i] (.int k (x:Int)) (.int k (y:Int))with|some true=>_|some false=>_|none=>_)=_;rw[Qlu,decide_eq_false a.1];exact Qe7 l (i+1) a.2
theorem Qnk:∀(l:List Nat),l.Nodup->x∈l->(mapF k f l).set (l.findIdx (·==x)) (.int k (x:Int),v)=mapF k (updF f x v) l
 |[],_,h=>by cases h|y::l,a,c=>by
  rw[Zcj]at a;rw[List.findIdx_cons];by_cases e:y=x
  ·subst e;have:mapF k f l=mapF k (updF f y v) l:=Zbf fun z d=>by grind[updF]
   grind[mapF,updF]
  have b:(y==x)=false:=by simpa using e
  rw[b];simp only[cond_false];show(.int k (y:Int),f y)::(mapF k f l).set (l.findIdx (·==x)) (.int k (x:Int),v)=(.int k (y:Int),updF f x v y)::mapF k (updF f x v) l;rw[Qnk l a.2 ((Zav.1 c).resolve_left fun h=>e h.symm)];simp[updF,e]
theorem Qty(a:x∉l):mapF k f l++[(.int k (x:Int),v)]=mapF k (updF f x v) (l++[x]):=by grind[mapF,updF,Zbf]
theorem RnM.mapF{m}{π}{h}{k}{f g}:∀{l:List Nat},(∀x∈l,Rn m π h (f x) (g x))->RnM m π h (mapF k f l) (mapF k g l)|[],_=>trivial|x::l,hf=>⟨⟨Zcs rfl,hf x (by simp)⟩,RnM.mapF (l:=l) fun y a=>hf y (by simp[a])⟩
section
variable{N:NM}{n:Nat}{d:Option Nat}{af dead:List Nat}{r:List SOper}{T:Tmps}{h:Heap}{Q:QC}{fs:List Fr}
def lkV(ok:Bool)(z:AV):Option (Nat×AV)->AV|some (_,v)=>if ok then .tup [v,.bool true]else v|none=>if ok then .tup [z,.bool false]else z
def wK(P:Program)(N:NM)(o:Option Blk)(g:Nat)(k z:AV)(ok:Bool)(d:Option Nat)(ops:List SOper)(dead:List Nat)(fs:List Fr)(n:Nat)(T:Tmps)(h:Heap)(Q:QC):Prop:=∃es q,o=some (.map g es)/\aFind false [.i] k es 0=some q/\wR P N ops dead fs (n+1) (putD T d (lkV ok z q)) h Q
theorem Qci{x}{ok}(hu:wK P N (h.get b) g (.int k x) z ok d r dead fs n T h Q):wM P N (aLookup false [.i] z ok (.map b g) (.int k x)) d r dead fs n T h Q:=by
 obtain⟨es,q,hb,hf,hk⟩:=hu;refine⟨_,_,?_,hk⟩;have hok:keyOK false [.i] (.int k x)=true:=by simp[keyOK,keyEq,ZE,eqCell]
 have hg:Nat.beq g g=true:=by simp
 grind[aLookup,HM.entries,HM.run,lkV]
abbrev fmapF(k:IntKind)(f:Nat->AV)(l:List Nat):AV:=.fmap (l.map fun x:Nat=>.int k (x:Int)) (l.map f)
theorem Qnl(l):(l.map fun x:Nat=>AV.int k (x:Int)).zip (l.map f)=mapF k f l:=by induction l with|nil=>rfl|cons x l a=>simp only[ZaL,List.zip_cons_cons,a];rfl
theorem QoN{ok:Bool}(hx:x∈l)(hk:wR P N r dead fs (n+1) (putD T d (if ok then .tup [f x,.bool true]else f x)) h Q):wM P N (aLookup false [.i] z ok (fmapF k f l) (.int k (x:Int))) d r dead fs n T h Q:=by
 refine⟨_,h,?_,hk⟩;have e:keyOK false [.i] (AV.int k (x:Int))=true:=by simp[keyOK,keyEq,ZE,eqCell]
 unfold aLookup;rw[if_pos e];simp only[fmapF];rw[Qnl,QfW l 0 hx];rfl
theorem Qnm{ok:Bool}(a:x∉l)(b:wR P N r dead fs (n+1) (putD T d (if ok then .tup [z,.bool false]else z)) h Q):wM P N (aLookup false [.i] z ok (fmapF k f l) (.int k (x:Int))) d r dead fs n T h Q:=by
 refine⟨_,h,?_,b⟩;have e:keyOK false [.i] (AV.int k (x:Int))=true:=by simp[keyOK,keyEq,ZE,eqCell]
 unfold aLookup;rw[if_pos e];simp only[fmapF];rw[Qnl,Qe7 l 0 a];rfl
theorem FrzTo.mapF{g:Nat->AV}{gg}(a:h.get b=some (.map gg (Go.AM.mapF k f l)))(c:∀x∈l,FrzTo h (f x) (g x)):FrzTo h (.map b gg) (fmapF k g l):=by
 refine FrzTo.map a ?_ ?_
 ·have :(Go.AM.mapF k f l).map (·.1)=l.map fun x:Nat=>AV.int k (x:Int):=by simp[Go.AM.mapF]
  simp_all[Zcz]
 have :(Go.AM.mapF k f l).map (·.2)=l.map f:=by simp[Go.AM.mapF]
 rw[this];clear a this;induction l with|nil=>trivial|cons x l d=>exact⟨c x (by simp),d fun y i=>c y (by simp[i])⟩
theorem wK_in{ok:Bool}(a:x∈l)(b:wR P N r dead fs (n+1) (putD T d (if ok then .tup [f x,.bool true]else f x)) h Q):wK P N (some (.map g (mapF k f l))) g (.int k (x:Int)) z ok d r dead fs n T h Q:=⟨_,_,rfl,QfW l 0 a,b⟩
theorem Qnn{ok:Bool}(a:x∉l)(b:wR P N r dead fs (n+1) (putD T d (if ok then .tup [z,.bool false]else z)) h Q):wK P N (some (.map g (mapF k f l))) g (.int k (x:Int)) z ok d r dead fs n T h Q:=⟨_,_,rfl,Qe7 l 0 a,b⟩
def wUF(P:Program)(N:NM)(o:Option Blk)(b g:Nat)(k v:AV)(d:Option Nat)(ops:List SOper)(dead:List Nat)(fs:List Fr)(n:Nat)(T:Tmps)(h:Heap)(Q:QC):Prop:=∃es q,o=some (.map g es)/\aFind false [.i] k es 0=some q/\b<lim/\wR P N ops dead fs (n+1) (putD T d .any) (h.set b (.map g (match q with|some (i,_)=>es.set i (k,v)|none=>es++[(k,v)]))) Q
theorem Qbe{x}(hu:wUF P N (h.get b) b g (.int k x) v d r dead fs n T h Q):wM P N (aMapUpd false [.i] (.map b g) (.int k x) v) d r dead fs n T h Q:=by
 obtain⟨es,q,m,hf,i,f⟩:=hu;refine⟨_,_,?_,f⟩;have a:keyOK false [.i] (.int k x)=true:=by simp[keyOK,keyEq,ZE,eqCell]
 have c:Nat.blt b lim=true:=by simp_all
 have l:Nat.beq g g=true:=by simp
 grind[aMapUpd,HM.entries,HM.run]
theorem Qv7(m:l.Nodup)(c:x∈l)(i:b<1099511627775)(o:wR P N r dead fs (n+1) (putD T d .any) (h.set b (.map g (mapF k (updF f x v) l))) Q):wUF P N (some (.map g (mapF k f l))) b g (.int k (x:Int)) v d r dead fs n T h Q:=by have a:b<lim:=i;refine⟨_,_,rfl,QfW l 0 c,a,?_⟩;simp_all[Qnk]
theorem Qbz(c:x∉l)(i:b<1099511627775)(m:wR P N r dead fs (n+1) (putD T d .any) (h.set b (.map g (mapF k (updF f x v) (l++[x])))) Q):wUF P N (some (.map g (mapF k f l))) b g (.int k (x:Int)) v d r dead fs n T h Q:=by have a:b<lim:=i;refine⟨_,_,rfl,Qe7 l 0 c,a,?_⟩;simp_all[Qty]
end
end Go.AM
theorem _root_.Go.AM.ZcW:type_of%@Go.AM.RnM.mapF:=@Go.AM.RnM.mapF
namespace Go.AM
variable{b:Bool}{cs:List AV}
theorem Qno:(AV.bool b).cells=[.bool b]:=rfl
theorem QrI:(AV.bool b).one=true:=rfl
theorem QrJ:(AV.bool b).boxable=true:=rfl
theorem Qnp{b g o}:aNil (.ptr b g o)=some (.ptr b g o):=rfl
theorem Qlv:aNil (.fptr cs)=some (.fptr cs):=rfl
end Go.AM
namespace Go.AM.SD
open Go.AM
variable{a b:List AV}{l:List Nat}{i k x:Nat}{α:Type}{f:α->List AV}
def ZI(l:List Int):List AV:=l.map (.int .i64)
abbrev sli(l:List Int):AV:=.fsl (ZI l) l.length 1
theorem Qaa(l):noRefs (ZI l)=true:=by induction l with|nil=>rfl|cons x l a=>simp only[ZI,ZaL,noRefs,noRef,Zai];exact a
theorem Qc6{l}:(ZI l).length=l.length:=by simp[ZI]
theorem lenW:type_of%@List.length_map.{0,0}/\type_of%@List.length_append.{0}/\type_of%@List.length_cons.{0}/\type_of%@List.length_nil.{0}/\type_of%@Qc6:=⟨@List.length_map.{0,0},@List.length_append.{0},@List.length_cons.{0},@List.length_nil.{0},@Qc6⟩
theorem QaF{l}{x}(h:l[i]?=some x):((ZI l).drop i).head?=some (.int .i64 x):=by rw[ZbC];simp[ZI,h]
abbrev nz(l:List Nat):List Int:=l.map fun x:Nat=>(x:Int)
theorem nz_at(h:l[i]?=some x):(nz l)[i]?=some (x:Int):=by simp[nz,h]
theorem Qfu:(nz l).length=l.length:=by simp[nz]
theorem Qak{l:List α}(h:i<l.length):∃x,l[i]?=some x:=⟨l[i],Zak h⟩
theorem Qaf:noRefs (a++b)=(noRefs a&&noRefs b):=by induction a with|nil=>simp[noRefs]|cons x a c=>simp only[ZaW,noRefs,c,Bool.and_assoc]
theorem Qa6(h:∀x,noRefs (f x)=true)(l:List α):noRefs (l.flatMap f)=true:=by induction l with|nil=>rfl|cons x l a=>rw[Zaz,Qaf,h,a];rfl
theorem Qbg(h:∀x,(f x).length=k)(l:List α):(l.flatMap f).length=l.length*k:=by induction l with|nil=>simp|cons x l a=>rw[Zaz,Zag,h,a,ZaD,Zbn];omega
theorem Qbi(h:∀x,(f x).length=k):∀{l:List α}{i:Nat}{x:α},l[i]?=some x->(l.flatMap f).drop (i*k)=f x++(l.drop (i+1)).flatMap f
 |[],_,_,a=>by simp at a|y::l,0,x,a=>by simp at a;subst a;simp|y::l,i+1,x,a=>by
  simp at a;rw[Zaz,List.drop_append,h,List.drop_of_length_le (by rw[h,Zbn];omega),ZaT];have:(i+1)*k-k=i*k:=by rw[Zbn];omega
  rw[this,Qbi h a,Zbp]
structure Eg where
 fr:Int
 ev:Int
 to:Int deriving DecidableEq
def egC(e:Eg):List AV:=[.int .i64 e.fr,.int .i64 e.ev,.int .i64 e.to]
abbrev egs(l:List Eg):AV:=.fsl (l.flatMap egC) l.length 3
theorem Qam(l:List Eg):noRefs (l.flatMap egC)=true:=Qa6 (fun x=>rfl) l
theorem Qar(l):noRef (egs l)=true:=by simp only[noRef];exact Qam l
theorem QdO{l:List Eg}{e}(h:l[i]?=some e):(l.flatMap egC).drop (i*3)=.int .i64 e.fr::.int .i64 e.ev::.int .i64 e.to::(l.drop (i+1)).flatMap egC:=Qbi (f:=egC) (k:=3) (fun _=>rfl) h
theorem Qah(l):noRef (sli l)=true:=by simp only[noRef];exact Qaa l
structure Au where
 al:List Int
 n:Int
 ms:List Int
 es:List Eg
abbrev auV(a:Au):AV:=.agg [sli a.al,.int .i64 a.n,sli a.ms,egs a.es]
def eg(e:Ed):Eg:=⟨e.1,e.2.1,e.2.2⟩
def au(a:Aut):Au:=⟨nz a.al,a.n,nz a.ms,a.es.map eg⟩
def rmC(r:Rm):List AV:=[.int .i64 r.st,.int .i64 r.rank,.int .i64 r.reason,.int .i64 r.ev]
abbrev rms(l:List Rm):AV:=.fsl (l.flatMap rmC) l.length 4
theorem Qan(l:List Rm):noRefs (l.flatMap rmC)=true:=Qa6 (fun x=>rfl) l
theorem Qtz{l:List Rm}{r}(h:l[i]?=some r):(l.flatMap rmC).drop (i*4)=.int .i64 r.st::.int .i64 r.rank::.int .i64 r.reason::.int .i64 r.ev::(l.drop (i+1)).flatMap rmC:=Qbi (f:=rmC) (k:=4) (fun _=>rfl) h
def edC(e:Ed):List AV:=[.int .i64 (e.1:Int),.int .i64 (e.2.1:Int),.int .i64 (e.2.2:Int)]
abbrev egsN(l:List Ed):AV:=.fsl (l.flatMap edC) l.length 3
theorem Qag(l:List Ed):noRefs (l.flatMap edC)=true:=Qa6 (fun x=>rfl) l
theorem Qaj(l):noRef (egsN l)=true:=by simp only[noRef];exact Qag l
theorem QaR{l:List Ed}{e}(h:l[i]?=some e):(l.flatMap edC).drop (i*3)=.int .i64 (e.1:Int)::.int .i64 (e.2.1:Int)::.int .i64 (e.2.2:Int)::(l.drop (i+1)).flatMap edC:=Qbi (f:=edC) (k:=3) (fun _=>rfl) h
theorem QuL(l):egs (l.map eg)=egsN l:=by unfold egs egsN;rw[Zax,List.flatMap_map];rfl
abbrev ZN(l:List Nat):AV:=.fsl (ZI (nz l)) l.length 1
theorem QbE(l):sli (nz l)=ZN l:=by unfold sli ZN;rw[Zax]
theorem Qab(l):noRef (ZN l)=true:=by simp only[noRef];exact Qaa _
theorem QaI(h:l[i]?=some x):((ZI (nz l)).drop i).head?=some (.int .i64 (x:Int)):=QaF (nz_at h)
abbrev aV(a:Aut):AV:=.agg [ZN a.al,.int .i64 (a.n:Int),ZN a.ms,egsN a.es]
theorem Qv8(a):auV (au a)=aV a:=by show AV.agg [sli (nz a.al),.int .i64 (a.n:Int),sli (nz a.ms),egs (a.es.map eg)]=_;rw[QbE,QbE,QuL]
theorem QdP(a):noRef (aV a)=true:=by rw[aV,noRef,noRefs,noRefs,noRefs,noRefs,Qab,Qab,Qaj];rfl
def bls(l:List Bool):List AV:=l.map .bool
theorem Qai(l):noRefs (bls l)=true:=by induction l with|nil=>rfl|cons x l a=>simp only[bls,ZaL,noRefs,noRef,Zai];exact a
theorem Qkd{l}:(bls l).length=l.length:=by simp[bls]
theorem Qke{l}{i}{b}:(bls l).set i (.bool b)=bls (l.set i b):=by simp[bls,List.map_set]
theorem Qba{l}(h:i<l.length):((bls l).drop i).head?=some (.bool (lf l i)):=by rw[ZbC];simp[bls,lf,h]
theorem Qpy{l}(h:i<l.length):(bls l)[i]?=some (.bool (lf l i)):=by simp[bls,lf,h]
theorem QaB{a b}:ZI (a++b)=ZI a++ZI b:=by simp[ZI]
theorem QaM{a b}:nz (a++b)=nz a++nz b:=by simp
theorem Qec{l:List α}{x}(h:x∈l):∃j:Nat,l[j]?=some x/\j<l.length:=by obtain⟨j,a⟩:=List.mem_iff_getElem?.1 h;exact⟨j,a,(Zaf.1 a).1⟩
theorem QeU:decide ((x:Int)∈nz l)=l.contains x:=by
 have:(x:Int)∈nz l↔x∈l:=⟨fun h=>by
  obtain⟨y,b,e⟩:=Zaq.1 h;have e:y=x:=by omega
  exact e▸b,fun h=>Zaq.2 ⟨x,h,rfl⟩⟩;by_cases h:x∈l;·rw[decide_eq_true (this.2 h)];simp[h]
 rw[decide_eq_false fun a=>h (this.1 a)];simp[h]
end Go.AM.SD
namespace Go.AM
variable{a b s:List UInt8}
theorem Qnq:(AV.str s).cells=[.str s]:=rfl
theorem QrK:(AV.str s).one=true:=rfl
theorem QrL:(AV.str s).boxable=true:=rfl
theorem Qlw:aBin .add (.str a) (.str b)=if a.length+b.length<=140737488355328 then some (.str (a++b))else none:=rfl
open SD
theorem wW:type_of%@QgO/\type_of%@wordsM/\type_of%@Qnp/\type_of%@Qlv/\type_of%@Int.one_mul/\type_of%@Qkd/\type_of%@Qc6/\type_of%@Qno/\type_of%@QrI/\type_of%@QrJ/\type_of%@List.length_replicate.{0}/\type_of%@Qnq/\type_of%@QrK/\type_of%@QrL/\type_of%@QmM/\type_of%@Qrj/\type_of%@QeJ/\type_of%@Qlw:=⟨@QgO,@wordsM,@Qnp,@Qlv,@Int.one_mul,@Qkd,@Qc6,@Qno,@QrI,@QrJ,@Zbv,@Qnq,@QrK,@QrL,@QmM,@Qrj,@QeJ,@Qlw⟩
end Go.AM
namespace Go.AM.SE
open Go.Proofs
set_option maxHeartbeats 4000000
noncomputable section
def cf:YA.Cf:={most:=.pure,always:=[86,118,119,120,122,123,233,176,177,178,225,226,227,228,229,230,231,232,249].map fun k=>(k,.heap),value:=.pure,eqn:=false}
def s83:SFn:=by
 refine(?f:YA.Yt Tryz.prog cf 83 [[4],[6,7,8,9],[0,1,10],[4,10,11],[],[14,15],[5,16,17,18,19,20,21,22,23],[0,1,12,13,24],[4,24,25],[0,1,12,13]]) ?s ?h;case h=>exact YA.rr
 exact fun s _=>s
def s64:SFn:=by
 refine(?f:YA.Yt Tryz.prog cf 64 [[0,1,4],[2,3,5,6,7,8,9,10,11,12,13,14,15,16,17,18,19,20,21,22,23,24,25,26,27,28,29,30]]) ?s ?h;case h=>exact YA.rr
 exact fun s _=>s
def s95:SFn:=by
 refine(?f:YA.Yt Tryz.prog cf 95 [[4],[0,1,5,6,7,8]]) ?s ?h;case h=>exact YA.rr
 exact fun s _=>s
def s86:SFn:=by
 refine(?f:YA.Yt Tryz.prog cf 86 [[2],[3],[0,4],[0,4,5,6,7]]) ?s ?h;case h=>exact YA.rr
 exact fun s _=>s
def s59:SFn:=by
 refine(?f:YA.Yt Tryz.prog cf 59 [[0,6],[],[8,9,10,11],[12,15,16,17,18,19,20,21,22,23],[1,2,3,7,31,29,30,28,27,25,26,24,32,33,34,35,36,37,38],[6,32,13,14],[1,2,3,7,31,29,30,28,27,25,26,24]]) ?s ?h;case h=>exact YA.rr
 exact fun s _=>s
def s53:SFn:=by
 refine(?f:YA.Yt Tryz.prog cf 53 [[0],[2,4,19,20,21,22],[],[1],[],[26,27,28],[12,29,30,31,32,33,34,35,36,37],[38],[39],[23,24,25],[42,43,44,45],[46,47],[48],[],[52,53,54],[16,55,56,57,58,59,60,61],[62],[14,49,50,51,63,64,65,66,67,68,69],[70,71],[40,41],[3,13,72,73,74,75],[76],[],[80,81,82,83],[84,85,86,87,88,89],[17,90,91,92,93,94,95,96,97,98],[18,99,100,101,102,103,104,105,106],[17,18,90,107],[9,77,78,79,109,110,108,111,112,113,114],[10,115]]) ?s ?h;case h=>exact YA.rr
 exact fun s _=>s
def s90:SFn:=by
 refine(?f:YA.Yt Tryz.prog cf 90 [[2],[],[],[5],[6,9,10,11,12],[13,14,15,16,17],[13,7,8],[0,3,4,18]]) ?s ?h;case h=>exact YA.rr
 exact fun s _=>s
def s129:SFn:=by
 refine(?f:YA.Yt Tryz.prog cf 129 [[4],[6,7,8,9],[0,1,10],[4,10,11],[],[14,15],[5,16,17,18,19,20,21,22,23],[0,1,12,13,24],[4,24,25],[0,1,12,13]]) ?s ?h;case h=>exact YA.rr
 exact fun s _=>s
def s152:SFn:=by
 refine(?f:YA.Yt Tryz.prog cf 152 [[4],[6],[],[9,10],[11,12,13,14,15],[0,1,7,8,5,16,17],[4,5,16,18],[0,1,7,8]]) ?s ?h;case h=>exact YA.rr
 exact fun s _=>s
def s66:SFn:=by
 refine(?f:YA.Yt Tryz.prog cf 66 [[0,2],[5,6,7],[8],[1,3,9,10],[2,3,9,12,13,14],[1,11],[11,16,17,18],[1,15],[2,15,19,20,21,22,23],[24],[1,4,25,26],[1,4,25,27,28]]) ?s ?h;case h=>exact YA.rr
 exact fun s _=>s
def s254:SFn:=by
 refine(?f:YA.Yt Tryz.prog cf 254 [[4,5],[10,11],[12],[13,14],[15,16,17,18,19,20,21],[22,23,24,25,26],[9,27,28,29],[9,27,30],[0,1,6,7,8,52,42,51,48,50,49,47,46,45,43,44,41,39,40,38,36,37,31,32,33,34,35,53]]) ?s ?h;case h=>exact YA.rr
 exact fun s _=>s
def s251:SFn:=by
 refine(?f:YA.Yt Tryz.prog cf 251 [[0],[12,13,14,15],[16,17],[1,3,18,19],[18,20,21,22],[23],[],[26,27],[5,28,29,30],[31],[24,25,32,33],[34],[],[35,36,37],[38,42,43,44,45,46,47,48,41,49,50,8],[9],[51,52,53,54,55,56,57],[51,58,59,60,61,62],[],[66,67,68],[69,70,71,72,73],[74,75,76,77,78,79,80],[81,82,83,84,85],[11,74,86,87,88,89,90,91,92,93,94,95,96,97,98,99],[100],[63,64,65,39,40],[1,4,6,7,101,102,103],[3,104]]) ?s ?h;case h=>exact YA.rr
 exact fun s _=>s
def s118:SFn:=by
 refine(?f:YA.Yt Tryz.prog cf 118 [[0,6],[2,13,14,15,16,17,18,19,20],[21,22,23,24],[],[27,28],[8,29,30,31,32,33,34],[35],[1,25,26],[],[39,40,41],[10,42,43,44,45,46,47],[48],[3,36,37,38,49],[],[53,54,55],[12,56,57,58,59,60,61,62,63,64,65,66,67,68,69,70,71,72],[73],[7,50,51,52,74]] [(16,[(2,4)]),(2,[(12,15),(3,16),(5,16)])]) ?s ?h;case h=>exact YA.rr
 exact fun s _=>s
def s119:SFn:=by
 refine(?f:YA.Yt Tryz.prog cf 119 [[6],[8,9,10],[2,11,12,13,14,15,16],[0,1,7,17,18],[0,1,7,17,19,20,21]]) ?s ?h;case h=>exact YA.rr
 exact fun s _=>s
def s122:SFn:=by
 refine(?f:YA.Yt Tryz.prog cf 122 [[2],[11,12,13,14,15,16],[17],[],[20,21],[4,22,23,24],[25],[18,19],[26,27,28,29],[],[33,34,35],[36,37,38,39,40,41],[42,43,44,45],[7,46,47,48,49],[7,42,50],[30,31,32],[51,52,53],[54,57,58,59,60,61,62,63,64],[],[68,69,70],[71,72,73,74,75,76,77,78],[84,85,86,87,88,89,90,91,92,93,94,95],[10,96,97,98,99],[10,84,100],[65,66,67,55,56],[0,3,83,82,81,79,80,5,8,101]]) ?s ?h;case h=>exact YA.rr
 exact fun s _=>s
def s123:SFn:=by
 refine(?f:YA.Yt Tryz.prog cf 123 [[3],[15,16,17,18,19,20,21],[22,23,24,25,26,27,28,29,30,31,32,33,34,35],[0,4,36,37],[3,36,38,39,40,41,42,43],[44,45,46,47],[],[51,52,53],[54,55,56,57,58,59,60],[7,61,62,63,64,65,66,67,68,69,70,71,72,73],[7,61,74],[48,49,50,75,76],[77],[],[78,79,80],[81,84,85,86,87,88,89],[],[93,94,95],[97,98,99,100,96,101,102],[14,103],[104,105,106],[107,108,109,110],[111,112,113,114,115],[12,13,104,116,117,118,119,120,121,122,123,124,125],[126],[90,91,92,127,128,129,130,131,132,133,134,135],[136,137,138,139,140,141,142],[136,82,83],[0,5,8,10,143,144,145],[4,9,146,147]] [(20,[(2,10)])]) ?s ?h;case h=>exact YA.rr
 exact fun s _=>s
def s150:SFn:=by
 refine(?f:YA.Yt Tryz.prog cf 150 [[1],[9,10],[0,3,11,12,13],[11,14,15],[16,17,18,19,20,21],[],[22,23,24],[25,28,29,30,31,32],[33,34,35,36,37,38,39],[33],[40,41,42,43,44],[47,50,51,52,53,54,55,56,57,58,59,60],[61,62,63],[8,64,65,66,67,68,69,70,71,72,73,74,75,76],[8,64,48,49],[7,26,27],[0,3,5,6,46,45,77,78]]) ?s ?h;case h=>exact YA.rr
 exact fun s _=>s
def s132:SFn:=by
 refine(?f:YA.Yt Tryz.prog cf 132 [[4],[],[],[10,11,12,13],[15,16,17,21],[0,1,7,8,9,32,26,31,30,27,29,28,20,18,19,5,6,14],[5,6,14,23,24,25,33],[0,1,7,8,9,32,26,31,30,27,29,28,20,18,19,22],[4,22,34],[0,1,7,8,9,32,26,31,30,27,29,28,20,18,19]]) ?s ?h;case h=>exact YA.rr
 exact fun s _=>s
def s133:SFn:=by
 refine(?f:YA.Yt Tryz.prog cf 133 [[0,2],[6],[],[10,11,12,13],[15,16,17,18,24,25,29,30,36],[1,7,8,9,69,63,68,65,67,66,64,62,59,61,60,58,35,32,34,33,31,28,27,26,23,20,22,21,19,4,3,14],[14,38,39,40,41,42,43],[1,7,8,9,69,63,68,65,67,66,64,62,59,61,60,58,35,32,34,33,31,28,27,26,23,20,22,21,19,4,3,37],[2,37,44],[3,45,46,47,48,49,50,51],[4,5,52,53,54,55,56,57],[1,7,8,9,69,63,68,65,67,66,64,62,59,61,60,58,35,32,34,33,31,28,27,26,23,20,22,21,19,70],[2,70,71],[1,7,8,9,69,63,68,65,67,66,64,62,59,61,60,58,35,32,34,33,31,28,27,26,23,20,22,21,19]]) ?s ?h;case h=>exact YA.rr
 exact fun s _=>s
def s245:SFn:=by
 refine(?f:YA.Yt Tryz.prog cf 245 [[4],[0,1,5,6,7,8,9,10,11,12,13,14,15,16]]) ?s ?h;case h=>exact YA.rr
 exact fun s _=>s
def s278:SFn:=by
 refine(?f:YA.Yt Tryz.prog cf 278 [[2],[0,3,4,5]]) ?s ?h;case h=>exact YA.rr
 exact fun s _=>s
def s223:SFn:=by
 refine(?f:YA.Yt Tryz.prog cf 223 [[0,4],[10,11,12,13,9,14,15,6],[1,17,18,19,20,21,16,22,23,8],[2,5,7,24,25,26,27,28]]) ?s ?h;case h=>exact YA.rr
 exact fun s _=>s
def s176:SFn:=by
 refine(?f:YA.Yt Tryz.prog cf 176 [[4],[],[9,10,11,12],[],[16,17,18],[19,20,21,22,23,24,25,26,27,28,37,38],[47,48,49],[8,50,51,52],[7,62,63,64,65,66,67,68,69,70,71],[72],[0,1,5,13,14,15,61,58,60,59,57,56,53,55,54,46,45,42,44,43,41,40,39,36,35,32,34,33,31,30,29,73]]) ?s ?h;case h=>exact YA.rr
 exact fun s _=>s
def s177:SFn:=by
 refine(?f:YA.Yt Tryz.prog cf 177 [[4],[],[8],[],[12,13,14,15],[7,16,17,18,19,20,21,22,23],[6,26,27,28,29,30,31,32],[6,26,33],[0,1,5,9,10,11,25,24,34]]) ?s ?h;case h=>exact YA.rr
 exact fun s _=>s
def s189:SFn:=by
 refine(?f:YA.Yt Tryz.prog cf 189 [[],[0,3,4,5,6]]) ?s ?h;case h=>exact YA.rr
 exact fun s _=>s
def s190:SFn:=by
 refine(?f:YA.Yt Tryz.prog cf 190 [[0],[8,9],[10,11,12],[13,14,15],[],[16,17,18],[19,22,23,24,25,26,27],[28,29,30,31,32,33,34],[28],[35,36,37,38],[39,42,43,44,45,46,47,48,49,50,51,52],[53],[7,54,55,56,57,58,59,60,61,62,63,64,65,66,67,68,69],[7,54,40,41],[6,20,21],[1,3,4,5,70]]) ?s ?h;case h=>exact YA.rr
 exact fun s _=>s
def s276:SFn:=by
 refine(?f:YA.Yt Tryz.prog cf 276 [[2],[0,3,4,5]]) ?s ?h;case h=>exact YA.rr
 exact fun s _=>s
def s265:SFn:=by
 refine(?f:YA.Yt Tryz.prog cf 265 [[6,7],[12,13],[14],[15,16],[17,18,19,20,21,22,23],[24,25,26,27,28,29,30],[11,31,32,33],[11,31,34],[0,1,2,8,9,10,47,46,40,44,45,43,41,42,35,36,37,38,39,48]]) ?s ?h;case h=>exact YA.rr
 exact fun s _=>s
def s266:SFn:=by
 refine(?f:YA.Yt Tryz.prog cf 266 [[0,4],[1,2,5,6,7,8]]) ?s ?h;case h=>exact YA.rr
 exact fun s _=>s
def s267:SFn:=by
 refine(?f:YA.Yt Tryz.prog cf 267 [[0,4],[1,2,5,6,7,8]]) ?s ?h;case h=>exact YA.rr
 exact fun s _=>s
def s248:SFn:=by
 refine(?f:YA.Yt Tryz.prog cf 248 [[0,2],[],[7,8],[9,10,11,12],[9],[13,14,15],[16],[19,20,21,22],[23,26,27,28,29,30,31,32,33,34,35,36],[37,38,39],[6,44,45,46,47,48],[6,44,24,25],[5,17,18],[1,3,4,43,42,40,41,49]]) ?s ?h;case h=>exact YA.rr
 exact fun s _=>s
def s249:SFn:=by
 refine(?f:YA.Yt Tryz.prog cf 249 [[4],[],[6,7,8],[9,12,13,14,15,16],[0,1,5,17],[4,17,10,11],[0,1,5]]) ?s ?h;case h=>exact YA.rr
 exact fun s _=>s
def s250:SFn:=by
 refine(?f:YA.Yt Tryz.prog cf 250 [[4],[],[6,7,8],[9,12,13,14,15,16],[0,1,5,17,18],[4,17,10,11],[0,1,5]]) ?s ?h;case h=>exact YA.rr
 exact fun s _=>s
end
end Go.AM.SE
namespace Go.AM.SE
open Go.Proofs Go.AM.SD
variable{v:AV}{k:IntKind}{l:List Int}{a i n:Nat}{f:Nat->Int}{P:Program}{α:Type}
theorem _root_.Go.AM.Zc8{A B}(a:A)(b:B):A/\B:=⟨a,b⟩
theorem _root_.Go.AM.Zc9{A B C}(a:A)(b:B)(c:C):A/\B/\C:=⟨a,b,c⟩
theorem _root_.Go.AM.Zda{A B C D}(a:A)(b:B)(c:C)(d:D):A/\B/\C/\D:=⟨a,b,c,d⟩
theorem _root_.Go.AM.Zdb{A B C D E}(a:A)(b:B)(c:C)(d:D)(e:E):A/\B/\C/\D/\E:=⟨a,b,c,d,e⟩
theorem _root_.Go.AM.Zdc{A B C D E F}(a:A)(b:B)(c:C)(d:D)(e:E)(f:F):A/\B/\C/\D/\E/\F:=⟨a,b,c,d,e,f⟩
theorem _root_.Go.AM.Zdd{A B C D E F G}(a:A)(b:B)(c:C)(d:D)(e:E)(f:F)(g:G):A/\B/\C/\D/\E/\F/\G:=⟨a,b,c,d,e,f,g⟩
theorem _root_.Go.AM.Zde{A B C D E F G H}(a:A)(b:B)(c:C)(d:D)(e:E)(f:F)(g:G)(h:H):A/\B/\C/\D/\E/\F/\G/\H:=⟨a,b,c,d,e,f,g,h⟩
theorem _root_.Go.AM.Zdf{A B C D E F G H I}(a:A)(b:B)(c:C)(d:D)(e:E)(f:F)(g:G)(h:H)(i:I):A/\B/\C/\D/\E/\F/\G/\H/\I:=⟨a,b,c,d,e,f,g,h,i⟩
theorem _root_.Go.AM.Zdg{A B C D E F G H I J}(a:A)(b:B)(c:C)(d:D)(e:E)(f:F)(g:G)(h:H)(i:I)(j:J):A/\B/\C/\D/\E/\F/\G/\H/\I/\J:=⟨a,b,c,d,e,f,g,h,i,j⟩
theorem _root_.Go.AM.Zdh{A B C D E F G H I J K}(a:A)(b:B)(c:C)(d:D)(e:E)(f:F)(g:G)(h:H)(i:I)(j:J)(k:K):A/\B/\C/\D/\E/\F/\G/\H/\I/\J/\K:=⟨a,b,c,d,e,f,g,h,i,j,k⟩
theorem _root_.Go.AM.Zdi{A B C D E F G H I J K L}(a:A)(b:B)(c:C)(d:D)(e:E)(f:F)(g:G)(h:H)(i:I)(j:J)(k:K)(l:L):A/\B/\C/\D/\E/\F/\G/\H/\I/\J/\K/\L:=⟨a,b,c,d,e,f,g,h,i,j,k,l⟩
theorem _root_.Go.AM.Zdj{A B C D E F G H I J K L M}(a:A)(b:B)(c:C)(d:D)(e:E)(f:F)(g:G)(h:H)(i:I)(j:J)(k:K)(l:L)(m:M):A/\B/\C/\D/\E/\F/\G/\H/\I/\J/\K/\L/\M:=⟨a,b,c,d,e,f,g,h,i,j,k,l,m⟩
theorem _root_.Go.AM.Zdk{A B C D E F G H I J K L M N}(a:A)(b:B)(c:C)(d:D)(e:E)(f:F)(g:G)(h:H)(i:I)(j:J)(k:K)(l:L)(m:M)(n:N):A/\B/\C/\D/\E/\F/\G/\H/\I/\J/\K/\L/\M/\N:=⟨a,b,c,d,e,f,g,h,i,j,k,l,m,n⟩
theorem _root_.Go.AM.ZcY{p q:Prop}(k:q)(h:p=q:=by conv=>lhs;simp(disch:=first|omega|exact PairsOK.mk rfl|(simp only[lenW]<;>omega))only[wV,simprocAttr]):p:=h▸k
theorem _root_.Go.AM.ZcZ{p q A:Prop}(a:A)(k:q)(h:A->p=q:=by intro a;conv=>lhs;simp(disch:=first|omega|exact PairsOK.mk rfl|(simp only[lenW]<;>omega))only[a,wV,simprocAttr]):p:=h a▸k
theorem PSpec.weak{f}{args bs}(k:∀(ok:Okc)(c:Ctx ok)(w:World)(vs:List Value),HRel c .e w->VRels c w args vs->VRels c w bs vs)(d:noRefs args=true)(hp:PSpec P f bs v):PSpec P f args v:=by obtain⟨l,b,g,hc,i⟩:=hp;exact⟨d,b,g,hc,fun c w a H h=>i c w a H (k _ c w _ H h)⟩
theorem _root_.Go.AM.au0{p:Prop}(h:p:=by repeat(first|exact ZcA|exact RO.e|refine RO.set rfl ?_)):p:=h
theorem _root_.Go.AM.au1{p:Prop}(h:p:=by repeat'(first|exact ZcD|(refine Zct ?_;first|rfl|(simp only[noRef,noRefs,SD.Qaa,SD.Qab,SD.Qaf,SD.Qag,SD.Qah,SD.Qai,SD.Qaj,SD.Qam,SD.Qan,SD.Qar,Zad,Zae,Zai];done))|exact ZcR rfl|exact ZcJ|exact(True.intro:RnM _ _ _ [] [])|refine ZcK ?_ ?_|(refine Zcs ?_;first|rfl|(simp only[noRef,noRefs,SD.Qaa,SD.Qab,SD.Qaf,SD.Qag,SD.Qah,SD.Qai,SD.Qaj,SD.Qam,SD.Qan,SD.Qar,Zad,Zae,Zai];done))|exact Rn.x1 rfl rfl|exact Rn.x2 rfl rfl|exact Rn.x3 rfl rfl|exact Rn.x4 rfl rfl|exact Rn.x5 rfl|exact Rn.x6 rfl|exact Rn.x7 rfl|refine ZcF rfl rfl ?_|refine ZcE rfl rfl rfl ?_ ?_|refine ZcG rfl rfl rfl ?_ ?_|refine ZcH rfl rfl ?_ ?_|refine ZcI rfl rfl ?_ ?_)):p:=h
theorem _root_.Go.AM.au2{p:Prop}(h:p:=by repeat(first|exact ZcB|(refine ZcC ?_ ?_;·(first|exact Zcr|exact Rn.x1 rfl rfl|exact Rn.x2 rfl rfl|exact Rn.x3 rfl rfl|exact Rn.x4 rfl rfl|exact Rn.x5 rfl|exact Rn.x6 rfl|exact Rn.x7 rfl|(refine ZcN ?_ ?_;(first|rfl|(rw[ZaF];rfl));(first|rfl|(simp only[noRef,noRefs,SD.Qaa,SD.Qab,SD.Qaf,SD.Qag,SD.Qah,SD.Qai,SD.Qaj,SD.Qam,SD.Qan,SD.Qar,Zad,Zae,Zai];done)))|(refine Rn.fn ?_ ?_<;>(repeat'(first|exact ZcJ|refine ZcK ?_ ?_|exact Zcs rfl|exact Rn.x6 rfl|exact Rn.x2 rfl rfl|exact Rn.x5 rfl|exact Rn.x1 rfl rfl))))))):p:=h
theorem has36(l)(n)(m:l.length<=140737488355328):Ps 249 [sli l,.int .i64 n] (.bool (decide (n∈l))):=by
 refine Zcv 64 (Ok s249) rfl (by(try simp only[noRefs,Qaa,Qam,Qag,Qan,Qai,noRef,Zae,Zad])<;>rfl) rfl ?_;unfold s249;refine ZcY ?_;refine QaC 100 (fun i:Nat=>[(0,sli l),(1,.int .i64 n),(5,.int .i64 i)]) (fun _=>[]) (fun i=>i<=l.length/\∀(j:Nat)y,j<i->l[j]?=some y->y≠n) (fun i=>l.length-i) 0 ⟨[],rfl,au0,au1,au2⟩ ⟨Zaj _,fun j y c=>absurd c (Zay _)⟩ ?_;rintro i⟨hi,g⟩;by_cases a:i<l.length
 ·obtain⟨x,d⟩:=Qak a;by_cases b:x=n;·refine ZcZ (Zc9 a (QaF d) b) ?_;refine⟨.inr trivial,_,rfl,?_⟩;have:n∈l:=b▸Zaa d;simp[resOf,Qbb,this]
  refine ZcZ (Zc9 a (QaF d) b) ?_;refine⟨i+1,by omega,⟨by omega,fun j y c f=>?_⟩,⟨[],rfl,au0,au1,au2⟩⟩;by_cases e:j=i;·subst e;rw[d]at f;cases f;exact b
  exact g j y (by omega) f
 have :n∉l:=fun h=>by obtain⟨j,c,k⟩:=Qec h;exact g j n (by omega) c rfl
 refine ZcZ a ?_;exact⟨.inr trivial,_,rfl,by simp[resOf,Qbb,this]⟩
def indexR(l:List Int)(n:Int):Int:=if n∈l then(l.findIdx (·==n):Int)else-1
theorem index70(l)(n)(o:l.length<=140737488355328):Ps 152 [sli l,.int .i64 n] (.int .i64 (indexR l n)):=by
 refine Zcv 64 (Ok s152) rfl (by(try simp only[noRefs,Qaa,Qam,Qag,Qan,Qai,noRef,Zae,Zad])<;>rfl) rfl ?_;unfold s152;refine ZcY ?_;refine QaC 100 (fun i:Nat=>[(0,sli l),(1,.int .i64 n),(7,.int .i64 l.length),(8,.int .i64 i)]) (fun _=>[]) (fun i=>i<=l.length/\∀(j:Nat)y,j<i->l[j]?=some y->y≠n) (fun i=>l.length-i) 0 ⟨[],rfl,au0,au1,au2⟩ ⟨Zaj _,fun j y d=>absurd d (Zay _)⟩ ?_;rintro i⟨hi,f⟩;by_cases a:i<l.length
 ·obtain⟨x,c⟩:=Qak a;by_cases b:n=x
  ·refine ZcZ (Zc9 a (QaF c) b) ?_;refine⟨.inr trivial,_,rfl,?_⟩;have h1:n∈l:=b▸Zaa c;have k:l.findIdx (·==n)=i:=by rw[Zca a];refine⟨by rw[Zak a]at c;cases c;simp[b],fun j d=>?_⟩;have:=f j l[j] d (Zak (by omega));simpa using this
   subst b;simp only[indexR,if_pos h1,k];rfl
  refine ZcZ (Zc9 a (QaF c) b) ?_;refine⟨i+1,by omega,⟨by omega,fun j y d g=>?_⟩,⟨[],rfl,au0,au1,au2⟩⟩;by_cases e:j=i;·subst e;rw[c]at g;cases g;exact fun e=>b e.symm
  exact f j y (by omega) g
 have :n∉l:=fun h=>by obtain⟨j,d,m⟩:=Qec h;exact f j n (by omega) d rfl
 refine ZcZ a ?_;exact⟨.inr trivial,_,rfl,by simp only[indexR,if_neg this];rfl⟩
theorem contains62(l)(n)(c:l.length<=140737488355328):Ps 95 [sli l,.int .i64 n] (.bool (decide (n∈l))):=by
 refine Zcv 64 (Ok s95) rfl (by(try simp only[noRefs,Qaa,Qam,Qag,Qan,Qai,noRef,Zae,Zad])<;>rfl) rfl ?_;unfold s95;refine ZcY ?_;refine cp (index70 l n c) ?_;have e:decide (0<=indexR l n)=decide (n∈l):=by
  unfold indexR;by_cases h:n∈l;·rw[if_pos h];simp[h]
  rw[if_neg h];simp[h]
 by_cases h:n∈l
 ·have a:0<=indexR l n:=by rw[decide_eq_decide]at e;exact e.2 h
  refine ZcZ a ?_;exact⟨.inr trivial,_,rfl,by simp[resOf,Qbb,h]⟩
 have a:¬0<=indexR l n:=by rw[decide_eq_decide]at e;exact fun b=>h (e.1 b)
 refine ZcZ a ?_;exact⟨.inr trivial,_,rfl,by simp[resOf,Qbb,h]⟩
theorem Qdf(hi:i<=k.bits):aBin .shr (.int k (a:Int)) (.int .i64 (i:Int))=some (.int k ((a/2^i:Nat):Int)):=by
 have h1:¬(i:Int)<0:=by omega
 simp only[aBin,if_neg h1];have b:min (i:Int).toNat k.bits=i:=by simp;omega
 rw[b];have:(2:Int)^i=((2^i:Nat):Int):=by norm_cast
 rw[this,Int.fdiv_eq_ediv_of_nonneg _ (ZaV _)];norm_cast
theorem and1(n a:Nat)(d:0<n):(BitVec.ofInt n (a:Int)&&&BitVec.ofInt n 1).toNat=a%2:=by
 rw[BitVec.toNat_and,BitVec.toNat_ofInt,BitVec.toNat_ofInt];have h1:((a:Int)%((2^n:Nat):Int)).toNat=a%2^n:=by norm_cast
 have b:((1:Int)%((2^n:Nat):Int)).toNat=1:=by
  have:1%2^n=1:=Nat.mod_eq_of_lt (Nat.one_lt_two_pow (by omega));have c:((1:Int)%((2^n:Nat):Int))=((1%2^n:Nat):Int):=by norm_cast
  rw[c,this];rfl
 rw[h1,b,Nat.and_one_is_mod,Nat.mod_mod_of_dvd _ ⟨2^(n-1),by rw[<-Nat.pow_succ'];congr 1;omega⟩]
theorem Qdg:aBin .and (.int .u8 (a:Int)) (.int .u8 1)=some (.int .u8 ((a%2:Nat):Int)):=by simp only[aBin,if_true];rw[show IntKind.u8.bits=8 from rfl,and1 8 a (by omega),wr_u8 (by omega) (by omega)]
theorem Qeu{s}:(((s/2^i%2:Nat):Int)=1)↔s.testBit i=true:=by rw[Nat.testBit_eq_decide_div_mod_eq,decide_eq_true_eq];omega
theorem Qed{n b:Nat}:SD.part (i+1) b=SD.part i b++if b.testBit i=true then[i]else[]:=by unfold SD.part;rw[ZaK,Zbj];congr 1;by_cases h:b.testBit i=true<;>simp[h]
theorem QdQ{i b}:(SD.part i b).length<=i:=by unfold SD.part;exact ZaC (Za4 _ _) (by simp)
theorem events16(s:Nat)(hs:s<256):Ps 90 [.int .u8 s] (ZN (SD.part 5 s)):=by
 refine Zcu 64 (Ok s90) rfl (by(try simp only[noRefs,Qaa,Qam,Qag,Qan,Qai,noRef,Zae,Zad])<;>rfl) (Qab _) ?_;unfold s90;refine ZcY ?_;refine QaC 100 (fun i:Nat=>[(0,.int .u8 s),(3,.sl 50 0 0 (SD.part i s).length 1),(4,.int .i64 i)]) (fun i=>[(50,.cells 0 (ZI (nz (SD.part i s))))]) (fun i=>i<=5) (fun i=>5-i) 0 ⟨[(50,.nil)],rfl,au0,au1,au2⟩ (Zaj _) ?_;rintro i hi;have hpl:=@QdQ i s;by_cases hlt:i<5
 ·have hlt2:(i:Int)<5:=by omega
  by_cases h0:s.testBit i=true;·have hb:=Qeu.2 h0;have hp:=Qed (n:=5) (b:=s) (i:=i);rw[if_pos h0]at hp;simp(disch:=first|omega|(simp only[lenW]<;>omega))only[hlt2,Qdf (k:=.u8) (show i<=8 by omega),Qdg,hb,wV,simprocAttr];refine⟨i+1,by omega,by omega,?_⟩;rw[hp,QaM,QaB,Zag];exact⟨[(50,.blk 50 1)],rfl,au0,au1,au2⟩
  ·have hb:¬((s/2^i%2:Nat):Int)=1:=fun e=>h0 (Qeu.1 e);have hp:=Qed (n:=5) (b:=s) (i:=i);rw[if_neg h0,Zas]at hp;simp(disch:=first|omega|(simp only[lenW]<;>omega))only[hlt2,Qdf (k:=.u8) (show i<=8 by omega),Qdg,hb,wV,simprocAttr];refine⟨i+1,by omega,by omega,?_⟩;rw[hp];exact⟨[(50,.blk 50 0)],rfl,au0,au1,au2⟩
 ·have hlt2:¬(i:Int)<5:=by omega
  have e:i=5:=by omega
  subst e;refine ZcZ hlt2 ?_;refine⟨.inr trivial,_,rfl,?_⟩;exact ZcM rfl (by simp[ZI]) (Zct (Qaa _))
def SetOk(l:List Int)(n:Int):Prop:=(∀x∈l,0<=x/\x<n)/\l.Pairwise (·<·)
theorem SetOk.up{n}(h:SetOk l n){x y}(b:l[i]?=some x)(c:l[i+1]?=some y):x<y:=by obtain⟨h1,f⟩:=Zaf.1 b;obtain⟨a,d⟩:=Zaf.1 c;have:=Za0.1 h.2 i (i+1) h1 a (by omega);rw[f,d]at this;exact this
theorem SetOk.nz{l}(h1:∀x∈l,x<n)(b:l.Pairwise (·<·)):SetOk (nz l) n:=by
 refine⟨fun x c=>?_,?_⟩;·obtain⟨a,d,rfl⟩:=Zaq.1 c;have:=h1 a d;omega
 rw[Zbr];exact b.imp fun h=>by omega
theorem set49(l)(n)(q:l.length<=140737488355328)(h:SetOk l n):Ps 132 [sli l,.int .i64 n] (.int .i64 0):=by
 refine Zcv 64 (Ok s132) rfl (by(try simp only[noRefs,Qaa,Qam,Qag,Qan,Qai,noRef,Zae,Zad])<;>rfl) rfl ?_;unfold s132;refine ZcY ?_;refine QaC 100 (fun i:Nat=>[(0,sli l),(1,.int .i64 n),(7,sli l),(8,.int .i64 l.length),(9,.int .i64 i)]) (fun _=>[]) (fun i=>i<=l.length) (fun i=>l.length-i) 0 ⟨[],rfl,au0,au1,au2⟩ (Zaj _) ?_;rintro i hi;by_cases a:i<l.length
 ·obtain⟨x,d⟩:=Qak a;obtain⟨h1,t⟩:=h.1 x (Zaa d);have c:¬x<0:=by omega
  have b:¬n<=x:=by omega
  by_cases p:i=0
  ·have f:¬(0:Int)<(i:Int):=by omega
   refine ZcZ (Zdb a (QaF d) c b f) ?_;exact⟨i+1,by omega,by omega,⟨[],rfl,au0,au1,au2⟩⟩
  obtain⟨y,k⟩:=Qak (l:=l) (i:=i-1) (by omega);have s:=h.up k (by rw[show i-1+1=i by omega];exact d);have g:¬x<=y:=by omega
  have f:(0:Int)<(i:Int):=by omega
  have o:(i:Int)-1=((i-1:Nat):Int):=by omega
  have m:((i-1:Nat):Int)<l.length:=by omega
  refine ZcZ (Zdf a (QaF d) c b f o m (QaF k) g) ?_;exact⟨i+1,by omega,by omega,⟨[],rfl,au0,au1,au2⟩⟩
 refine ZcZ a ?_;exact⟨.inr trivial,_,rfl,rfl⟩
structure EgsOk(a:Au):Prop where
 len:a.es.length<=140737488355328
 all:a.al.length<=140737488355328
 fr:∀e∈a.es,0<=e.fr/\e.fr<a.n
 to:∀e∈a.es,0<=e.to/\e.to<a.n
 ev:∀e∈a.es,e.ev∈a.al
 up:a.es.Pairwise fun x y=>x.fr<y.fr\/(x.fr=y.fr/\x.ev<y.ev)
theorem EgsOk.step{a}(h:EgsOk a){x y}(c:a.es[i]?=some x)(d:a.es[i+1]?=some y):x.fr<y.fr\/(x.fr=y.fr/\x.ev<y.ev):=by obtain⟨h1,g⟩:=Zaf.1 c;obtain⟨b,f⟩:=Zaf.1 d;have:=Za0.1 h.up i (i+1) h1 b (by omega);rw[g,f]at this;exact this
theorem edges50(a)(h:EgsOk a):Ps 133 [auV a] (.int .i64 0):=by
 refine Zcv 64 (Ok s133) rfl (by(try simp only[noRefs,Qaa,Qam,Qag,Qan,Qai,noRef,Zae,Zad])<;>rfl) rfl ?_;have z:=h.len;unfold s133;refine ZcY ?_;refine QaC 100 (fun i:Nat=>[(1,.ptr 50 0 0),(7,egs a.es),(8,.int .i64 a.es.length),(9,.int .i64 i)]) (fun _=>[(50,.cells 0 [sli a.al,.int .i64 a.n,sli a.ms,egs a.es])]) (fun i=>i<=a.es.length) (fun i=>a.es.length-i) 0 ⟨[(50,.blk 64 0)],rfl,au0,au1,au2⟩ (Zaj _) ?_;rintro i hi;by_cases b:i<a.es.length
 ·obtain⟨x,c⟩:=Qak b;have hm:=Zaa c;obtain⟨B,A⟩:=h.fr x hm;obtain⟨w,E⟩:=h.to x hm;have n:¬x.fr<0:=by omega
  have l:¬a.n<=x.fr:=by omega
  have p:¬x.to<0:=by omega
  have g:¬a.n<=x.to:=by omega
  have k:decide (x.ev∈a.al)=true:=decide_eq_true (h.ev x hm);refine ZcZ (Zdc b (QdO c) n l p g) ?_;refine cp (contains62 a.al x.ev h.all) ?_;rw[k];by_cases C:i=0
  ·have d:(i:Int)=0:=by omega
   refine ZcZ (Zc9 b (QdO c) d) ?_;exact⟨1,by omega,by omega,⟨[(50,.blk 50 0)],rfl,au0,au1,au2⟩⟩
  obtain⟨y,m⟩:=Qak (l:=a.es) (i:=i-1) (by omega);have d:¬(i:Int)=0:=by omega
  have s:(i:Int)-1=((i-1:Nat):Int):=by omega
  have q:((i-1:Nat):Int)<a.es.length:=by omega
  rcases h.step m (by rw[show i-1+1=i by omega];exact c)with t|⟨t,v⟩
  ·have f:¬x.fr<y.fr:=by omega
   have o:¬x.fr=y.fr:=by omega
   refine ZcZ (Zde b (QdO c) d s q (QdO m) f o) ?_;exact⟨i+1,by omega,by omega,⟨[(50,.blk 50 0)],rfl,au0,au1,au2⟩⟩
  have f:¬x.fr<y.fr:=by omega
  have o:x.fr=y.fr:=by omega
  have u:¬x.ev<=y.ev:=by omega
  refine ZcZ (Zdf b (QdO c) d s q (QdO m) f o u) ?_;exact⟨i+1,by omega,by omega,⟨[(50,.blk 50 0)],rfl,au0,au1,au2⟩⟩
 refine ZcZ b ?_;exact⟨.inr trivial,_,rfl,rfl⟩
structure AuOk(a:Au):Prop extends EgsOk a where
 alS:SetOk a.al 32
 msS:SetOk a.ms a.n
 mslen:a.ms.length<=140737488355328
 n0:0<=a.n
 nm:a.n<=4096
theorem check37(a)(h:AuOk a):Ps 66 [auV a] (.int .i64 0):=by
 refine Zcv 64 (Ok s66) rfl (by(try simp only[noRefs,Qaa,Qam,Qag,Qan,Qai,noRef,Zae,Zad])<;>rfl) rfl ?_;have h1:¬a.n<0:=by have:=h.n0;omega
 have b:¬4096<a.n:=by have:=h.nm;omega
 unfold s66;refine ZcY ?_;refine cp (set49 a.al 32 h.all h.alS) ?_;refine ZcZ (Zc8 h1 b) ?_;refine cp (set49 a.ms a.n h.mslen h.msS) ?_;refine ZcY ?_;refine cp (edges50 a h.toEgsOk) ?_;refine ZcY ?_;exact⟨.inr trivial,_,rfl,rfl⟩
def fe(f:Nat->Int):Nat->Int|0=>0|n+1=>if fe f n=0 then f n else fe f n
theorem Qfv:∀{n:Nat},(∀j,j<n->f j=0)->fe f n=0|0,_=>rfl|n+1,h=>by rw[fe,if_pos (Qfv fun j a=>h j (by omega))];exact h n (Nat.lt_succ_self n)
theorem fe_at{e}(hf:f i=e)(he:e≠0)(a:∀j,j<i->f j=0):∀{n:Nat},i<n->fe f n=e
 |0,h=>absurd h (Zay _)|n+1,h=>by
  rw[fe];by_cases b:i=n;·subst b;rw[if_pos (Qfv a)];exact hf
  have :=fe_at hf he a (n:=n) (by omega);rw[if_neg (by rw[this];exact he)];exact this
theorem fe_up(a:∀j,j<i->f j=0)(h:f i=0):∀j,j<i+1->f j=0:=fun j b=>by
 by_cases e:j=i;·subst e;exact h
 exact a j (by omega)
theorem Qaw{l:List α}{x d}(h:l[i]?=some x):l.getD i d=x:=by rw[Zah,h];rfl
end Go.AM.SE
namespace Go.AM.SO
open Go.Proofs Go.AM.SD Go.AM.SE
variable{t:List Int}{x:List UInt8×Int}{i:Nat}
structure Bxn where
 lo:List Int
 hi:List Int
variable{b:Bxn}{l:List Bxn}
structure Gdn where
 ev:Int
 bs:List Bxn
def bxC(b:Bxn):List AV:=[sli b.lo,sli b.hi]
abbrev bxV(b:Bxn):AV:=.agg [sli b.lo,sli b.hi]
abbrev bxsV(l:List Bxn):AV:=.fsl (l.flatMap bxC) l.length 2
def gdC(g:Gdn):List AV:=[.int .i64 g.ev,bxsV g.bs]
abbrev gdV(g:Gdn):AV:=.agg [.int .i64 g.ev,bxsV g.bs]
abbrev gdsV(l:List Gdn):AV:=.fsl (l.flatMap gdC) l.length 2
theorem QaD(l:List Bxn):noRefs (l.flatMap bxC)=true:=Qa6 (fun x=>by simp only[bxC,noRefs,noRef,Qaa];rfl) l
theorem Qcb(l):noRef (bxsV l)=true:=by simp only[noRef];exact QaD l
theorem QaP(l:List Gdn):noRefs (l.flatMap gdC)=true:=Qa6 (fun x=>by simp only[gdC,noRefs,noRef,QaD];rfl) l
theorem Qbj(l):noRef (gdsV l)=true:=by simp only[noRef];exact QaP l
theorem QbF(l:List Bxn):(l.flatMap bxC).length=l.length*2:=Qbg (k:=2) (fun _=>rfl) l
theorem Qjs(l:List Gdn):(l.flatMap gdC).length=l.length*2:=Qbg (k:=2) (fun _=>rfl) l
theorem Qhh{x}(h:l[i]?=some x):(l.flatMap bxC).drop (i*2)=sli x.lo::sli x.hi::(l.drop (i+1)).flatMap bxC:=Qbi (f:=bxC) (k:=2) (fun _=>rfl) h
theorem QdR{l:List Gdn}{x}(h:l[i]?=some x):(l.flatMap gdC).drop (i*2)=.int .i64 x.ev::bxsV x.bs::(l.drop (i+1)).flatMap gdC:=Qbi (f:=gdC) (k:=2) (fun _=>rfl) h
def vrC(x:List UInt8×Int):List AV:=[.str x.1,.int .i64 0,.int .i64 x.2,.int .i64 0]
abbrev vrsV(l:List (List UInt8×Int)):AV:=.fsl (l.flatMap vrC) l.length 4
theorem Qaz(l:List (List UInt8×Int)):noRefs (l.flatMap vrC)=true:=Qa6 (fun x=>rfl) l
theorem QaO(l):noRef (vrsV l)=true:=by simp only[noRef];exact Qaz l
theorem QgP(l:List (List UInt8×Int)):(l.flatMap vrC).length=l.length*4:=Qbg (k:=4) (fun _=>rfl) l
theorem QcB{l:List (List UInt8×Int)}(h:l[i]?=some x):(l.flatMap vrC).drop (i*4)=.str x.1::.int .i64 0::.int .i64 x.2::.int .i64 0::(l.drop (i+1)).flatMap vrC:=Qbi (f:=vrC) (k:=4) (fun _=>rfl) h
abbrev vr0:List UInt8×Int:=([],0)
abbrev bx0:Bxn:=⟨[],[]⟩
abbrev gd0:Gdn:=⟨0,[]⟩
def vrE(v:List (List UInt8×Int))(b:Bxn)(j:Nat):Int:=if b.lo.getD j 0<0\/(v.getD j vr0).2<b.hi.getD j 0\/b.hi.getD j 0<b.lo.getD j 0 then 2 else 0
def bxE(v:List (List UInt8×Int))(b:Bxn):Int:=if b.lo.length=v.length/\b.hi.length=v.length then fe (vrE v b) v.length else 4
def bxsE(v:List (List UInt8×Int))(l:List Bxn):Int:=fe (fun i=>bxE v (l.getD i bx0)) l.length
def gdE(ct:Nat->Bool)(v:List (List UInt8×Int))(first:Bool)(y x:Gdn):Int:=if x.ev<0\/5<=x.ev then 2 else if ct x.ev.toNat=false then 11 else if first=false/\x.ev<=y.ev then 5 else bxsE v x.bs
def gdsE(ct:Nat->Bool)(v:List (List UInt8×Int))(l:List Gdn):Int:=fe (fun i=>gdE ct v (decide (i=0)) (l.getD (i-1) gd0) (l.getD i gd0)) l.length
def BxOk(v:List (List UInt8×Int))(b:Bxn):Prop:=b.lo.length=v.length/\b.hi.length=v.length/\∀(j:Nat)x,v[j]?=some x->0<=b.lo.getD j 0/\b.lo.getD j 0<=b.hi.getD j 0/\b.hi.getD j 0<=x.2
def inB(b:Bxn)(t:List Int):Bool:=(List.range t.length).all fun j=>decide (b.lo.getD j 0<=t.getD j 0)&&decide (t.getD j 0<=b.hi.getD j 0)
def inBs(l:List Bxn)(t:List Int):Bool:=l.any fun b=>inB b t
theorem Qe8{j}{x}(a:t[j]?=some x)(h:x<b.lo.getD j 0\/b.hi.getD j 0<x):inB b t=false:=by unfold inB;rw[List.all_eq_false];refine⟨j,Zau.2 (Zaf.1 a).1,?_⟩;rw[Qaw a];simp only[Zac,decide_eq_true_eq];omega
theorem QiB(h:∀(j:Nat)x,t[j]?=some x->b.lo.getD j 0<=x/\x<=b.hi.getD j 0):inB b t=true:=by unfold inB;rw[ZaH];intro j a;have:=h j _ (Zak (Zau.1 a));rw[Qaw (Zak (Zau.1 a))];simp only[Zac,decide_eq_true_eq];exact this
theorem Qjt(h:∀(j:Nat)x,l[j]?=some x->inB x t=false):inBs l t=false:=by unfold inBs;rw[ZbB];intro b a;obtain⟨i,hi,rfl⟩:=ZaO a;rw[h i _ (Zak hi)];decide
theorem QrM{j:Nat}{x}(a:l[j]?=some x)(h:inB x t=true):inBs l t=true:=by unfold inBs;exact Za8.2 ⟨x,Zaa a,h⟩
structure GdsR(l:List Gdn):Prop where
 len:l.length<=9223372036854775807
 bl:∀g∈l,g.bs.length<=9223372036854775807
 ll:∀g∈l,∀b∈g.bs,b.lo.length<=9223372036854775807/\b.hi.length<=9223372036854775807
end Go.AM.SO
namespace Go.AM.UK
open Go.Proofs
set_option maxHeartbeats 4000000
noncomputable section
def cf:YA.Cf:={most:=.pure,always:=[16,84,130,158,182,203].map fun k=>(k,.heap),value:=.pure}
def s10:SFn:=by
 refine(?f:YA.Yt Tryz.prog cf 10 [[0,3],[1,5,6],[4,7,8,9,10]]) ?s ?h;case h=>exact YA.rr
 exact fun s _=>s
def s12:SFn:=by
 refine(?f:YA.Yt Tryz.prog cf 12 [[0,2],[],[1,6,7,8,9,10,11,12],[],[13,14,15],[16,19,20,21,22,23,24,25,26,27,28,29,30,31,32,33,34],[17,18],[3,4,5,35]] [(5,[(0,2),(0,5),(3,5)])]) ?s ?h;case h=>exact YA.rr
 exact fun s _=>s
def s19:SFn:=by
 refine(?f:YA.Yt Tryz.prog cf 19 [[0,5,6],[8,9,10],[11],[1,2,12,13,14],[5,12,16,17,15,18,19],[20],[1,2,7,21,22,23],[6,1,2,7,21,25,26,27,28,24,29,30],[31,32]]) ?s ?h;case h=>exact YA.rr
 exact fun s _=>s
def s23:SFn:=by
 refine(?f:YA.Yt Tryz.prog cf 23 [[0,4],[19,20,21],[22],[1,2,5,23,24],[4,5,23,26,27,25,28,29,30],[31],[1,2,6,7,8,32,33],[4,8,32,34,35,36],[1,2,6,7,37],[4,37,39,40,38,41,42,43,10],[44],[1,2,6,7,9,8,45,46],[4,2,8,45,48,49,50,51,47,52,53],[7,11,54,55,56,57],[1,6,9,12,58],[4,9,58,59,60,61,62,63],[12],[],[67,68,69],[],[],[73,74,75],[18,76,77,78,79,80,81,82,83,84,85,92,93],[1,6,13,14,64,65,66,98,94,97,95,96,91,90,86,87,89,88,16,70,71,72,99],[4,99,100],[16,70,71,72,101],[1,6,13,14,64,65,66,98,94,97,95,96,91,90,86,87,89,88]]) ?s ?h;case h=>exact YA.rr
 exact fun s _=>s
def s35:SFn:=by
 refine(?f:YA.Yt Tryz.prog cf 35 [[0,4],[1,2,8,9,10,7,11,12,5],[6,13]]) ?s ?h;case h=>exact YA.rr
 exact fun s _=>s
def s43:SFn:=by
 refine(?f:YA.Yt Tryz.prog cf 43 [[0,2],[],[1,6,7],[],[8,9,10],[11,14,15,16,17,18,19,20,21],[12,13],[3,4,5,22]]) ?s ?h;case h=>exact YA.rr
 exact fun s _=>s
def s44:SFn:=by
 refine(?f:YA.Yt Tryz.prog cf 44 [[0,2,3],[9,10],[11],[1,4,12,13],[2,3,1,4,12,14,15],[],[],[],[19,20,21],[8,22,23,24,25,26],[27],[5,6,16,17,18,28],[2,3,28,29],[5,6,16,17,18,30]]) ?s ?h;case h=>exact YA.rr
 exact fun s _=>s
def s65:SFn:=by
 refine(?f:YA.Yt Tryz.prog cf 65 [[0,1,4],[2,3,5,6,7,8]]) ?s ?h;case h=>exact YA.rr
 exact fun s _=>s
def s71:SFn:=by
 refine(?f:YA.Yt Tryz.prog cf 71 [[0,4,5],[12,13,11,14,15],[16],[1,2,6,7,17,18],[4,5,7,17],[],[22,23,24,25],[27,28,29,30,37],[1,2,6,19,20,21,59,52,58,57,56,53,55,54,51,36,32,35,34,33,31,9,8,26],[26,39,40,41,42,43,44,45,46],[1,2,6,19,20,21,59,52,58,57,56,53,55,54,51,36,32,35,34,33,31,9,8,38],[8,38,48,49,50,60],[1,2,6,19,20,21,59,52,58,57,56,53,55,54,51,36,32,35,34,33,31,9,47],[4,5,9,47,61,62,63,64],[65],[1,2,6,19,20,21,59,52,58,57,56,53,55,54,51,36,32,35,34,33,31,10,66,67],[4,5,10,66,68],[1,2,6,19,20,21,59,52,58,57,56,53,55,54,51,36,32,35,34,33,31,69]]) ?s ?h;case h=>exact YA.rr
 exact fun s _=>s
def s84:SFn:=by
 refine(?f:YA.Yt Tryz.prog cf 84 [[4],[6],[],[9,10],[11,12,13,14,15],[0,1,7,8,5,16,17],[4,5,16,18],[0,1,7,8]]) ?s ?h;case h=>exact YA.rr
 exact fun s _=>s
def s99:SFn:=by
 refine(?f:YA.Yt Tryz.prog cf 99 [[0,2],[],[1,6,7,8,9,10],[],[14,15,16],[5,17,18,19,20,21,22,23,24,25,26],[27],[3,11,12,13,28]]) ?s ?h;case h=>exact YA.rr
 exact fun s _=>s
def s130:SFn:=by
 refine(?f:YA.Yt Tryz.prog cf 130 [[4],[0,1,5,6,7,8]]) ?s ?h;case h=>exact YA.rr
 exact fun s _=>s
def s131:SFn:=by
 refine(?f:YA.Yt Tryz.prog cf 131 [[0,3],[1],[],[9,10,11,12],[4,5,13,14,15,16,17,18,19,20],[2,6,7,8,27,21,26,25,23,24,22,28],[3,28,29],[2,6,7,8,27,21,26,25,23,24,22]]) ?s ?h;case h=>exact YA.rr
 exact fun s _=>s
def s139:SFn:=by
 refine(?f:YA.Yt Tryz.prog cf 139 [[4],[1],[],[12,13,14],[15,16,17,18,19,20,21],[0,9,10,11,65,59,64,63,61,62,60,58,56,57,55,52,49,51,50,48,46,47,45,27,24,26,25,23,22,6,28],[4,28],[],[32,33,34,35],[8,7,36,37,38,39,40,41,42,43,44,53,54],[0,9,10,11,65,59,64,63,61,62,60,58,56,57,55,52,49,51,50,48,46,47,45,27,24,26,25,23,22,6,29,30,31,66],[4,66,67],[6,29,30,31,68],[0,9,10,11,65,59,64,63,61,62,60,58,56,57,55,52,49,51,50,48,46,47,45,27,24,26,25,23,22]]) ?s ?h;case h=>exact YA.rr
 exact fun s _=>s
def s158:SFn:=by
 refine(?f:YA.Yt Tryz.prog cf 158 [[2],[],[],[],[12,13,14],[5,15,16,17,18],[19],[20,21],[20,22],[3,9,10,11,23,24],[0],[],[28,29,30],[8,31,32,33],[34],[6,25,26,27,35]]) ?s ?h;case h=>exact YA.rr
 exact fun s _=>s
def s182:SFn:=by
 refine(?f:YA.Yt Tryz.prog cf 182 [[4],[6],[],[9,10],[11,12,13,14,15],[0,1,7,8,5,16,17],[4,5,16,18],[0,1,7,8]]) ?s ?h;case h=>exact YA.rr
 exact fun s _=>s
def s203:SFn:=by
 refine(?f:YA.Yt Tryz.prog cf 203 [[4],[5],[6,7],[6,8,9,10,11,12,13,14],[15],[1,16,17,18,19,20,21,22,23,24,25],[0,1,16,26]]) ?s ?h;case h=>exact YA.rr
 exact fun s _=>s
end
end Go.AM.UK
namespace Go.AM.SO
open Go.Proofs Go.AM.SD Go.AM.SE
theorem _root_.Go.AM.Zc6{p q:Prop}(k:q)(h:p=q:=by conv=>lhs;simp(disch:=first|omega|exact PairsOK.mk rfl|(simp only[lenW]<;>omega))only[wW,wV,simprocAttr]):p:=h▸k
theorem _root_.Go.AM.Zc7{p q A:Prop}(a:A)(k:q)(h:A->p=q:=by intro a;conv=>lhs;simp(disch:=first|omega|exact PairsOK.mk rfl|(simp only[lenW]<;>omega))only[a,wW,wV,simprocAttr]):p:=h a▸k
theorem cpcP{P}{N}{r}{dead}{fs}{n}{T}{h}{Q}{d}{f}{args a c}{v}(hp:PSpec P f (a++args++c) v)(k:wR P N r dead fs (n+1) (putD T d v) h Q):wCall P N .pure (.fn f a c) args d r dead fs n T h Q:=⟨v,by simpa using hp,k⟩
theorem _root_.Go.AM.au3{p:Prop}(h:p:=by repeat'(first|exact ZcD|(refine Zct ?_;first|rfl|(simp only[noRef,noRefs,SD.Qaa,SD.Qab,SD.Qaf,SD.Qag,SD.Qah,SD.Qai,SD.Qaj,SD.Qam,SD.Qan,SD.Qar,SO.QaD,SO.QaP,SO.Qaz,Zad,Zae,Zai];done))|exact ZcR rfl|exact ZcJ|exact(True.intro:RnM _ _ _ [] [])|refine ZcK ?_ ?_|(refine Zcs ?_;first|rfl|(simp only[noRef,noRefs,SD.Qaa,SD.Qab,SD.Qaf,SD.Qag,SD.Qah,SD.Qai,SD.Qaj,SD.Qam,SD.Qan,SD.Qar,SO.QaD,SO.QaP,SO.Qaz,Zad,Zae,Zai];done))|exact Rn.x1 rfl rfl|exact Rn.x2 rfl rfl|exact Rn.x3 rfl rfl|exact Rn.x4 rfl rfl|exact Rn.x5 rfl|exact Rn.x6 rfl|exact Rn.x7 rfl|refine ZcF rfl rfl ?_|refine ZcE rfl rfl rfl ?_ ?_|refine ZcG rfl rfl rfl ?_ ?_|refine ZcH rfl rfl ?_ ?_|refine ZcI rfl rfl ?_ ?_)):p:=h
theorem _root_.Go.AM.au4{p:Prop}(h:p:=by repeat(first|exact ZcB|(refine ZcC ?_ ?_;·(first|exact Zcr|exact Rn.x1 rfl rfl|exact Rn.x2 rfl rfl|exact Rn.x3 rfl rfl|exact Rn.x4 rfl rfl|exact Rn.x5 rfl|exact Rn.x6 rfl|exact Rn.x7 rfl|(refine ZcN ?_ ?_;(first|rfl|(rw[ZaF];rfl));(first|rfl|(simp only[noRef,noRefs,SD.Qaa,SD.Qab,SD.Qaf,SD.Qag,SD.Qah,SD.Qai,SD.Qaj,SD.Qam,SD.Qan,SD.Qar,SO.QaD,SO.QaP,SO.Qaz,Zad,Zae,Zai];done)))|(refine Rn.fn ?_ ?_<;>(repeat'(first|exact ZcJ|refine ZcK ?_ ?_|exact Zcs rfl|exact Rn.x6 rfl|exact Rn.x2 rfl rfl|exact Rn.x5 rfl|exact Rn.x1 rfl rfl))))))):p:=h
theorem within131(b)(t)(h1:b.lo.length=t.length)(s:b.hi.length=t.length)(u:t.length<=9223372036854775807):Ps 131 [bxV b,.fptr [sli t]] (.bool (inB b t)):=by
 refine Zcv 64 (Ok UK.s131) rfl (by simp only[noRefs,noRef,Qaa];rfl) rfl ?_;unfold UK.s131;refine Zc6 ?_;refine QaC 100 (fun i:Nat=>[(6,sli t),(2,.ptr 51 0 0),(7,.int .i64 t.length),(8,.int .i64 i)]) (fun _=>[(51,.cells 0 [sli b.lo,sli b.hi])]) (fun i=>i<=t.length/\∀(j:Nat)x,j<i->t[j]?=some x->b.lo.getD j 0<=x/\x<=b.hi.getD j 0) (fun i=>t.length-i) 0 ⟨[(51,.blk 64 0)],rfl,au0,au3,au4⟩ ⟨Zaj _,fun j x o=>absurd o (Zay _)⟩ ?_;rintro i⟨hi,m⟩;by_cases a:i<t.length
 ·obtain⟨x,g⟩:=Qak a;obtain⟨p,hp⟩:=Qak (l:=b.lo) (i:=i) (by omega);obtain⟨q,h⟩:=Qak (l:=b.hi) (i:=i) (by omega);have d:i<b.lo.length:=by omega
  have c:i<b.hi.length:=by omega
  have l:b.lo.getD i 0=p:=Qaw hp;have n:b.hi.getD i 0=q:=Qaw h;by_cases k:x<p;·refine Zc7 (Zdd a d c (QaF g) (QaF hp) (QaF h) k) ?_;exact⟨.inr trivial,_,rfl,by rw[Qe8 g (.inl (by rw[l];exact k))];rfl⟩
  by_cases b2:q<x;·refine Zc7 (Zde a d c (QaF g) (QaF hp) (QaF h) k b2) ?_;exact⟨.inr trivial,_,rfl,by rw[Qe8 g (.inr (by rw[n];exact b2))];rfl⟩
  refine Zc7 (Zde a d c (QaF g) (QaF hp) (QaF h) k b2) ?_;refine⟨i+1,by omega,⟨by omega,fun j y o f=>?_⟩,⟨[(51,.blk 51 0)],rfl,au0,au3,au4⟩⟩;by_cases e:j=i;·subst e;rw[g]at f;cases f;rw[l,n];omega
  exact m j y (by omega) f
 exact bBgPw
theorem index182(l)(t)(u:l.length<=9223372036854775807)(s:∀b∈l,b.lo.length=t.length/\b.hi.length=t.length)(q:t.length<=9223372036854775807):∃k:Int,(decide (0<=k)=inBs l t)/\Ps 182 [bxsV l,.fn 131 [] [.fptr [sli t]]] (.int .i64 k):=by
 refine⟨if inBs l t then(l.findIdx fun b=>inB b t:Int)else-1,?_,?_⟩;·cases inBs l t with|true=>simp|false=>rfl
 refine Zcv 64 (Ok UK.s182) rfl (by simp only[noRefs,noRef,Qaa,QaD];rfl) rfl ?_;unfold UK.s182;refine Zc6 ?_;refine QaC 100 (fun i:Nat=>[(0,bxsV l),(1,.fn 131 [] [.fptr [sli t]]),(7,.int .i64 l.length),(8,.int .i64 i)]) (fun _=>[]) (fun i=>i<=l.length/\∀(j:Nat)x,j<i->l[j]?=some x->inB x t=false) (fun i=>l.length-i) 0 ⟨[],rfl,au0,au3,au4⟩ ⟨Zaj _,fun j x m=>absurd m (Zay _)⟩ ?_;rintro i⟨hi,hc⟩;by_cases a:i<l.length
 ·obtain⟨b,h⟩:=Qak a;have c:=Qhh h;have f:2<=((l.flatMap bxC).drop (i*2)).length:=by rw[c];simp
  obtain⟨p,o⟩:=s b (Zaa h);have hw:=within131 b t p o q
  cases g:inB b t with|true=>
   rw[g]at hw;refine Zc7 (Zc9 a c f) ?_;refine cpcP hw ?_;refine Zc6 ?_;refine⟨.inr trivial,_,rfl,?_⟩;have hf:l.findIdx (fun b=>inB b t)=i:=by have n:l[i]=b:=(Zaf.1 h).2;refine(Zca a).2 ⟨by rw[n];exact g,fun j m=>?_⟩;exact hc j _ m (Zak (by omega))
   rw[if_pos (QrM h g),hf];rfl|false=>
   rw[g]at hw;refine Zc7 (Zc9 a c f) ?_;refine cpcP hw ?_;refine Zc6 ?_;refine⟨i+1,by omega,⟨by omega,fun j y m d=>?_⟩,⟨[],rfl,au0,au3,au4⟩⟩;by_cases e:j=i;·subst e;rw[h]at d;cases d;exact g
   exact hc j y (by omega) d
 refine Zc7 a ?_;refine⟨.inr trivial,_,rfl,?_⟩;rw[if_neg (by rw[Qjt fun j y d=>hc j y (by have:=(Zaf.1 d).1;omega) d];decide)];rfl
theorem contains130(l)(t)(f:l.length<=9223372036854775807)(c:∀b∈l,b.lo.length=t.length/\b.hi.length=t.length)(g:t.length<=9223372036854775807):Ps 130 [bxsV l,.fn 131 [] [.fptr [sli t]]] (.bool (inBs l t)):=by
 obtain⟨k,d,hi⟩:=index182 l t f c g;refine Zcv 64 (Ok UK.s130) rfl (by simp only[noRefs,noRef,Qaa,QaD];rfl) rfl ?_;generalize inBs l t=B at*;subst d;unfold UK.s130;refine Zc6 ?_;refine ch (ZcQ (Zcz _) hi rfl) ?_;by_cases a:0<=k;·refine Zc7 a ?_;exact⟨.inr trivial,_,rfl,rfl⟩
 refine Zc7 a ?_;exact⟨.inr trivial,_,rfl,rfl⟩
theorem permits65(g)(t)(d:g.bs.length<=9223372036854775807)(a:∀b∈g.bs,b.lo.length=t.length/\b.hi.length=t.length)(c:t.length<=9223372036854775807):Ps 65 [gdV g,sli t] (.bool (inBs g.bs t)):=by have hi:=contains130 g.bs t d a c;refine Zcv 64 (Ok UK.s65) rfl (by simp only[noRefs,noRef,Qaa,QaD];rfl) rfl ?_;generalize inBs g.bs t=B at*;unfold UK.s65;refine Zc6 ?_;refine ch (ZcQ (ZcT (Zcy _) (ZcT (FrzTo.fn ZcS (ZcT (ZcP gg (Zcz _)) ZcS)) ZcS)) hi rfl) ?_;refine Zc6 ?_;exact⟨.inr trivial,_,rfl,rfl⟩
end Go.AM.SO
namespace Go.AM.SK
open Go.Proofs
set_option maxHeartbeats 4000000
noncomputable section
def cf:YA.Cf:={}
noncomputable def ft:FT2:=YA.tre Tryz.prog cf 20 [45,52,64,66,77,78,83,86,91,95,98,100,101,102,113,114,115,116,117,129,132,133,144,147,148,149,151,152,154,155,156,157,159,160,161,162,163,164,165,169,170,171,172,173,174,175,179,183,188,191,192,193,194,195,196,197,198,199,200,201,202,204,205,206,216,217,218,219,220,221,222,223,224,234,236,239,245,251,252,253,254,259,260,261,262,263,264,265,266,267,276,277,278,279,283]
theorem ft_ok:ft.OK Tryz.prog:=YA.QgH _ _ (YA.QfR (by kernel_rfl))
end
end Go.AM.SK
