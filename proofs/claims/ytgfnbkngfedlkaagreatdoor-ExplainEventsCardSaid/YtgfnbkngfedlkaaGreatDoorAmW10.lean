/- Lemmas on the way to ExplainEventsCardSaid. Conditions: none of ours. -/
import Derived.Test.YtgfnbkngfedlkaaGreatDoorProg
import Derived.KernelRfl
import Derived.Test.YtgfnbkngfedlkaaGreatDoorAmW9
set_option linter.unusedSectionVars false
set_option maxHeartbeats 32000000
set_option maxRecDepth 100000
set_option linter.unusedVariables false
set_option linter.unusedSimpArgs false
namespace Go.AM
abbrev Pq:=PSpec Go.Proofs.Tryz.prog
noncomputable abbrev Kq:=okFn Go.Proofs.Tryz.prog
end Go.AM
namespace Go.AM.XA
open Go.Proofs
set_option maxHeartbeats 4000000
noncomputable section
def cf:YA.Cf:={most:=.pure,always:=[46,146,220].map fun k=>(k,.heap),value:=.pure}
def s22:SFn:=by
 refine(?f:YA.Yt Tryz.prog cf 22 [[0,7],[1,12,13,14,11,15,16,17],[18],[2,3,8,9,10,19,20,21],[7,3,10,19,22,23,24,25,26,27,28,29],[2,8,9,30,31],[2,8,9,30,32,33,34,35]]) ?s ?h;case h=>exact YA.rr
 exact fun s _=>s
def s26:SFn:=by
 refine(?f:YA.Yt Tryz.prog cf 26 [[0,4,5],[1,13,14,15,12,16,17,18],[19],[2,6,7,8,20,21],[4,5,8,20],[2,22,23],[],[26,27],[28,29,30,31],[11,32,33,34,35],[10,39,40,41,42,43],[10,39,44],[6,7,9,24,25,38,37,36,45]]) ?s ?h;case h=>exact YA.rr
 exact fun s _=>s
def s78:SFn:=by
 refine(?f:YA.Yt Tryz.prog cf 78 [[0,4,5,6],[2,15,16,14,17,18],[20,21],[1,7,8,19,22],[8,19,24,25,26,27,28,29,30],[1,7,23],[23,32,33,34],[1,7,31],[4,5,6,31,36,37,38,39,40,41,42,35,43,44,10],[9,45],[1,7,46],[4,5,6,1,46,48,49,50,51,52,53,54,47,55,56,57,12,13],[7,11,58,59,60,61,62,63,64,65,66]]) ?s ?h;case h=>exact YA.rr
 exact fun s _=>s
def s79:SFn:=by
 refine(?f:YA.Yt Tryz.prog cf 79 [[],[13,14],[15,16,17,18,19,20,21],[],[22,24,25,26,27,28,29,30,31,32,33,34,35,36,37,23,38,39,40],[8,22,41],[0,1,2,42,43],[7,44],[42,45,46,47,48],[49],[0,1,2,9,50,51,52,53],[7,54],[2,9,50,56,57,58,59,60,61,62,63,55,64,65,66,11,12],[67,68,69],[0,1,7,10,70,71,72,73,74],[0,1,10,70,75,76,77],[7,78]]) ?s ?h;case h=>exact YA.rr
 exact fun s _=>s
def s80:SFn:=by
 refine(?f:YA.Yt Tryz.prog cf 80 [[0,2,3],[13,14,12,15,16,17],[18],[1,4,5,6,19,20],[2,3,19,22,23,21,24,25,26,8],[27],[1,4,5,6,7,28,29],[2,3,4,6,7,28,30,31,32,33,34,35,36],[1,38,39,40,41,37,42,43,44,45],[5,46,47],[],[51,52,53],[11,54,55,56,57,58,59,60],[61],[9,48,49,50,62]]) ?s ?h;case h=>exact YA.rr
 exact fun s _=>s
def s81:SFn:=by
 refine(?f:YA.Yt Tryz.prog cf 81 [[4],[0,1,8,9,10,11,12,13,7,14,15,5],[6,16,17]]) ?s ?h;case h=>exact YA.rr
 exact fun s _=>s
def s82:SFn:=by
 refine(?f:YA.Yt Tryz.prog cf 82 [[],[1,9,10,11],[2,13,14,15,12,16,17,18,19],[20,21,22,23,24,25,26,27],[28,29,30],[31,32,33,34,35,36,37,38],[0,8,39,40,41,42,43,44,45,46,47],[7,0,31,48]]) ?s ?h;case h=>exact YA.rr
 exact fun s _=>s
def s141:SFn:=by
 refine(?f:YA.Yt Tryz.prog cf 141 [[0,6,7,8],[9,10,11],[12],[1,2,3,13,14],[8,6,7,13,15,16],[1,2,3,17],[8,1,2,3,17,19,20,21,22,18,23,24],[25,26]]) ?s ?h;case h=>exact YA.rr
 exact fun s _=>s
def s144:SFn:=by
 refine(?f:YA.Yt Tryz.prog cf 144 [[6],[12,13,14,15],[],[19,20,21,22],[23,24,25,26,27],[8,28,30,31,32,33,34,35,36,37,38,39,40,41,42,43,44,29,45,46,47,9,11],[10,48],[0,1,2,16,17,18,7,49,50],[6,7,49,51],[0,1,2,16,17,18]]) ?s ?h;case h=>exact YA.rr
 exact fun s _=>s
def s145:SFn:=by
 refine(?f:YA.Yt Tryz.prog cf 145 [[5],[19,20,21,22,23,24],[],[25,26,27],[28,32,33,34,35,36,37,38,39,40,41,31,42,43],[9,10,44,45],[0,1,7,48,47,46,49,50],[51,52,53,54,55],[56,62,63,64,65,66,67,68,69],[57,58,59,60,61],[11,70,71],[6,8,72,73,74,75,76,77],[5,49,79,80,81,82,83,84,85,86,87,88,89,78,90,91,13],[12,92,93,94,95,96],[],[100,101,102],[104,105,106,107,108,109,110,111,112,113,114,115,103,116,117,118,17,18],[119,120,121],[15,16,122,123,124,125,126,127,128,129,130,131],[15,16,122,132],[97,98,99,29,30],[0,1,6,7,8,48,47,46,133]] [(17,[(9,13)])]) ?s ?h;case h=>exact YA.rr
 exact fun s _=>s
def s146:SFn:=by
 refine(?f:YA.Yt Tryz.prog cf 146 [[4],[6],[],[9,10],[11,12,13,14,15],[0,1,7,8,5,16,17],[4,5,16,18],[0,1,7,8]]) ?s ?h;case h=>exact YA.rr
 exact fun s _=>s
def s147:SFn:=by
 refine(?f:YA.Yt Tryz.prog cf 147 [[0,3],[1,2,4,5,6,7,8]]) ?s ?h;case h=>exact YA.rr
 exact fun s _=>s
def s217:SFn:=by
 refine(?f:YA.Yt Tryz.prog cf 217 [[3],[0,1,4,5,6,7,8]]) ?s ?h;case h=>exact YA.rr
 exact fun s _=>s
theorem ok22:Kq 22 s22=true:=by kernel_rfl
theorem ok26:Kq 26 s26=true:=by kernel_rfl
theorem ok78:Kq 78 s78=true:=by kernel_rfl
theorem ok79:Kq 79 s79=true:=by kernel_rfl
theorem ok80:Kq 80 s80=true:=by kernel_rfl
theorem ok81:Kq 81 s81=true:=by kernel_rfl
theorem ok82:Kq 82 s82=true:=by kernel_rfl
theorem ok141:Kq 141 s141=true:=by kernel_rfl
theorem ok144:Kq 144 s144=true:=by kernel_rfl
theorem ok145:Kq 145 s145=true:=by kernel_rfl
theorem ok146:Kq 146 s146=true:=by kernel_rfl
theorem ok147:Kq 147 s147=true:=by kernel_rfl
theorem ok217:Kq 217 s217=true:=by kernel_rfl
end
end Go.AM.XA
namespace Go.AM.SD
abbrev Ed:=Nat×Nat×Nat
def Rch(es:List Ed)(mk:List Nat)(left:Nat->Bool):Nat->Nat->Prop|0,x=>left x=true/\x∈mk|d+1,x=>Rch es mk left d x\/(left x=true/\∃e∈es,e.1=x/\Rch es mk left d e.2.2)
structure Dst(es:List Ed)(mk:List Nat)(left:Nat->Bool)(o:Nat->Int):Prop where
 neg:∀x,-1<=o x
 zero:∀x,left x=true->x∈mk->o x=0
 zero':∀x,o x=0->left x=true/\x∈mk
 succ:∀x(d:Nat),o x=(d:Int)+1->left x=true/\∃e∈es,e.1=x/\o e.2.2=(d:Int)edge:∀e∈es,left e.1=true->∀d:Nat,o e.2.2=(d:Int)->0<=o e.1/\o e.1<=(d:Int)+1
theorem Dst.rch{es:List Ed}{mk:List Nat}{left:Nat->Bool}{o:Nat->Int}(h:Dst es mk left o):∀(d x:Nat),Rch es mk left d x↔0<=o x/\o x<=(d:Int):=by
 intro d;induction d with|zero=>
  intro x;constructor;·intro a;have:=h.zero x a.1 a.2;omega
  intro a;exact h.zero' x (by omega)|succ d c=>
  intro x;constructor
  ·rintro(a|⟨b,e,he,rfl,f⟩);·grind
   have h1:=(c _).1 f;obtain⟨k,g⟩:=ZaY h1.1;have:=h.edge e he b k g;omega
  intro a;by_cases i:o x<=(d:Int);·exact .inl ((c x).2 ⟨a.1,i⟩)
  obtain⟨b,e,he,rfl,f⟩:=h.succ x d (by omega);exact .inr ⟨b,e,he,rfl,(c _).2 (by omega)⟩
def InN(n:Nat)(es:List Ed)(mk:List Nat):Prop:=(∀e∈es,e.1<n/\e.2.2<n)/\∀x∈mk,x<n
theorem QfJ{l:List Int}{i j:Nat}{a:Int}(hi:i<l.length):(l.set i a).getD j 0=if j=i then a else l.getD j 0:=by grind
def cntN(n:Nat)(o:List Int):Nat:=(List.range n).countP fun x=>decide (o.getD x 0<0)
def preds(es:List Ed)(v:Nat):List Nat:=(es.filter fun e=>e.2.2==v).map (·.1)
theorem QdP{es:List Ed}{v y:Nat}:y∈preds es v↔∃e∈es,e.1=y/\e.2.2=v:=by simp only[preds,Zan,ZaL,beq_iff_eq];simp_all
abbrev QS:=List Int×List Nat
def bMk(left:Nat->Bool)(s:QS)(x:Nat):QS:=if left x then(s.1.set x 0,s.2++[x])else s
def bMks(n:Nat)(mk:List Nat)(left:Nat->Bool):QS:=mk.foldl (bMk left) (List.replicate n (-1),[])
def bEd(left:Nat->Bool)(v:Nat)(s:QS)(y:Nat):QS:=if left y&&decide (s.1.getD y 0<0)then(s.1.set y (s.1.getD v 0+1),s.2++[y])else s
def bRow(es:List Ed)(left:Nat->Bool)(v:Nat)(s:QS):QS:=(preds es v).foldl (bEd left v) s
def bQ(es:List Ed)(left:Nat->Bool):Nat->Nat->QS->QS|0,_,s=>s|k+1,i,s=>match s.2[i]? with|some v=>bQ es left k (i+1) (bRow es left v s)|none=>s
def pDist(n:Nat)(es:List Ed)(mk:List Nat)(left:Nat->Bool):List Int:=(bQ es left (n+1) 0 (bMks n mk left)).1
structure BI(n:Nat)(es:List Ed)(mk:List Nat)(left:Nat->Bool)(s:QS):Prop where
 len:s.1.length=n
 cnt:cntN n s.1+s.2.length=n
 neg:∀x,x<n->-1<=s.1.getD x 0
 inl:∀x,x∈s.2↔x<n/\0<=s.1.getD x 0
 zero:∀x,x<n->left x=true->x∈mk->s.1.getD x 0=0
 zero':∀x,x<n->s.1.getD x 0=0->left x=true/\x∈mk
 succ:∀x(d:Nat),x<n->s.1.getD x 0=(d:Int)+1->left x=true/\∃e∈es,e.1=x/\s.1.getD e.2.2 0=(d:Int)mono:∀(a b x y:Nat),a<=b->s.2[a]?=some x->s.2[b]?=some y->s.1.getD x 0<=s.1.getD y 0
def Done(es:List Ed)(left:Nat->Bool)(i:Nat)(s:QS):Prop:=∀(a v:Nat),a<i->s.2[a]?=some v->∀e∈es,e.2.2=v->left e.1=true->0<=s.1.getD e.1 0/\s.1.getD e.1 0<=s.1.getD v 0+1
def Near(v:Nat)(s:QS):Prop:=∀x,x∈s.2->s.1.getD x 0<=s.1.getD v 0+1
theorem Qoo{n:Nat}{o:List Int}{y:Nat}{a:Int}(m:o.length=n)(g:y<n)(h:o.getD y 0<0)(p:0<=a):cntN n (o.set y a)+1=cntN n o:=by have d:∀x,(o.set y a).getD x 0=if x=y then a else o.getD x 0:=fun x=>QfJ (by omega);unfold cntN;have c:(List.range n).Nodup:=Zbb;have b:y∈List.range n:=Zat.2 g;generalize List.range n=l at c b;induction l with|nil=>cases b|cons z l i=>
 rw[Zci]at c;rw[Zcf,Zcf,d];by_cases f:z=y
 ·subst f;rw[if_pos rfl,if_neg (by simp;omega),if_pos (by simpa using h)];have:l.countP (fun x=>decide ((o.set z a).getD x 0<0))=l.countP (fun x=>decide (o.getD x 0<0)):=by refine List.countP_congr fun x k=>?_;grind
  rw[this]
 grind
theorem Qop{l:List Nat}{y b z:Nat}(h:(l++[y])[b]?=some z):l[b]?=some z\/(b=l.length/\z=y):=by grind
theorem BI.push{n:Nat}{es:List Ed}{mk:List Nat}{left:Nat->Bool}{s:QS}(h:BI n es mk left s){v y i:Nat}(u:InN n es mk)(H:s.2[i]?=some v)(g:Near v s){e:Ed}(he:e∈es)(J:e.1=y)(C:e.2.2=v)(E:left y=true)(m:s.1.getD y 0<0):BI n es mk left (s.1.set y (s.1.getD v 0+1),s.2++[y])/\Near v (s.1.set y (s.1.getD v 0+1),s.2++[y])/\(s.1.set y (s.1.getD v 0+1)).getD v 0=s.1.getD v 0/\(∀x,x<n->0<=s.1.getD x 0->(s.1.set y (s.1.getD v 0+1)).getD x 0=s.1.getD x 0):=by
 have t:y<n:=by have:=(u.1 e he).1;omega
 have o:=(h.inl v).1 (Zae H);have c:∀x,(s.1.set y (s.1.getD v 0+1)).getD x 0=if x=y then s.1.getD v 0+1 else s.1.getD x 0:=fun x=>QfJ (by grind);have hold:∀x,x<n->0<=s.1.getD x 0->(s.1.set y (s.1.getD v 0+1)).getD x 0=s.1.getD x 0:=fun x f k=>by grind
 have p:=hold v o.1 o.2;have B:y∉s.2:=fun hm=>by have:=((h.inl y).1 hm).2;omega
 refine⟨⟨by simp[h.len],?_,fun x f=>?_,fun x=>?_,fun x f A hm=>?_,fun x f k=>?_,fun x d f k=>?_,fun a b x z r f I=>?_⟩,fun x f=>?_,p,hold⟩;·have h1:=Qoo h.len t m (a:=s.1.getD v 0+1) (by omega);have q:=h.cnt;grind
 ·rw[c];split;·omega
  exact h.neg x f
 ·rw[c,ZaE,Zbd];by_cases f:x=y;·omega
  rw[if_neg f,h.inl x];simp[f]
 ·have :=h.zero x f A hm;grind
 ·rw[c]at k;split at k;·omega
  exact h.zero' x f k
 ·rw[c]at k;split at k;·grind
  obtain⟨A,L,G,q,K⟩:=h.succ x d f k;grind
 ·rcases Qop f with h1|⟨h1,rfl⟩<;>rcases Qop I with q|⟨q,rfl⟩;·have l:=(h.inl x).1 (Zae h1);have w:=(h.inl z).1 (Zae q);rw[hold x l.1 l.2,hold z w.1 w.2];exact h.mono a b x z r h1 q
  ·have l:=(h.inl x).1 (Zae h1);rw[hold x l.1 l.2,c,if_pos rfl];exact g x (Zae h1)
  ·grind
  omega
 rw[p];rcases ZaE.1 f with h1|h1;·have l:=(h.inl x).1 h1;rw[hold x l.1 l.2];exact g x h1
 simp_all
theorem Done.push{n:Nat}{es:List Ed}{mk:List Nat}{left:Nat->Bool}{s:QS}(h:BI n es mk left s){y i:Nat}{o':List Int}(c:InN n es mk)(hi:i<=s.2.length)(k:Done es left i s)(hold:∀x,x<n->0<=s.1.getD x 0->o'.getD x 0=s.1.getD x 0):Done es left i (o',s.2++[y]):=by
 intro a v l m e he f g;have b:s.2[a]?=some v:=by grind
 have:=k a v l b e he f g;have d:=(h.inl v).1 (Zae b);show 0<=o'.getD e.1 0/\o'.getD e.1 0<=o'.getD v 0+1;rw[hold _ (c.1 e he).1 this.1,hold v d.1 d.2];exact this
theorem BI.row{n:Nat}{es:List Ed}{mk:List Nat}{left:Nat->Bool}(a:InN n es mk){v i:Nat}:∀(ys:List Nat)(s:QS),(∀y∈ys,∃e∈es,e.1=y/\e.2.2=v)->BI n es mk left s->s.2[i]?=some v->Near v s->Done es left i s->BI n es mk left (ys.foldl (bEd left v) s)/\(ys.foldl (bEd left v) s).2[i]?=some v/\Near v (ys.foldl (bEd left v) s)/\Done es left i (ys.foldl (bEd left v) s)/\(∀x,x<n->0<=s.1.getD x 0->(ys.foldl (bEd left v) s).1.getD x 0=s.1.getD x 0)/\∀y∈ys,left y=true->0<=(ys.foldl (bEd left v) s).1.getD y 0:=by intro ys;induction ys with|nil=>intro s _ h b m l;exact⟨h,b,m,l,fun _ _ _=>rfl,fun y k=>by cases k⟩|cons y ys u=>
 intro s c h b m l;obtain⟨e,he,k,f⟩:=c y (by simp);have t:y<n:=by have:=(a.1 e he).1;omega
 rw[ZaP];by_cases hc:(left y&&decide (s.1.getD y 0<0))=true
 ·have p:bEd left v s y=(s.1.set y (s.1.getD v 0+1),s.2++[y]):=if_pos hc;simp only[Zaa,decide_eq_true_eq]at hc;obtain⟨h1,r,I,A⟩:=h.push a b m he k f hc.1 hc.2;have w:i<s.2.length:=(Zag.1 b).1;have o:=Done.push (y:=y) h a (by omega) l A;have g:(s.2++[y])[i]?=some v:=by grind
  rw[p];obtain⟨k1,k2,k3,k4,H,J⟩:=u _ (fun z d=>c z (by simp[d])) h1 g r o;refine⟨k1,k2,k3,k4,fun x E C=>?_,fun z d G=>?_⟩;·simp_all
  rcases Zau.1 d with rfl|d
  ·have q:(s.1.set z (s.1.getD v 0+1)).getD z 0=s.1.getD v 0+1:=by rw[QfJ (by grind),if_pos rfl]
   have B:=(h.inl v).1 (Zae b);grind
  simp_all
 have p:bEd left v s y=s:=if_neg hc;simp_all
structure BH(n:Nat)(es:List Ed)(mk:List Nat)(left:Nat->Bool)(i:Nat)(s:QS):Prop where
 bi:BI n es mk left s
 done:Done es left i s
 near:∀v,s.2[i]?=some v->Near v s
 le:i<=s.2.length
theorem BH.step{n:Nat}{es:List Ed}{mk:List Nat}{left:Nat->Bool}(b:InN n es mk){i v:Nat}{s:QS}(h:BH n es mk left i s)(k:s.2[i]?=some v):BH n es mk left (i+1) (bRow es left v s):=by
 obtain⟨k1,k2,k3,k4,w,o⟩:=BI.row b (preds es v) s (fun y p=>QdP.1 p) h.bi k (h.near v k) h.done;have q:i<(bRow es left v s).2.length:=(Zag.1 k2).1;refine⟨k1,fun a u t c e he d l=>?_,fun u c x r=>?_,by omega⟩
 ·by_cases g:a<i;·exact k4 a u g c e he d l
  have :a=i:=by omega
  subst this;have f:u=v:=Option.some.inj (c.symm.trans k2);subst f;have m:=o e.1 (QdP.2 ⟨e,he,rfl,d⟩) l;exact⟨m,k3 e.1 ((k1.inl _).2 ⟨(b.1 e he).1,m⟩)⟩
 have h1:=k3 x r;have d:=k1.mono i (i+1) v u (by omega) k2 c;grind[bRow]
theorem BH.dst{n:Nat}{es:List Ed}{mk:List Nat}{left:Nat->Bool}(c:InN n es mk){i:Nat}{s:QS}(h:BH n es mk left i s)(hi:s.2[i]?=none):Dst es mk left (fun x=>if x<n then s.1.getD x 0 else-1):=by
 have p:s.2.length<=i:=ZbU.1 hi;refine⟨fun x=>?_,fun x g hm=>?_,fun x f=>?_,fun x d f=>?_,fun e he g d f=>?_⟩
 ·split;·rename_i b;exact h.bi.neg x b
  omega
 ·have b:=c.2 x hm;rw[if_pos b];exact h.bi.zero x b g hm
 ·split at f;·rename_i b;exact h.bi.zero' x b f
  omega
 ·split at f;·rename_i b;obtain⟨g,e,he,m,o⟩:=h.bi.succ x d b f;exact⟨g,e,he,m,by rw[if_pos (c.1 e he).2];exact o⟩
  omega
 obtain⟨hf,l⟩:=c.1 e he;rw[if_pos l]at f;rw[if_pos hf];have hm:e.2.2∈s.2:=(h.bi.inl _).2 ⟨l,by omega⟩;obtain⟨a,k⟩:=ZbI hm;have q:a<s.2.length:=(Zag.1 k).1;have:=h.done a e.2.2 (by omega) k e he rfl g;omega
theorem QgF{n:Nat}{es:List Ed}{mk:List Nat}{left:Nat->Bool}(a:InN n es mk):∀(k i:Nat)(s:QS),BH n es mk left i s->n<k+i->(bQ es left k i s).1.length=n/\Dst es mk left (fun x=>if x<n then(bQ es left k i s).1.getD x 0 else-1):=by intro k;induction k with|zero=>intro i s h c;have:=h.bi.cnt;have:=h.le;omega|succ k d=>intro i s h c;unfold bQ;cases b:s.2[i]? with|some v=>exact d (i+1) _ (h.step a b) (by omega)|none=>exact⟨h.bi.len,h.dst a b⟩
theorem Qtc(n:Nat):cntN n (List.replicate n (-1))=n:=by grind[cntN,List.countP_eq_length]
theorem Qef{n:Nat}{es:List Ed}{mk:List Nat}{left:Nat->Bool}(l:InN n es mk)(f:mk.Nodup):BH n es mk left 0 (bMks n mk left):=by
 have key:∀(ms pre:List Nat)(s:QS),(pre++ms).Nodup->(∀x∈pre++ms,x<n)->s.1.length=n->cntN n s.1+s.2.length=n->(∀x,x<n->s.1.getD x 0=if left x&&pre.contains x then 0 else-1)->(∀x,x∈s.2↔left x=true/\x∈pre)->(ms.foldl (bMk left) s).1.length=n/\cntN n (ms.foldl (bMk left) s).1+(ms.foldl (bMk left) s).2.length=n/\(∀x,x<n->(ms.foldl (bMk left) s).1.getD x 0=if left x&&(pre++ms).contains x then 0 else-1)/\(∀x,x∈(ms.foldl (bMk left) s).2↔left x=true/\x∈pre++ms):=by intro ms;induction ms with|nil=>intro pre s _ _ h1 o k i;rw[Zap];exact⟨h1,o,k,i⟩|cons m ms u=>
  intro pre s f g h1 o k i;have r:m<n:=g m (by simp);have B:m∉pre:=fun hm=>by grind
  have e:pre++m::ms=(pre++[m])++ms:=by simp
  rw[e]at f g⊢;rw[ZaP];have A:s.1.getD m 0=-1:=by grind
  by_cases q:left m=true
  ·have p:bMk left s m=(s.1.set m 0,s.2++[m]):=if_pos q;rw[p];refine u (pre++[m]) _ f g (by simp[h1]) ?_ (fun x c=>?_) fun x=>?_;·have :=Qoo h1 r (by omega) (a:=0) (by omega);grind
   ·show(s.1.set m 0).getD x 0=_;rw[QfJ (by omega)];by_cases h:x=m;·grind
    rw[if_neg h,k x c];simp[h]
   show x∈s.2++[m]↔_;rw[ZaE,ZaE,i,Zbd];constructor
   ·rintro(G|rfl);·grind
    grind
   grind
  have p:bMk left s m=s:=if_neg q;rw[p];refine u (pre++[m]) _ f g h1 o (fun x c=>?_) fun x=>?_
  ·rw[k x c];by_cases h:x=m;·grind
   simp[h]
  rw[ZaE,i,Zbd];constructor;·grind
  grind
 obtain⟨h1,o,k,i⟩:=key mk [] (List.replicate n (-1),[]) (by simpa using f) (by simpa using l.2) (by simp) (by rw[Qtc];rfl) (fun x c=>by simp_all) (fun x=>by simp);rw[ZaX]at k i;have H:∀x,x<n->(bMks n mk left).1.getD x 0=0\/(bMks n mk left).1.getD x 0=-1:=fun x c=>by grind[bMks]
 have t:∀x,x∈(bMks n mk left).2->(bMks n mk left).1.getD x 0=0:=fun x c=>by grind[bMks]
 refine⟨⟨h1,o,fun x c=>?_,fun x=>?_,fun x c q hm=>?_,fun x c w=>?_,fun x d c w=>?_,fun a b x y _ z E=>?_⟩,fun a v z=>by omega,fun v C x c=>?_,Zah _⟩;·grind
 ·constructor;·intro c;exact⟨l.2 x ((i x).1 c).2,by simp_all⟩
  grind[bMks]
 ·simp_all[bMks]
 ·simp_all[bMks]
 ·grind
 ·grind
 grind
def bad(left:Nat->Bool)(unc:List Nat)(e:Ed):Bool:=left e.1&&!left e.2.2&&unc.contains e.2.1
def pLs(left:Nat->Bool)(unc:List Nat)(out:List (Nat×Nat))(e:Ed):List (Nat×Nat):=if bad left unc e then(if(match out.getLast? with|some p=>p.1==e.1|none=>false)then out else out++[(e.1,e.2.1)])else out
def pLost(es:List Ed)(left:Nat->Bool)(unc:List Nat):List (Nat×Nat):=es.foldl (pLs left unc) []
def rL1(es:List Ed)(left:Nat->Bool)(unc:List Nat)(st:Nat):Option (Nat×Nat):=if left st then(es.find? fun e=>e.1==st&&!left e.2.2&&unc.contains e.2.1).map fun e=>(st,e.2.1)else none
def rLost(n:Nat)(es:List Ed)(left:Nat->Bool)(unc:List Nat):List (Nat×Nat):=(List.range n).filterMap (rL1 es left unc)
theorem Qqr{l c:List (Nat×Nat)}(h:l.Pairwise fun a b=>a.1<b.1)(h':c.Pairwise fun a b=>a.1<b.1)(hm:∀p,p∈l↔p∈c):l=c:=by induction l generalizing c with
 |nil=>cases c with|nil=>rfl|cons p c=>exact absurd ((hm p).2 (by simp)) (by simp)
 |cons p l d=>cases c with|nil=>exact absurd ((hm p).1 (by simp)) (by simp)|cons q c=>
  rw[Zax]at h h';have e:p=q:=by grind
  subst e;rw[d h.2 h'.2 fun r=>?_];constructor;·grind
  grind
theorem QgG(n:Nat)(es:List Ed)(left:Nat->Bool)(unc:List Nat):(rLost n es left unc).Pairwise fun a b=>a.1<b.1:=by
 unfold rLost;refine List.Pairwise.filterMap _ (R:=(·<·)) ?_ Zb4;intro a b c p hp q d;have h1:∀(st:Nat)(p:Nat×Nat),rL1 es left unc st=some p->p.1=st:=by simp_all[rL1]
 grind
theorem QeQ{n:Nat}{es:List Ed}{left:Nat->Bool}{unc:List Nat}{p:Nat×Nat}:p∈rLost n es left unc↔p.1<n/\rL1 es left unc p.1=some p:=by
 unfold rLost;rw[Zbu];have h1:∀(st:Nat)(p:Nat×Nat),rL1 es left unc st=some p->p.1=st:=by simp_all[rL1]
 grind
theorem QjI{pre:List Ed}{e:Ed}{left:Nat->Bool}{unc:List Nat}(st:Nat):rL1 (pre++[e]) left unc st=match rL1 pre left unc st with|some p=>some p|none=>if e.1==st&&bad left unc e then some (st,e.2.1)else none:=by grind[rL1,bad]
theorem Qqs{left:Nat->Bool}{unc:List Nat}:∀(es2 pre:List Ed)(out:List (Nat×Nat)),(pre++es2).Pairwise (fun a b=>a.1<=b.1)->out.Pairwise (fun a b=>a.1<b.1)->(∀p,p∈out↔rL1 pre left unc p.1=some p)->(∀p∈out,∃e∈pre,e.1=p.1)->(es2.foldl (pLs left unc) out).Pairwise (fun a b=>a.1<b.1)/\∀p,p∈es2.foldl (pLs left unc) out↔rL1 (pre++es2) left unc p.1=some p:=by intro es2;induction es2 with|nil=>intro pre out _ h1 h2 _;rw[Zap];exact⟨h1,h2⟩|cons e es2 ih=>
 intro pre out hs h1 h2 h3;have ea:pre++e::es2=(pre++[e])++es2:=by simp
 rw[ea]at hs⊢;rw[ZaP];have hge:∀p∈out,p.1<=e.1:=fun p hp=>by obtain⟨x,hx,hxe⟩:=h3 p hp;rw[Zbh]at hs;have:=(Zbh.1 hs.1).2.2 x hx e (by simp);omega
 by_cases hb:bad left unc e=true
 ·by_cases hlast:(match out.getLast? with|some p=>p.1==e.1|none=>false)=true
  ·have e1:pLs left unc out e=out:=by grind[pLs]
   rw[e1];refine ih (pre++[e]) out hs h1 (fun p=>?_) fun p hp=>?_;·rw[QjI];cases hr:rL1 pre left unc p.1 with|some q=>rw[h2 p,hr]|none=>
    have hnp:¬p∈out:=fun hp=>by grind
    have hne:(e.1==p.1)=false:=by grind
    simp only[hne,Zcd,Zao,if_false];exact⟨fun hp=>absurd hp hnp,fun h=>by cases h⟩
   obtain⟨x,hx,hxe⟩:=h3 p hp;grind
  have e1:pLs left unc out e=out++[(e.1,e.2.1)]:=by grind[pLs]
  have hlt:∀p∈out,p.1<e.1:=by intro p hp;cases hg:out.getLast? with|none=>rw[List.getLast?_eq_none_iff]at hg;subst hg;cases hp|some q=>
   rw[hg]at hlast;have hqe:q.1≠e.1:=by grind
   have hq:q∈out:=List.mem_of_getLast? hg;have hqle:=hge q hq;obtain⟨init,hi⟩:∃init,out=init++[q]:=by grind[List.getLast?_eq_some_iff]
   rw[hi]at hp h1;rcases ZaE.1 hp with hp|hp;·grind
   grind
  rw[e1];refine ih (pre++[e]) _ hs (Zbh.2 ⟨h1,by simp,fun p hp q hq=>by grind⟩) (fun p=>?_) fun p hp=>?_
  ·rw[QjI,ZaE,Zbd]
   cases hr:rL1 pre left unc p.1 with|some q=>
    have hq1:p.1=q.1:=by
     unfold rL1 at hr;split at hr;·cases hf:pre.find? fun e=>e.1==p.1&&!left e.2.2&&unc.contains e.2.1 with|none=>rw[hf]at hr;cases hr|some e=>rw[hf]at hr;cases hr;rfl
     cases hr
    have hqm:q∈out:=(h2 q).2 (by grind);have hne:p≠(e.1,e.2.1):=by grind
    simp only[hne,or_false];rw[h2 p,hr]|none=>
    have hnp:¬p∈out:=fun hp=>by grind
    simp only[hnp,false_or];by_cases hep:e.1=p.1;·grind
    grind
  rcases ZaE.1 hp with hp|hp;·obtain⟨x,hx,hxe⟩:=h3 p hp;grind
  grind
 have e1:pLs left unc out e=out:=by grind[pLs]
 rw[e1];refine ih (pre++[e]) out hs h1 (fun p=>?_) fun p hp=>?_;·rw[QjI];grind
 obtain⟨x,hx,hxe⟩:=h3 p hp;grind
theorem Qin{n:Nat}{es:List Ed}{left:Nat->Bool}{unc:List Nat}(i:es.Pairwise fun a b=>a.1<=b.1)(d:∀e∈es,e.1<n):pLost es left unc=rLost n es left unc:=by
 obtain⟨h1,c⟩:=Qqs (left:=left) (unc:=unc) es [] [] (by simpa using i) List.Pairwise.nil (fun p=>by simp[rL1]) (fun p hp=>by cases hp);rw[ZaX]at c;refine Qqr h1 (QgG n es left unc) fun p=>?_;rw[QeQ];refine(c p).trans ⟨fun h=>⟨?_,h⟩,fun h=>h.2⟩;unfold rL1 at h;split at h;·cases hf:es.find? fun e=>e.1==p.1&&!left e.2.2&&unc.contains e.2.1 with|none=>rw[hf]at h;cases h|some e=>have g:=Za2 hf;have f:=ZbM hf;simp only[Zaa,beq_iff_eq]at f;have:=d e g;omega
 cases h
structure Rm where
 st:Nat
 rank:Int
 reason:Nat
 ev:Int deriving DecidableEq
def lostF(rank:Int)(l:List (Nat×Nat)):List Rm:=l.map fun p=>⟨p.1,rank,2,(p.2:Int)⟩
def blkF(left:Nat->Bool)(rank:Int)(d:List Int):List Rm:=(List.range d.length).filterMap fun i=>if left i&&decide (d.getD i 0<0)then some ⟨i,rank,3,-1⟩else none
def pNext(n:Nat)(es:List Ed)(mk:List Nat)(left:Nat->Bool)(unc:List Nat)(rank:Int)(all:Bool):List Rm:=if decide (0<(pLost es left unc).length)||!all then lostF rank (pLost es left unc)else blkF left rank (pDist n es mk left)
abbrev LB:=List Bool
def lf(l:LB):Nat->Bool:=fun i=>l.getD i false
def offs(l:LB)(xs:List Nat):LB:=xs.foldl (fun l x=>l.set x false) l
def pRounds(n:Nat)(es:List Ed)(mk:List Nat)(unc:List Nat)(all:Bool):Nat->Nat->LB->List Rm->Nat->LB×List Rm×Nat|0,_,l,rs,k=>(l,rs,k)|f+1,a,l,rs,k=>if(pNext n es mk (lf l) unc a all).length=0 then(l,rs,k)else pRounds n es mk unc all f (a+1) (offs l ((pNext n es mk (lf l) unc a all).map (·.st))) (rs++pNext n es mk (lf l) unc a all) a
def putR(rs:List Rm)(l:List Rm):List Rm:=l.foldl (fun rs x=>rs.set x.st x) rs
def rm0(i:Nat):Rm:=⟨i,1,1,-1⟩
theorem Qio(xs:List Nat):∀l:LB,(offs l xs).length=l.length:=by induction xs with|nil=>intro l;rfl|cons x xs a=>intro l;show(offs (l.set x false) xs).length=_;rw[a];simp
theorem Qcn(xs:List Nat):∀(l:LB)(i:Nat),lf (offs l xs) i=(lf l i&&!xs.contains i):=by induction xs with|nil=>intro l i;simp[offs,lf]|cons x xs a=>
 intro l i;show lf (offs (l.set x false) xs) i=_;rw[a];have:lf (l.set x false) i=(lf l i&&!(i==x)):=by grind[lf]
 rw[this,List.contains_cons];cases lf l i<;>cases(i==x)<;>cases xs.contains i<;>rfl
theorem Qip{n:Nat}{es:List Ed}{mk:List Nat}{left:Nat->Bool}{unc:List Nat}{rank:Int}{all:Bool}(c:InN n es mk)(d:mk.Nodup)(h:es.Pairwise fun a b=>a.1<=b.1):(pNext n es mk left unc rank all).Pairwise (fun a b=>a.st<b.st)/\∀r∈pNext n es mk left unc rank all,r.st<n/\left r.st=true:=by
 have f:(pDist n es mk left).length=n:=(QgF c (n+1) 0 _ (Qef (left:=left) c d) (by omega)).1;unfold pNext;split
 ·unfold lostF;rw[Qin h fun e he=>(c.1 e he).1];constructor;·simp_all[ZbB,QgG]
  intro r g;obtain⟨p,hp,rfl⟩:=Zan.1 g;simp_all[QeQ,rL1]
 unfold blkF;rw[f];constructor;·grind[Zb4]
 grind
def cntL(n:Nat)(l:LB):Nat:=(List.range n).countP fun i=>lf l i
theorem Qoq{n:Nat}{l c:LB}(h:∀i,i<n->lf c i=true->lf l i=true){x:Nat}(g:x<n)(h1:lf l x=true)(o:lf c x=false):cntL n c<cntL n l:=by unfold cntL;have a:x∈List.range n:=Zat.2 g;have b:∀y∈List.range n,lf c y=true->lf l y=true:=fun y f=>h y (Zat.1 f);generalize List.range n=L at a b;induction L with|nil=>cases a|cons y L m=>
 have hle:L.countP (fun x=>lf c x)<=L.countP (fun x=>lf l x):=List.countP_mono_left fun z k d=>b z (by simp[k]) d;rw[Zcf,Zcf];rcases Zau.1 a with e|hm;·grind
 grind
theorem Qc9{xs:List Nat}{r:Nat}(h:r∈xs):xs.contains r=true:=by simpa using h
structure Agr(n:Nat)(l:LB)(rs rr:List Rm):Prop where
 len:rr.length=n
 st:∀(i:Nat)(r:Rm),rr[i]?=some r->r.st=i
 nd:(rs.map (·.st)).Nodup
 mem:∀r:Rm,r∈rs↔r.st<n/\lf l r.st=false/\rr[r.st]?=some r
theorem Qr2(l:List Rm):∀rs,(putR rs l).length=rs.length:=by induction l with|nil=>intro rs;rfl|cons x l a=>intro rs;show(putR (rs.set x.st x) l).length=_;rw[a];simp
theorem Qr3:∀(l:List Rm)(rs:List Rm)(i:Nat),(∀r∈l,r.st<rs.length)->l.Pairwise (fun a b=>a.st<b.st)->(putR rs l)[i]?=match l.find? (fun r=>r.st==i)with|some r=>some r|none=>rs[i]?:=by intro l;induction l with|nil=>intro rs i _ _;rfl|cons x l f=>
 intro rs i c hp;rw[Zax]at hp;show(putR (rs.set x.st x) l)[i]?=_;rw[f _ i (fun r g=>by simp_all) hp.2];have d:=c x (by simp);by_cases e:x.st=i;·grind
 simp_all
theorem Agr.step{n:Nat}{l:LB}{rs rr d:List Rm}(h:Agr n l rs rr)(z:l.length=n)(hp:d.Pairwise fun a b=>a.st<b.st)(hm:∀r∈d,r.st<n/\lf l r.st=true):Agr n (offs l (d.map (·.st))) (rs++d) (putR rr d):=by
 have m:=fun i=>Qr3 d rr i (fun r c=>by rw[h.len];simp_all) hp;have g:∀r∈d,d.find? (fun q=>q.st==r.st)=some r:=by intro r c;cases hf:d.find? (fun q=>q.st==r.st)with|none=>rw[Za6]at hf;exact absurd (hf r c) (by simp)|some q=>
  have o:=Za2 hf;have x:q.st=r.st:=by grind
  have:q=r:=by clear hf m;induction d with|nil=>cases c|cons y d A=>
   rw[Zax]at hp;rcases Zau.1 c with e|p<;>rcases Zau.1 o with v|u;·rw[e,v]
   ·grind
   ·grind
   simp_all
  rw[this]
 refine⟨by rw[Qr2,h.len],fun i r c=>?_,?_,fun r=>?_⟩;·rw[m]at c;cases hf:d.find? (fun q=>q.st==i)with|some q=>rw[hf]at c;cases c;simpa using ZbM hf|none=>rw[hf]at c;exact h.st i r c
 ·rw[ZaK,Zca];refine⟨h.nd,?_,fun a w b s e=>?_⟩;·rw[ZaN,ZbB];exact hp.imp fun h=>by omega
  subst e;obtain⟨r,c,rfl⟩:=Zan.1 w;obtain⟨q,o,t⟩:=Zan.1 s;have h1:=((h.mem r).1 c).2.1;grind
 rw[ZaE,Qcn,m];constructor
 ·rintro(c|c);·obtain⟨h1,k,f⟩:=(h.mem r).1 c;grind
  grind
 rintro⟨h1,k,f⟩;cases hf:d.find? (fun q=>q.st==r.st)with|some q=>rw[hf]at f;cases f;exact .inr (Za2 hf)|none=>
  rw[hf]at f;refine .inl ((h.mem r).2 ⟨h1,?_,f⟩);have:(d.map (·.st)).contains r.st=false:=by simp_all
  rw[this]at k;simpa using k
structure Rgt(n:Nat)(es:List Ed)(mk:List Nat)(forb unc:List Nat)(S:Nat->Bool):Prop where
 lt:∀x,S x=true->x<n
 forb:∀x,S x=true->x∉forb
 ctl:∀e∈es,S e.1=true->e.2.1∈unc->S e.2.2=true
 nb:∀x,S x=true->∃d,Rch es mk S d x
theorem QeR{n:Nat}{es:List Ed}{mk:List Nat}{left:Nat->Bool}(a:InN n es mk)(c:mk.Nodup){x:Nat}(i:x<n):0<=(pDist n es mk left).getD x 0↔∃d,Rch es mk left d x:=by
 obtain⟨h1,b⟩:=QgF a (n+1) 0 _ (Qef (left:=left) a c) (by omega);have b:Dst es mk left (fun x=>if x<n then(pDist n es mk left).getD x 0 else-1):=b;constructor;·intro h;obtain⟨k,g⟩:=ZaY h;exact⟨k,(b.rch k x).2 (by omega)⟩
 rintro⟨d,f⟩;have:=(b.rch d x).1 f;omega
theorem Qqt{n:Nat}{es:List Ed}{left:Nat->Bool}{unc:List Nat}(d:es.Pairwise fun a b=>a.1<=b.1)(f:∀e∈es,e.1<n){p:Nat×Nat}(hp:p∈pLost es left unc):∃e∈es,e.1=p.1/\left e.1=true/\left e.2.2=false/\e.2.1∈unc:=by
 rw[Qin d f]at hp;obtain⟨_,h⟩:=QeQ.1 hp;unfold rL1 at h;split at h;·rename_i i;cases hf:es.find? fun e=>e.1==p.1&&!left e.2.2&&unc.contains e.2.1 with|none=>rw[hf]at h;cases h|some e=>have g:=Za2 hf;have c:=ZbM hf;simp only[Zaa,beq_iff_eq,Zbx,ZaG]at c;exact⟨e,g,c.1.1,by simp_all,c.1.2,c.2⟩
 cases h
theorem Qqu{n:Nat}{es:List Ed}{left:Nat->Bool}{unc:List Nat}(i:es.Pairwise fun a b=>a.1<=b.1)(g:∀e∈es,e.1<n)(h:pLost es left unc=[]):∀e∈es,left e.1=true->e.2.1∈unc->left e.2.2=true:=by intro e he f k;rw[Qin i g]at h;cases c:left e.2.2 with|true=>rfl|false=>
 exfalso;have hex:∃p,rL1 es left unc e.1=some p/\p.1=e.1:=by unfold rL1;rw[if_pos f];cases hf:es.find? fun x=>x.1==e.1&&!left x.2.2&&unc.contains x.2.1 with|none=>rw[Za6]at hf;have:=hf e he;simp[c,k]at this|some x=>exact⟨_,rfl,rfl⟩
 obtain⟨p,hp,d⟩:=hex;have:p∈rLost n es left unc:=QeQ.2 ⟨by grind,by simp_all⟩;rw[h]at this;cases this
theorem Qpo{n:Nat}{es:List Ed}{mk:List Nat}{unc:List Nat}{all:Bool}(d:InN n es mk)(g:mk.Nodup)(q:es.Pairwise fun a b=>a.1<=b.1):∀(f rank:Nat)(l:LB)(rs:List Rm)(k:Nat),cntL n l<f->(∀x,lf (pRounds n es mk unc all f rank l rs k).1 x=true->lf l x=true)/\∃c:Nat,pNext n es mk (lf (pRounds n es mk unc all f rank l rs k).1) unc c all=[]:=by intro f;induction f with|zero=>intro rank l rs k h;omega|succ f s=>
 intro rank l rs k h;unfold pRounds;split;·grind
 rename_i o;obtain⟨r,m⟩:∃r,r∈pNext n es mk (lf l) unc rank all:=by cases hp:pNext n es mk (lf l) unc rank all with|nil=>rw[hp]at o;exact absurd rfl o|cons r _=>exact⟨r,by simp⟩
 obtain⟨h1,p⟩:=(Qip (left:=lf l) (unc:=unc) (rank:=rank) (all:=all) d g q).2 r m;have t:cntL n (offs l ((pNext n es mk (lf l) unc rank all).map (·.st)))<cntL n l:=by
  refine Qoq (fun i _ hi=>?_) h1 p ?_;·simp_all[Qcn]
  rw[Qcn,Qc9 (Zan.2 ⟨r,m,rfl⟩)];simp
 obtain⟨k1,k2⟩:=s (rank+1) (offs l ((pNext n es mk (lf l) unc rank all).map (·.st))) (rs++pNext n es mk (lf l) unc rank all) rank (by omega);simp_all[Qcn]
def left0(n:Nat)(forb:List Nat):LB:=offs (List.replicate n true) forb
theorem QeG{n:Nat}{forb:List Nat}{x:Nat}:lf (left0 n forb) x=true↔x<n/\x∉forb:=by grind[left0,Qcn,lf]
def fin(n:Nat)(es:List Ed)(mk:List Nat)(forb unc:List Nat)(all:Bool):LB×List Rm×Nat:=pRounds n es mk unc all (n+1) 2 (left0 n forb) (forb.map rm0) (if forb.length=0 then 0 else 1)
theorem Qor{n:Nat}{es:List Ed}{mk:List Nat}{forb unc:List Nat}(c:InN n es mk)(g:mk.Nodup)(o:es.Pairwise fun a b=>a.1<=b.1):Rgt n es mk forb unc (lf (fin n es mk forb unc true).1):=by
 have hc:cntL n (left0 n forb)<n+1:=by grind[cntL,Zb0]
 obtain⟨h1,d,i⟩:=Qpo (unc:=unc) (all:=true) c g o (n+1) 2 (left0 n forb) (forb.map rm0) (if forb.length=0 then 0 else 1) hc;have hf:=fun x f=>QeG.1 (h1 x f);replace i:pNext n es mk (lf (fin n es mk forb unc true).1) unc d true=[]:=i;have h:pLost es (lf (fin n es mk forb unc true).1) unc=[]:=by cases hp:pLost es (lf (fin n es mk forb unc true).1) unc with|nil=>rfl|cons p l=>unfold pNext at i;rw[hp]at i;simp[lostF]at i
 have m:blkF (lf (fin n es mk forb unc true).1) d (pDist n es mk (lf (fin n es mk forb unc true).1))=[]:=by simp_all[pNext]
 refine⟨fun x f=>(hf x f).1,fun x f=>(hf x f).2,fun e he=>Qqu o (fun e he=>(c.1 e he).1) h e he,fun x f=>?_⟩;have k:=(hf x f).1;refine(QeR c g k).1 ?_;have q:(pDist n es mk (lf (fin n es mk forb unc true).1)).length=n:=(QgF c (n+1) 0 _ (Qef c g) (by omega)).1;simp_all[blkF]
structure Aut where
 al:List Nat
 n:Nat
 ms:List Nat
 es:List Ed
structure WfA(a:Aut):Prop where
 al:a.al.Pairwise (·<·)al5:∀x∈a.al,x<32
 n5:a.n<=4096
 ms:a.ms.Pairwise (·<·)msn:∀x∈a.ms,x<a.n
 es:a.es.Pairwise fun x y=>x.1<y.1\/(x.1=y.1/\x.2.1<y.2.1)esn:∀e∈a.es,e.1<a.n/\e.2.2<a.n
 ev:∀e∈a.es,e.2.1∈a.al
theorem WfA.inN{a:Aut}(h:WfA a):InN a.n a.es a.ms:=⟨h.esn,h.msn⟩
theorem WfA.nd{a:Aut}(h:WfA a):a.ms.Nodup:=by rw[ZaN];exact h.ms.imp fun h=>by omega
theorem WfA.srt{a:Aut}(h:WfA a):a.es.Pairwise fun x y=>x.1<=y.1:=h.es.imp fun h=>by omega
def stepA(es:List Ed)(s ev:Nat):Option Nat:=(es.find? fun e=>e.1==s&&e.2.1==ev).map (·.2.2)
def fEv(es:List Ed)(s:Nat)(out:List Nat)(ev:Nat):List Nat:=match stepA es s ev with|some to=>if out.contains to then out else out++[to]|none=>out
def fRow(al:List Nat)(es:List Ed)(s:Nat)(out:List Nat):List Nat:=al.foldl (fEv es s) out
def fQ(al:List Nat)(es:List Ed):Nat->Nat->List Nat->List Nat|0,_,out=>out|k+1,i,out=>match out[i]? with|some s=>fQ al es k (i+1) (fRow al es s out)|none=>out
def found(a:Aut):List Nat:=fQ a.al a.es (a.n+1) 0 (if 0<a.n then[0]else[])
def idx(l:List Nat)(x:Nat):Nat:=l.findIdx (·==x)
def cRow(a:Aut)(f:List Nat)(i s:Nat):List Ed:=a.al.filterMap fun ev=>(stepA a.es s ev).map fun to=>(i,ev,idx f to)
def cRows(a:Aut)(f:List Nat):List Ed:=(List.range f.length).flatMap fun i=>cRow a f i (f.getD i 0)
def canon(a:Aut):Aut:=⟨a.al,(found a).length,(List.range (found a).length).filter fun i=>a.ms.contains ((found a).getD i 0),cRows a (found a)⟩
theorem Qcu{n:Nat}{es:List Ed}(a:∀e∈es,e.1<n/\e.2.2<n){s ev to:Nat}(h:stepA es s ev=some to):to<n:=by unfold stepA at h;cases hf:es.find? fun e=>e.1==s&&e.2.1==ev with|none=>rw[hf]at h;cases h|some e=>rw[hf]at h;cases h;exact(a e (Za2 hf)).2
structure FI(n:Nat)(out:List Nat):Prop where
 nd:out.Nodup
 lt:∀x∈out,x<n
theorem QaQ:∀(n:Nat)(l:List Nat),l.Nodup->(∀x∈l,x<n)->l.length<=n
 |0,l,_,h=>by cases l with|nil=>exact ZaM _|cons x l=>have:=h x (by simp);omega
 |n+1,l,a,h=>by
  by_cases hm:n∈l
  ·have h1:=QaQ n (l.erase n) (a.erase n) fun x b=>by grind
   simp_all
  have :=QaQ n l a fun x b=>by grind
  omega
theorem FI.len{n:Nat}{out:List Nat}(h:FI n out):out.length<=n:=QaQ n out h.nd h.lt
theorem FI.row{n:Nat}{es:List Ed}(g:∀e∈es,e.1<n/\e.2.2<n)(s:Nat):∀(al:List Nat)(out:List Nat),FI n out->FI n (al.foldl (fEv es s) out)/\(∃t,al.foldl (fEv es s) out=out++t)/\∀ev∈al,∀to,stepA es s ev=some to->to∈al.foldl (fEv es s) out:=by intro al;induction al with|nil=>intro out h;exact⟨h,⟨[],by simp⟩,fun ev f=>by cases f⟩|cons ev al i=>
 intro out h;rw[ZaP];have h1:FI n (fEv es s out ev)/\(∃t,fEv es s out ev=out++t)/\∀to,stepA es s ev=some to->to∈fEv es s out ev:=by unfold fEv;cases l:stepA es s ev with|none=>exact⟨h,⟨[],by simp⟩,fun to d=>by cases d⟩|some to=>
  dsimp only;split;·simp_all
  rename_i hc;refine⟨⟨?_,fun x c=>?_⟩,⟨[to],rfl⟩,fun t d=>by cases d;simp⟩;·rw[Zca];refine⟨h.nd,by simp,fun a q b r e=>?_⟩;simp_all
  rcases ZaE.1 c with c|c;·exact h.lt x c
  simp at c;subst c;exact Qcu g l
 obtain⟨k1,⟨t,k2⟩,k3⟩:=h1;obtain⟨k,⟨m,p⟩,o⟩:=i _ k1;refine⟨k,⟨t++m,by simp_all⟩,fun e he to d=>?_⟩;rcases Zau.1 he with rfl|he;·grind
 grind
theorem fQ_ok{n:Nat}{al:List Nat}{es:List Ed}(v:∀e∈es,e.1<n/\e.2.2<n):∀(k i:Nat)(out:List Nat),FI n out->i<=out.length->n<k+i->(∀j s,j<i->out[j]?=some s->∀ev∈al,∀to,stepA es s ev=some to->to∈out)->FI n (fQ al es k i out)/\(∃t,fQ al es k i out=out++t)/\∀s∈fQ al es k i out,∀ev∈al,∀to,stepA es s ev=some to->to∈fQ al es k i out:=by intro k;induction k with|zero=>intro i out h hi g _;have:=h.len;omega|succ k m=>intro i out h hi g u;unfold fQ;cases f:out[i]? with|none=>have c:out.length<=i:=ZbU.1 f;refine⟨h,⟨[],by simp⟩,fun s hm ev a to d=>?_⟩;have hm:s∈out:=hm;obtain⟨j,b⟩:=ZbI hm;have r:j<out.length:=(Zag.1 b).1;exact u j s (by omega) b ev a to d|some s=>
 dsimp only;obtain⟨k1,⟨t,k2⟩,k3⟩:=FI.row v s al out h;have c:i<out.length:=(Zag.1 f).1;have k2:fRow al es s out=out++t:=k2;obtain⟨o,⟨q,x⟩,p⟩:=m (i+1) (fRow al es s out) k1 (by grind) (by omega) fun j w b l ev a to d=>by grind
 exact⟨o,⟨t++q,by simp_all⟩,p⟩
theorem QfK{a:Aut}(c:∀e∈a.es,e.1<a.n/\e.2.2<a.n):FI a.n (found a)/\(∃t,found a=(if 0<a.n then[0]else[])++t)/\∀s∈found a,∀ev∈a.al,∀to,stepA a.es s ev=some to->to∈found a:=by
 refine fQ_ok c (a.n+1) 0 _ ?_ (Zah _) (by omega) fun j s f=>by omega
 split;·rename_i d;exact⟨by simp,fun x b=>by simp_all⟩
 exact⟨by simp,fun x b=>by cases b⟩
theorem Qi3{l:List Nat}{x:Nat}(h:x∈l):idx l x<l.length:=Zbn ⟨x,h,by simp⟩
theorem Qtd{l:List Nat}{x:Nat}(h:x∈l):l[idx l x]?=some x:=by have h1:=Qi3 h;rw[Zal h1];have:=Zcc (p:=(·==x)) (w:=h1);exact congrArg some (by simp_all:l[List.findIdx (·==x) l]'h1=x)
theorem QcN{l:List Nat}{f:Nat->List Ed}{R:Ed->Ed->Prop}(h1:∀i∈l,(f i).Pairwise R)(a:l.Pairwise fun i j=>∀x∈f i,∀y∈f j,R x y):(l.flatMap f).Pairwise R:=by grind
theorem Qr4{a:Aut}(g:a.al.Pairwise (·<·))(t:∀x∈a.al,x<32)(l:a.n<=4096)(u:∀e∈a.es,e.1<a.n/\e.2.2<a.n):WfA (canon a):=by
 obtain⟨h1,_,w⟩:=QfK u;have b:∀i s,∀e∈cRow a (found a) i s,e.1=i/\e.2.1∈a.al/\(s∈found a->e.2.2<(found a).length):=by intro i s e he;obtain⟨ev,d,hm⟩:=Zbu.1 he;cases c:stepA a.es s ev with|none=>rw[c]at hm;cases hm|some to=>rw[c]at hm;cases hm;exact⟨rfl,d,fun o=>Qi3 (w s o ev d to c)⟩
 have f:∀i,i<(found a).length->(found a).getD i 0∈found a:=fun i hi=>by simp_all
 refine⟨g,t,Zaw h1.len l,?_,fun x r=>?_,?_,fun e he=>?_,fun e he=>?_⟩;·exact List.pairwise_lt_range.filter _
 ·have :=(ZaL.1 r).1;exact Zat.1 this
 ·refine QcN (fun i hi=>?_) (List.pairwise_lt_range.imp fun v x r y B=>.inl ?_);·refine List.Pairwise.filterMap _ (R:=(·<·)) ?_ g;intro x y m p hp q k;cases c:stepA a.es ((found a).getD i 0) x with|none=>rw[c]at hp;cases hp|some to=>cases h:stepA a.es ((found a).getD i 0) y with|none=>rw[h]at k;cases k|some to2=>rw[c]at hp;rw[h]at k;cases hp;cases k;exact .inr ⟨rfl,m⟩
  grind
 ·obtain⟨i,hi,he⟩:=ZbD.1 he;have hi:=Zat.1 hi;obtain⟨z,_,A⟩:=b _ _ e he;exact⟨by rw[z];exact hi,A (f i hi)⟩
 obtain⟨i,hi,he⟩:=ZbD.1 he;exact(b _ _ e he).2.1
abbrev OE:=List Nat×List Ed
def sEd(i:Nat)(s:OE)(e:Ed):OE:=if s.1.contains e.2.2 then(s.1,s.2++[(i,e.2.1,idx s.1 e.2.2)])else(s.1++[e.2.2],s.2++[(i,e.2.1,s.1.length)])
def sOut(es:List Ed)(left:Nat->Bool)(v:Nat):List Ed:=es.filter fun e=>e.1==v&&left e.2.2
def sRow(es:List Ed)(left:Nat->Bool)(i v:Nat)(s:OE):OE:=(sOut es left v).foldl (sEd i) s
def sQ(es:List Ed)(left:Nat->Bool):Nat->Nat->OE->OE|0,_,s=>s|k+1,i,s=>match s.1[i]? with|some v=>sQ es left k (i+1) (sRow es left i v s)|none=>s
def sAll(a:Aut)(left:Nat->Bool):OE:=sQ a.es left (a.n+1) 0 (if decide (0<a.n)&&left 0 then[0]else[],[])
def restr(a:Aut)(left:Nat->Bool):Aut:=⟨a.al,(sAll a left).1.length,(List.range (sAll a left).1.length).filter fun i=>a.ms.contains ((sAll a left).1.getD i 0),(sAll a left).2⟩
theorem Qdp{l t:List Nat}{x:Nat}(h:x∈l):idx (l++t) x=idx l x:=by simp_all[idx,List.findIdx_append]
theorem Qeg{l:List Nat}{x:Nat}(h:x∉l):idx (l++[x]) x=l.length:=by grind[idx]
theorem Qul{l:List Nat}(a:l.Nodup){i x:Nat}(h:l[i]?=some x):idx l x=i:=by grind[Qtd,List.getElem?_inj]
def num(o:List Nat)(i:Nat)(e:Ed):Ed:=(i,e.2.1,idx o e.2.2)
theorem Qdq{n:Nat}{left:Nat->Bool}(i:Nat):∀(c:List Ed)(s:OE),(∀e∈c,e.2.2<n/\left e.2.2=true)->FI n s.1->(∀x∈s.1,left x=true)->FI n (c.foldl (sEd i) s).1/\(∀x∈(c.foldl (sEd i) s).1,left x=true)/\(∃t,(c.foldl (sEd i) s).1=s.1++t)/\(∀e∈c,e.2.2∈(c.foldl (sEd i) s).1)/\(c.foldl (sEd i) s).2=s.2++c.map (num (c.foldl (sEd i) s).1 i):=by intro c;induction c with|nil=>intro s _ h g;exact⟨h,g,⟨[],by simp⟩,(fun e he=>by cases he),by simp⟩|cons e c l=>
 intro s f h g;rw[ZaP];obtain⟨p,m⟩:=f e (by simp);by_cases hc:s.1.contains e.2.2=true
 ·have k:sEd i s e=(s.1,s.2++[(i,e.2.1,idx s.1 e.2.2)]):=if_pos hc;have hm:e.2.2∈s.1:=by simpa using hc
  rw[k];obtain⟨k1,k2,⟨t,k3⟩,k4,o⟩:=l (s.1,s.2++[(i,e.2.1,idx s.1 e.2.2)]) (fun x d=>f x (by simp[d])) h g;refine⟨k1,k2,⟨t,k3⟩,fun x d=>?_,?_⟩;·grind
  grind[num,Qdp]
 have k:sEd i s e=(s.1++[e.2.2],s.2++[(i,e.2.1,s.1.length)]):=if_neg hc;have hm:e.2.2∉s.1:=by simpa using hc
 rw[k];obtain⟨k1,k2,⟨t,k3⟩,k4,o⟩:=l (s.1++[e.2.2],s.2++[(i,e.2.1,s.1.length)]) (fun x d=>f x (by simp[d])) ⟨by rw[Zca];refine⟨h.nd,by simp,fun a r b q e=>?_⟩;simp_all,fun x d=>by
  rcases ZaE.1 d with d|d;·exact h.lt x d
  simp_all⟩ (fun x d=>by grind);have k3:(c.foldl (sEd i) (s.1++[e.2.2],s.2++[(i,e.2.1,s.1.length)])).1=(s.1++[e.2.2])++t:=k3;refine⟨k1,k2,⟨[e.2.2]++t,by simp_all⟩,fun x d=>?_,?_⟩;·grind
 grind[num,Qdp,Qeg]
structure SI(n:Nat)(es:List Ed)(left:Nat->Bool)(i:Nat)(s:OE):Prop where
 fi:FI n s.1
 lft:∀x∈s.1,left x=true
 le:i<=s.1.length
 cl:∀j v,j<i->s.1[j]?=some v->∀e∈sOut es left v,e.2.2∈s.1
 ed:s.2=(List.range i).flatMap fun j=>(sOut es left (s.1.getD j 0)).map (num s.1 j)
theorem Qa2{es:List Ed}{left:Nat->Bool}{v:Nat}{e:Ed}:e∈sOut es left v↔e∈es/\e.1=v/\left e.2.2=true:=by simp_all[sOut]
theorem SI.step{n:Nat}{es:List Ed}{left:Nat->Bool}(k:∀e∈es,e.1<n/\e.2.2<n){i v:Nat}{s:OE}(h:SI n es left i s)(m:s.1[i]?=some v):SI n es left (i+1) (sRow es left i v s):=by
 obtain⟨k1,k2,⟨t,k3⟩,k4,d⟩:=Qdq i (sOut es left v) s (fun e he=>⟨(k e (Qa2.1 he).1).2,(Qa2.1 he).2.2⟩) h.fi h.lft;have l:i<s.1.length:=(Zag.1 m).1;have k3:(sRow es left i v s).1=s.1++t:=k3;have a:∀j,j<s.1.length->(sRow es left i v s).1.getD j 0=s.1.getD j 0:=fun j b=>by grind
 refine⟨k1,k2,by grind,fun j u b g e he=>?_,?_⟩
 ·rw[k3,ZaT (by omega)]at g;by_cases f:j<i;·rw[k3];exact Zbz _ (h.cl j u f g e he)
  grind
 show(sRow es left i v s).2=_;have d:(sRow es left i v s).2=s.2++(sOut es left v).map (num (sRow es left i v s).1 i):=d;rw[d,h.ed,ZaO,Zaq];congr 1
 ·have :∀j∈List.range i,(sOut es left (s.1.getD j 0)).map (num s.1 j)=(sOut es left ((sRow es left i v s).1.getD j 0)).map (num (sRow es left i v s).1 j):=fun j b=>by
   have b:=Zat.1 b;rw[a j (by omega)];have c:s.1[j]?=some (s.1.getD j 0):=by grind
   refine Za8 fun e he=>?_;unfold num;rw[k3,Qdp (h.cl j _ b c e he)]
  grind[Za8]
 simp_all
theorem sQ_ok{n:Nat}{es:List Ed}{left:Nat->Bool}(c:∀e∈es,e.1<n/\e.2.2<n):∀(k i:Nat)(s:OE),SI n es left i s->n<k+i->SI n es left (sQ es left k i s).1.length (sQ es left k i s)/\∃t,(sQ es left k i s).1=s.1++t:=by intro k;induction k with|zero=>intro i s h f;have:=h.fi.len;have:=h.le;omega|succ k d=>intro i s h f;unfold sQ;cases a:s.1[i]? with|some v=>obtain⟨h1,t,g⟩:=d (i+1) _ (h.step c a) (by omega);obtain⟨_,_,⟨b,k3⟩,_,_⟩:=Qdq i (sOut es left v) s (fun e he=>⟨(c e (Qa2.1 he).1).2,(Qa2.1 he).2.2⟩) h.fi h.lft;have k3:(sRow es left i v s).1=s.1++b:=k3;exact⟨h1,b++t,by simp_all⟩|none=>
 have:s.1.length=i:=by have:=ZbU.1 a;have:=h.le;omega
 dsimp only;rw[this];exact⟨h,[],by simp⟩
theorem Qdr{a:Aut}{left:Nat->Bool}(h:WfA a):SI a.n a.es left (sAll a left).1.length (sAll a left)/\∃t,(sAll a left).1=(if decide (0<a.n)&&left 0 then[0]else[])++t:=by
 refine sQ_ok h.esn (a.n+1) 0 _ ?_ (by omega);refine⟨?_,fun x b=>?_,Zah _,fun j v c=>by omega,by simp⟩
 ·split;·rename_i hc;simp only[Zaa,decide_eq_true_eq]at hc;exact⟨by simp,fun x b=>by simp_all⟩
  exact⟨by simp,fun x b=>by cases b⟩
 simp_all
theorem Qmq{a:Aut}{left:Nat->Bool}(h:WfA a):WfA (restr a left):=by
 obtain⟨g,_⟩:=Qdr (left:=left) h;have d:∀(j:Nat)(e:Ed),j<(sAll a left).1.length->e∈(sOut a.es left ((sAll a left).1.getD j 0)).map (num (sAll a left).1 j)->∃b∈a.es,b.1=(sAll a left).1.getD j 0/\e=(j,b.2.1,idx (sAll a left).1 b.2.2)/\b.2.2∈(sAll a left).1:=by
  intro j e c he;obtain⟨b,f,rfl⟩:=Zan.1 he;have m:(sAll a left).1[j]?=some ((sAll a left).1.getD j 0):=by simp_all
  exact⟨b,(Qa2.1 f).1,(Qa2.1 f).2.1,rfl,g.cl j _ c m b f⟩
 refine⟨h.al,h.al5,Zaw g.fi.len h.n5,List.pairwise_lt_range.filter _,fun x k=>Zat.1 (ZaL.1 k).1,?_,fun e he=>?_,fun e he=>?_⟩
 ·show(sAll a left).2.Pairwise _;rw[g.ed];refine QcN (fun j c=>?_) (List.pairwise_lt_range.imp_of_mem fun{i j}hi c s x k y o=>.inl ?_);·rw[ZbB];have:(sOut a.es left ((sAll a left).1.getD j 0)).Pairwise fun x y=>x.1<y.1\/(x.1=y.1/\x.2.1<y.2.1):=h.es.filter _;refine this.imp_of_mem fun{x y}k o q=>.inr ⟨rfl,?_⟩;have h1:=(Qa2.1 k).2.1;have t:=(Qa2.1 o).2.1;show x.2.1<y.2.1;omega
  grind
 ·have he:e∈(sAll a left).2:=he;rw[g.ed]at he;obtain⟨j,c,he⟩:=ZbD.1 he;obtain⟨b,_,_,l,p⟩:=d j e (Zat.1 c) he;rw[l];exact⟨Zat.1 c,Qi3 p⟩
 have he:e∈(sAll a left).2:=he;rw[g.ed]at he;obtain⟨j,c,he⟩:=ZbD.1 he;obtain⟨b,r,_,l,p⟩:=d j e (Zat.1 c) he;rw[l];exact h.ev b r
theorem Qte{o:List Nat}(ho:o.Nodup)(i:Nat):∀(a:List Ed)(s:OE)(t:List Nat),(a.foldl (sEd i) s).1++t=o->(∃f,s.1++f=o)->(a.map (num o i)).foldl (sEd i) (List.range s.1.length,s.2)=(List.range (a.foldl (sEd i) s).1.length,(a.foldl (sEd i) s).2):=by intro a;induction a with|nil=>intro s t _ _;rfl|cons e a g=>
 intro s t k l;rw[ZaP]at k;rw[ZaJ,ZaP,ZaP];obtain⟨f,l⟩:=l;have c:∀(a:List Ed)(s:OE),∃u,(a.foldl (sEd i) s).1=s.1++u:=by intro a;induction a with|nil=>intro s;exact⟨[],by simp⟩|cons e a g=>
  intro s;rw[ZaP];obtain⟨u,m⟩:=g (sEd i s e);rw[m];unfold sEd;split;·simp_all
  simp_all
 by_cases hc:s.1.contains e.2.2=true
 ·have h:sEd i s e=(s.1,s.2++[(i,e.2.1,idx s.1 e.2.2)]):=if_pos hc;have hm:e.2.2∈s.1:=by simpa using hc
  have b:idx o e.2.2=idx s.1 e.2.2:=by grind[Qdp]
  have q:sEd i (List.range s.1.length,s.2) (num o i e)=(List.range s.1.length,s.2++[(i,e.2.1,idx s.1 e.2.2)]):=by
   have d:idx o e.2.2<s.1.length:=by simp_all[Qi3]
   unfold sEd num;rw[if_pos (by simpa using d)];have:idx (List.range s.1.length) (idx o e.2.2)=idx o e.2.2:=Qul Zbb (ZbG d);simp_all
  grind
 have h:sEd i s e=(s.1++[e.2.2],s.2++[(i,e.2.1,s.1.length)]):=if_neg hc;have hm:e.2.2∉s.1:=by simpa using hc
 rw[h]at k⊢;obtain⟨u,m⟩:=c a (s.1++[e.2.2],s.2++[(i,e.2.1,s.1.length)]);have p:o=(s.1++[e.2.2])++(u++t):=by simp_all
 have b:idx o e.2.2=s.1.length:=by grind[Qdp,Qeg]
 have q:sEd i (List.range s.1.length,s.2) (num o i e)=(List.range (s.1++[e.2.2]).length,s.2++[(i,e.2.1,s.1.length)]):=by simp_all[sEd,num,ZaO]
 grind
theorem Qum{n:Nat}{es es':List Ed}{left:Nat->Bool}{o:List Nat}(ho:o.Nodup)(l:∀e∈es,e.1<n/\e.2.2<n)(m:∀i v,o[i]?=some v->sOut es' (fun _=>true) i=(sOut es left v).map (num o i)):∀(k i:Nat)(s:OE)(c:Nat),SI n es left i s->n<k+i->n<c+i->(sQ es left k i s).1=o->sQ es' (fun _=>true) c i (List.range s.1.length,s.2)=(List.range o.length,(sQ es left k i s).2):=by intro k;induction k with|zero=>intro i s c h x _ _;have:=h.fi.len;have:=h.le;omega|succ k w=>intro i s c h x p b;cases c with|zero=>have:=h.fi.len;have:=h.le;omega|succ c=>unfold sQ at b⊢;cases g:s.1[i]? with|none=>have d:s.1.length<=i:=ZbU.1 g;rw[g]at b;have b:s.1=o:=b;have:(List.range s.1.length)[i]?=none:=ZaD (by simpa using d);dsimp only;rw[this,b]|some v=>
 have d:i<s.1.length:=(Zag.1 g).1;rw[g]at b;have b:(sQ es left k (i+1) (sRow es left i v s)).1=o:=b;have:(List.range s.1.length)[i]?=some i:=ZbG d;dsimp only;rw[this];dsimp only;have a:=h.step l g;obtain⟨_,t,u⟩:=sQ_ok l k (i+1) _ a (by omega);rw[b]at u;obtain⟨_,_,⟨q,k3⟩,_,_⟩:=Qdq i (sOut es left v) s (fun e he=>⟨(l e (Qa2.1 he).1).2,(Qa2.1 he).2.2⟩) h.fi h.lft;have k3:(sRow es left i v s).1=s.1++q:=k3;have r:o[i]?=some v:=by grind
 have f:sRow es' (fun _=>true) i i (List.range s.1.length,s.2)=(List.range (sRow es left i v s).1.length,(sRow es left i v s).2):=by simp_all[sRow,Qte]
 rw[f];exact w (i+1) _ c a (by omega) (by omega) b
theorem Qi4{a:Aut}{left:Nat->Bool}(h:WfA a){i v:Nat}(d:(sAll a left).1[i]?=some v):sOut (restr a left).es (fun _=>true) i=(sOut a.es left v).map (num (sAll a left).1 i):=by
 obtain⟨f,_⟩:=Qdr (left:=left) h;have k:i<(sAll a left).1.length:=(Zag.1 d).1;show(sAll a left).2.filter _=_;rw[f.ed,List.filter_flatMap];have h1:∀j∈List.range (sAll a left).1.length,(((sOut a.es left ((sAll a left).1.getD j 0)).map (num (sAll a left).1 j)).filter fun e=>e.1==i&&true)=if j=i then(sOut a.es left v).map (num (sAll a left).1 i)else[]:=by
  intro j _;by_cases e:j=i;·subst e;rw[if_pos rfl,Zak,d];refine ZbN.2 fun x b=>?_;obtain⟨y,_,rfl⟩:=Zan.1 b;simp[num]
  rw[if_neg e];refine List.filter_eq_nil_iff.2 fun x b=>?_;obtain⟨y,_,rfl⟩:=Zan.1 b;simp[num,e]
 rw[List.flatMap_def,Za8 h1,<-List.flatMap_def];have key:∀(l:List Nat)(X:List Ed),l.Nodup->(l.flatMap fun j=>if j=i then X else[])=if i∈l then X else[]:=by intro l X;induction l with|nil=>intro _;rfl|cons j l g=>
  intro c;rw[Zci]at c;rw[Zay,g c.2];by_cases e:j=i;·simp_all
  grind
 simp_all[Zbb]
theorem Qpp{a:Aut}{left:Nat->Bool}(h:WfA a):sAll (restr a left) (fun _=>true)=(List.range (restr a left).n,(restr a left).es):=by
 obtain⟨u,t,r⟩:=Qdr (left:=left) h;have q:SI a.n a.es left 0 ((if decide (0<a.n)&&left 0 then[0]else[],[]):OE):=by
  refine⟨?_,fun x c=>?_,Zah _,fun j v y=>by omega,by simp⟩
  ·split;·rename_i hc;simp only[Zaa,decide_eq_true_eq]at hc;exact⟨by simp,fun x c=>by simp_all⟩
   exact⟨by simp,fun x c=>by cases c⟩
  simp_all
 have C:(restr a left).n<=a.n:=u.fi.len;by_cases hc:(decide (0<a.n)&&left 0)=true
 ·rw[if_pos hc]at q r;have p:sAll a left=sQ a.es left (a.n+1) 0 ([0],[]):=by simp_all[sAll]
  have o:0<(restr a left).n:=by show 0<(sAll a left).1.length;rw[r];simp
  have A:sAll (restr a left) (fun _=>true)=sQ (restr a left).es (fun _=>true) ((restr a left).n+1) 0 (List.range ([0]:List Nat).length,[]):=by simp_all[sAll]
  rw[A];have l:∀(es:List Ed)(left:Nat->Bool)(k i:Nat)(s:OE)(m:Nat),SI m es left i s->(∀e∈es,e.1<m/\e.2.2<m)->m<k+i->∀b,k<=b->sQ es left k i s=sQ es left b i s:=by intro es left k;induction k with|zero=>intro i s m h _ B;have:=h.fi.len;have:=h.le;omega|succ k z=>intro i s m h hm B b w;cases b with|zero=>omega|succ b=>unfold sQ;cases g:s.1[i]? with|none=>rfl|some v=>exact z (i+1) _ m (h.step hm g) hm (by omega) b (by omega)
  have f:=Qmq (left:=left) h;have d:SI (restr a left).n (restr a left).es (fun _=>true) 0 ((List.range ([0]:List Nat).length,[]):OE):=⟨⟨Zbb,fun x c=>by simp_all⟩,fun _ _=>rfl,Zah _,fun j v y=>by omega,by simp⟩;rw[l _ _ ((restr a left).n+1) 0 _ (restr a left).n d f.esn (by omega) (a.n+1) (by omega)];have:=Qum (n:=a.n) (es:=a.es) (es':=(restr a left).es) (left:=left) (o:=(sAll a left).1) u.fi.nd h.esn (fun i v g=>Qi4 h g) (a.n+1) 0 ([0],[]) (a.n+1) q (by omega) (by omega) (by rw[p]);rw[this];show _=(List.range (sAll a left).1.length,(sAll a left).2);rw[p]
 simp_all[sAll,if_neg,sQ,restr]
theorem QnM{a:Aut}{left:Nat->Bool}(h:WfA a):restr (restr a left) (fun _=>true)=restr a left:=by
 have h1:=Qpp (left:=left) h;have b:(sAll (restr a left) fun _=>true).1.length=(restr a left).n:=by rw[h1];simp
 have e:∀(A B:Aut),A.al=B.al->A.n=B.n->A.ms=B.ms->A.es=B.es->A=B:=fun A B h1 f g d=>by cases A;simp_all
 refine e _ _ rfl b ?_ (by simp_all[restr]);show(List.range (sAll (restr a left) fun _=>true).1.length).filter _=_;rw[b,h1];have c:(restr a left).ms=(List.range (restr a left).n).filter fun i=>a.ms.contains ((sAll a left).1.getD i 0):=rfl;have:∀i∈List.range (restr a left).n,(restr a left).ms.contains ((List.range (restr a left).n).getD i 0)=a.ms.contains ((sAll a left).1.getD i 0):=fun i hi=>by simp_all
 grind[ZbF]
def part(n bits:Nat):List Nat:=(List.range n).filter fun i=>bits.testBit i
theorem Qmr{n bits x:Nat}:x∈part n bits↔x<n/\bits.testBit x=true:=by simp[part]
theorem QdH(n bits:Nat):(part n bits).Pairwise (·<·):=List.pairwise_lt_range.filter _
def kept(n:Nat)(l:LB):List Nat:=(List.range n).filter (lf l)
end Go.AM.SD
