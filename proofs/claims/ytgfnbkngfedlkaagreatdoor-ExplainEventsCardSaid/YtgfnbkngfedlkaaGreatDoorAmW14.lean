/- Lemmas on the way to ExplainEventsCardSaid. Conditions: none of ours. -/
import Derived.Test.YtgfnbkngfedlkaaGreatDoorProg
import Derived.KernelRfl
import Derived.Test.YtgfnbkngfedlkaaGreatDoorAmW13
set_option linter.unusedSectionVars false
set_option maxHeartbeats 32000000
set_option maxRecDepth 100000
set_option linter.unusedVariables false
set_option linter.unusedSimpArgs false
namespace Go.AM.SE
open Go.Proofs Go.AM.SD
abbrev froms(es:List Ed):List Nat:=es.map (·.1)
theorem Qk7:∀(l:List Ed)(i:Nat),(l.flatMap edC).drop (i*3)=(l.drop i).flatMap edC|l,0=>by simp|[],i+1=>by simp|e::l,i+1=>by rw[Zay,Zbo,Zbs];show List.drop (i*3+3) (_::_::_::l.flatMap edC)=_;rw[Zbs,Zbs,Zbs];exact Qk7 l i
theorem Qk8:∀(l:List Ed)(i:Nat),(l.flatMap edC).take (i*3)=(l.take i).flatMap edC|l,0=>by simp|[],i+1=>by simp|e::l,i+1=>by rw[Zay,Zbo,Za7,Zay];show List.take (i*3+3) (_::_::_::l.flatMap edC)=_;rw[Za7,Za7,Za7,Qk8 l i];rfl
theorem QoJ{x t:Nat}{l:List Nat}:lbN (x::l) t=lbN l t+if x<t then 1 else 0:=by unfold lbN;rw[Zcf];simp
theorem QjQ{l:List Nat}{t:Nat}(h:∀x∈l,t<=x):lbN l t=0:=by unfold lbN;rw[List.countP_eq_zero];intro x a;have:=h x a;simp;omega
theorem Qq0:∀{es:List Ed},es.Pairwise (fun a b=>a.1<=b.1)->∀v:Nat,(es.drop (lbN (froms es) v)).take (lbN (froms es) (v+1)-lbN (froms es) v)=sOut es (fun _=>true) v
 |[],_,_=>by simp[sOut]|e::es,h,v=>by
  rw[Zax]at h;have c:=Qq0 h.2 v;have k:froms (e::es)=e.1::froms es:=rfl;have l:sOut (e::es) (fun _=>true) v=if e.1=v then e::sOut es (fun _=>true) v else sOut es (fun _=>true) v:=by unfold sOut;rw[Zbv];simp
  rw[k,QoJ,QoJ,l];rcases Nat.lt_trichotomy e.1 v with h1|h1|h1;·rw[if_pos h1,if_pos (by omega),if_neg (by omega),Zbs,Nat.add_sub_add_right,c]
  ·have g:lbN (froms es) v=0:=QjQ fun x d=>by obtain⟨y,f,rfl⟩:=Zan.1 d;have:=h.1 y f;omega
   rw[g]at c⊢;have m:¬e.1<v:=by omega
   have i2:e.1<v+1:=by omega
   simp only[if_neg m,if_pos i2,if_pos h1,Nat.add_zero,Zbm,Nat.sub_zero,Za7];rw[Zbm,Nat.sub_zero]at c;rw[c]
  have g:lbN (froms es) v=0:=QjQ fun x d=>by obtain⟨y,f,rfl⟩:=Zan.1 d;have:=h.1 y f;omega
  have i:lbN (froms es) (v+1)=0:=QjQ fun x d=>by obtain⟨y,f,rfl⟩:=Zan.1 d;have:=h.1 y f;omega
  rw[g,i]at c⊢;rw[if_neg (by omega),if_neg (by omega),if_neg (by omega)];simpa using c
theorem sub229(e:Ed)(t:Nat)(he:e.1<=1000000)(a:t<=1000000):Pq 256 [edV e,.int .i64 (t:Int)] (.int .i64 ((e.1:Int)-(t:Int))):=by refine Zcu 64 ok256 rfl (by(try simp only[noRefs,QaH,Qal,Qam,Qad,Qaj,Qaf,Qak,Qao,Qah,noRef,Zad,Zac])<;>rfl) rfl ?_;unfold s256;refine ZcZ ?_;exact⟨.inr trivial,_,rfl,rfl⟩
theorem sub230(e:Ed)(t:Nat)(he:e.1<=1000000)(a:t<=1000000):Pq 257 [edV e,.int .i64 (t:Int)] (.int .i64 ((e.1:Int)-(t:Int))):=by refine Zcu 64 ok257 rfl (by(try simp only[noRefs,QaH,Qal,Qam,Qad,Qaj,Qaf,Qak,Qao,Qah,noRef,Zad,Zac])<;>rfl) rfl ?_;unfold s257;refine ZcZ ?_;exact⟨.inr trivial,_,rfl,rfl⟩
theorem find67(es:List Ed)(t:Nat)(v:(froms es).Pairwise (·<=·))(x:∀e∈es,e.1<=1000000)(u:t<=1000000)(B:es.length<=1000000):Pq 255 [egsN es,.int .i64 (t:Int),.fn 256 [] []] (.tup [.int .i64 (lbN (froms es) t:Int),.bool ((froms es).contains t)]):=by
 refine Zcu 64 ok255 rfl (by(try simp only[noRefs,QaH,Qal,Qam,Qad,Qaj,Qaf,Qak,Qao,Qah,noRef,Zad,Zac])<;>rfl) rfl ?_;have y:(froms es).length=es.length:=by simp
 unfold s255;refine ZcZ ?_;refine Qaq 100 (fun p:Nat×Nat=>[(0,egsN es),(1,.int .i64 (t:Int)),(2,.fn 256 [] []),(8,.int .i64 es.length),(9,.int .i64 p.1),(10,.int .i64 p.2)]) (fun _=>[]) (fun p=>p.1<=p.2/\p.2<=es.length/\(∀q,q<p.1->(froms es).getD q 0<t)/\∀q,p.2<=q->q<es.length->¬(froms es).getD q 0<t) (fun p=>p.2-p.1) (0,es.length) 0 140 (fun i:Nat=>[(0,egsN es),(1,.int .i64 (t:Int)),(2,.fn 256 [] []),(8,.int .i64 es.length),(9,.int .i64 i)]) (fun _=>[]) (fun i=>i<=es.length/\(∀q,q<i->(froms es).getD q 0<t)/\∀q,i<=q->q<es.length->¬(froms es).getD q 0<t) ?_ ⟨Zah _,ZaM _,fun q l=>absurd l (ZaC _),fun q h1 g=>by omega⟩ ?_ ?_;·exact⟨[],rfl,au0,au9,au10⟩
 ·rintro⟨i,j⟩⟨r,s,h1,g⟩;dsimp only at r s h1 g⊢;by_cases c:i<j
  ·obtain⟨k,hk,w,A⟩:∃k:Nat,aBin .shr (.int .u64 ((i:Int)+(j:Int))) (.int .u64 1)=some (.int .u64 (k:Int))/\i<=k/\k<j:=⟨(i+j)/2,shr1,by omega,by omega⟩;have m:k<es.length:=by omega
   obtain⟨e,he⟩:=Qap m;have o:(froms es).getD k 0=e.1:=by rw[Zak,ZaB,he];rfl
   have f:=x e (Zae he);refine Zc0 (Zc3 c hk m (QaJ he)) ?_;refine cp (sub229 e t f u) ?_;by_cases hc:e.1<t
   ·have d:(e.1:Int)-(t:Int)<0:=by omega
    refine Zc0 d ?_;refine⟨(k+1,j),by dsimp only;omega,⟨by dsimp only;omega,s,fun q l=>?_,g⟩,⟨[],rfl,au0,au9,au10⟩⟩;have:=Qdx v (p:=q) (q:=k) (by dsimp only at l;omega) (by omega);omega
   have d:¬(e.1:Int)-(t:Int)<0:=by omega
   refine Zc0 d ?_;refine⟨(i,k),by dsimp only;omega,⟨w,by dsimp only;omega,h1,fun q l z=>?_⟩,⟨[],rfl,au0,au9,au10⟩⟩;have:=Qdx v (p:=k) (q:=q) l (by omega);omega
  have e:i=j:=by omega
  subst e;refine Zc0 c ?_;exact⟨i,⟨s,h1,g⟩,⟨[],rfl,au0,au9,au10⟩⟩
 rintro i⟨hi,h1,g⟩;rw[lb_eq (by omega) h1 fun q a b=>g q a (by omega),QmT v h1 fun q a b=>g q a (by omega)];by_cases c:i<es.length
 ·obtain⟨e,he⟩:=Qap c;have o:(froms es).getD i 0=e.1:=by rw[Zak,ZaB,he];rfl
  have f:=x e (Zae he);rw[o];by_cases hc:e.1=t
  ·rw[decide_eq_true ⟨by omega,hc⟩];have d:(e.1:Int)-(t:Int)=0:=by omega
   refine Zc0 (Zc1 c (QaJ he)) ?_;refine cp (sub229 e t f u) ?_;refine Zc0 d ?_;exact⟨.inr trivial,_,rfl,rfl⟩
  rw[decide_eq_false fun h=>hc h.2];have d:¬(e.1:Int)-(t:Int)=0:=by omega
  refine Zc0 (Zc1 c (QaJ he)) ?_;refine cp (sub229 e t f u) ?_;refine Zc0 d ?_;exact⟨.inr trivial,_,rfl,rfl⟩
 rw[decide_eq_false fun h=>c (by omega)];refine Zc0 c ?_;exact⟨.inr trivial,_,rfl,rfl⟩
theorem find67b(es:List Ed)(t:Nat)(v:(froms es).Pairwise (·<=·))(x:∀e∈es,e.1<=1000000)(u:t<=1000000)(B:es.length<=1000000):Pq 255 [egsN es,.int .i64 (t:Int),.fn 257 [] []] (.tup [.int .i64 (lbN (froms es) t:Int),.bool ((froms es).contains t)]):=by
 refine Zcu 64 ok255 rfl (by(try simp only[noRefs,QaH,Qal,Qam,Qad,Qaj,Qaf,Qak,Qao,Qah,noRef,Zad,Zac])<;>rfl) rfl ?_;have y:(froms es).length=es.length:=by simp
 unfold s255;refine ZcZ ?_;refine Qaq 100 (fun p:Nat×Nat=>[(0,egsN es),(1,.int .i64 (t:Int)),(2,.fn 257 [] []),(8,.int .i64 es.length),(9,.int .i64 p.1),(10,.int .i64 p.2)]) (fun _=>[]) (fun p=>p.1<=p.2/\p.2<=es.length/\(∀q,q<p.1->(froms es).getD q 0<t)/\∀q,p.2<=q->q<es.length->¬(froms es).getD q 0<t) (fun p=>p.2-p.1) (0,es.length) 0 140 (fun i:Nat=>[(0,egsN es),(1,.int .i64 (t:Int)),(2,.fn 257 [] []),(8,.int .i64 es.length),(9,.int .i64 i)]) (fun _=>[]) (fun i=>i<=es.length/\(∀q,q<i->(froms es).getD q 0<t)/\∀q,i<=q->q<es.length->¬(froms es).getD q 0<t) ?_ ⟨Zah _,ZaM _,fun q l=>absurd l (ZaC _),fun q h1 g=>by omega⟩ ?_ ?_;·exact⟨[],rfl,au0,au9,au10⟩
 ·rintro⟨i,j⟩⟨r,s,h1,g⟩;dsimp only at r s h1 g⊢;by_cases c:i<j
  ·obtain⟨k,hk,w,A⟩:∃k:Nat,aBin .shr (.int .u64 ((i:Int)+(j:Int))) (.int .u64 1)=some (.int .u64 (k:Int))/\i<=k/\k<j:=⟨(i+j)/2,shr1,by omega,by omega⟩;have m:k<es.length:=by omega
   obtain⟨e,he⟩:=Qap m;have o:(froms es).getD k 0=e.1:=by rw[Zak,ZaB,he];rfl
   have f:=x e (Zae he);refine Zc0 (Zc3 c hk m (QaJ he)) ?_;refine cp (sub230 e t f u) ?_;by_cases hc:e.1<t
   ·have d:(e.1:Int)-(t:Int)<0:=by omega
    refine Zc0 d ?_;refine⟨(k+1,j),by dsimp only;omega,⟨by dsimp only;omega,s,fun q l=>?_,g⟩,⟨[],rfl,au0,au9,au10⟩⟩;have:=Qdx v (p:=q) (q:=k) (by dsimp only at l;omega) (by omega);omega
   have d:¬(e.1:Int)-(t:Int)<0:=by omega
   refine Zc0 d ?_;refine⟨(i,k),by dsimp only;omega,⟨w,by dsimp only;omega,h1,fun q l z=>?_⟩,⟨[],rfl,au0,au9,au10⟩⟩;have:=Qdx v (p:=k) (q:=q) l (by omega);omega
  have e:i=j:=by omega
  subst e;refine Zc0 c ?_;exact⟨i,⟨s,h1,g⟩,⟨[],rfl,au0,au9,au10⟩⟩
 rintro i⟨hi,h1,g⟩;rw[lb_eq (by omega) h1 fun q a b=>g q a (by omega),QmT v h1 fun q a b=>g q a (by omega)];by_cases c:i<es.length
 ·obtain⟨e,he⟩:=Qap c;have o:(froms es).getD i 0=e.1:=by rw[Zak,ZaB,he];rfl
  have f:=x e (Zae he);rw[o];by_cases hc:e.1=t
  ·rw[decide_eq_true ⟨by omega,hc⟩];have d:(e.1:Int)-(t:Int)=0:=by omega
   refine Zc0 (Zc1 c (QaJ he)) ?_;refine cp (sub230 e t f u) ?_;refine Zc0 d ?_;exact⟨.inr trivial,_,rfl,rfl⟩
  rw[decide_eq_false fun h=>hc h.2];have d:¬(e.1:Int)-(t:Int)=0:=by omega
  refine Zc0 (Zc1 c (QaJ he)) ?_;refine cp (sub230 e t f u) ?_;refine Zc0 d ?_;exact⟨.inr trivial,_,rfl,rfl⟩
 rw[decide_eq_false fun h=>c (by omega)];refine Zc0 c ?_;exact⟨.inr trivial,_,rfl,rfl⟩
theorem out58(a:Aut)(v:Nat)(h:WfA a)(b:a.es.length<=1000000)(m:v<=100000):Pq 205 [aV a,.int .i64 (v:Int)] (egsN (sOut a.es (fun _=>true) v)):=by
 have f:(froms a.es).Pairwise (·<=·):=by rw[ZbB];exact h.srt
 have g:∀e∈a.es,e.1<=1000000:=fun e he=>by have:=(h.esn e he).1;have:=h.n5;omega
 have f1:=find67 a.es v f g (by omega) b;have f2:=find67b a.es (v+1) f g (by omega) b;have k:((v+1:Nat):Int)=(v:Int)+1:=by omega
 rw[k]at f2;have ho:=Qq0 h.srt v;have i:=lb_le (l:=froms a.es) (t:=v+1);rw[Zaz]at i;have hm:lbN (froms a.es) v<=lbN (froms a.es) (v+1):=List.countP_mono_left fun x _ l=>by simp at l⊢;omega
 generalize(froms a.es).contains v=o at*;generalize(froms a.es).contains (v+1)=b2 at*;generalize lbN (froms a.es) v=p at*;generalize lbN (froms a.es) (v+1)=q at*;have hlen:q-p=(sOut a.es (fun _=>true) v).length:=by rw[<-ho,Zav,Za3];omega
 have d:(p:Int)<=(q:Int):=by omega
 have c:(q:Int)<=(a.es.length:Int):=by omega
 refine Zct 64 ok205 rfl (by(try simp only[noRefs,QaH,Qal,Qam,Qad,Qaj,Qaf,Qak,Qao,Qah,noRef,Zad,Zac])<;>rfl) (Qai _) ?_;unfold s205;refine ZcZ ?_;refine cp f1 ?_;refine ZcZ ?_;refine cp f2 ?_;refine Zc0 (Zc1 d c) ?_;refine⟨.inr trivial,_,rfl,?_⟩;rw[Qk7,Qk8,ho,hlen];exact Zcq (Qai _)
abbrev rsA(a:Aut):List AV:=[sliN a.al,.int .i64 (a.n:Int),sliN a.ms,egsN a.es]
abbrev rsN:List AV:=[.nilsl,.int .i64 0,.nilsl,.nilsl]
def pl(n:Nat)(o:List Nat):List Int:=(List.range n).map fun x=>if o.contains x then((SD.idx o x:Nat):Int)else-1
theorem QdW{n:Nat}{o:List Nat}:(pl n o).length=n:=by simp[pl]
theorem Qji{n:Nat}{o:List Nat}{x:Nat}(a:x<n):(pl n o).getD x 0=if o.contains x then((SD.idx o x:Nat):Int)else-1:=by unfold pl;rw[Zak,ZaB,ZbG a];rfl
theorem Qq1{n:Nat}{o:List Nat}{x:Nat}(b:x∉o):(pl n o).set x (o.length:Int)=pl n (o++[x]):=by
 refine List.ext_getElem (by simp[pl]) fun j h1 a=>?_;have d:j<n:=by simpa[pl]using a
 rw[List.getElem_set];simp only[pl,List.getElem_map,List.getElem_range];by_cases e:x=j;·subst e;rw[if_pos rfl,if_pos (by simp),SD.Qeg b]
 rw[if_neg e];by_cases hm:j∈o;·rw[if_pos (by simpa using hm),if_pos (by simp[hm]),SD.Qdp hm]
 have c:¬j=x:=fun h=>e h.symm;rw[if_neg (by simpa using hm),if_neg (by simp[hm,c])]
theorem Qsp{n:Nat}(c:0<n):(List.replicate n (-1:Int)).set 0 0=pl n [0]:=by
 refine List.ext_getElem (by simp[pl]) fun j h1 a=>?_;have d:j<n:=by simpa[pl]using a
 rw[List.getElem_set];simp only[pl,List.getElem_map,List.getElem_range,List.getElem_replicate];by_cases e:0=j;·subst e;rw[if_pos rfl,if_pos (by simp)];rfl
 have b:¬j=0:=fun h=>e h.symm;rw[if_neg e,if_neg (by simp[b])]
abbrev cnB(a:Aut)(m e:Nat):List AV:=[.sl 83 0 0 a.al.length 1,.int .i64 0,.sl 77 0 0 m 1,.sl 76 0 0 e 3]
abbrev tru:Nat->Bool:=fun _=>true
theorem canonical44(a:Aut)(h:WfA a)(Z:a.es.length<=1000000):Pq 214 [aV a] (aV (restr a tru)):=by
 have hn5:=h.n5;have hal:a.al.length<=32:=QaQ 32 a.al (by rw[ZaN];exact h.al.imp fun h=>by omega) h.al5;have hml:a.ms.length<=a.n:=QaQ a.n a.ms h.nd h.msn;have T:a.ms.Pairwise (·<=·):=h.ms.imp fun h=>by omega
 have U:(a.n:Int)<=140737488355328:=by omega
 have Y:(8:Int)*(a.n:Int)<=140737488355328:=by omega
 refine Zct 40 ok214 rfl (by(try simp only[noRefs,QaH,Qal,Qam,Qad,Qaj,Qaf,Qak,Qao,Qah,noRef,Zad,Zac])<;>rfl) (Qdu _) ?_;unfold s214;refine ZcZ ?_;refine ch (HSpec.of_O (b:=83) (by(try simp only[noRefs,QaH,Qal,Qam,Qad,Qaj,Qaf,Qak,Qao,Qah,noRef,Zad,Zac])<;>rfl) (clone56 a.al (by omega)) (by repeat(first|exact Fresh.e|exact Fresh.le (by assumption) (by omega)|refine Fresh.set ?_ (by omega) (by omega))) rfl) ?_;by_cases h0:a.n=0
 ·have N:(a.n:Int)=0:=by omega
  have e:sAll a tru=([],[]):=by unfold sAll;rw[h0];rfl
  have hr:restr a tru=⟨a.al,0,[],[]⟩:=by unfold restr;rw[e];rfl
  refine Zc0 N ?_;refine⟨.inr trivial,_,rfl,?_⟩;rw[hr];exact Rn.agg (ZcH (Rn.fz0 (g:=0) rfl (by simp[ints]) (Zcr (Qad _))) (ZcH (Zcq rfl) (ZcH Rn.nilK (ZcH Rn.nilK ZcG))))
 have N:¬(a.n:Int)=0:=by omega
 have K:0<a.n:=by omega
 have h0n:(0:Int)<(a.n:Int):=by omega
 refine Zc0 (Zc3 N U Y @QmK) ?_;refine Qaq 100 (fun i:Nat=>[(1,.ptr 50 0 0),(2,.ptr 60 0 0),(3,.ptr 69 0 0),(4,.sl 78 0 0 a.n 1),(24,.int .i64 a.n),(25,.int .i64 i)]) (fun i=>[(50,.cells 0 (rsA a)),(60,.cells 0 rsN),(69,.cells 0 [.sl 83 0 0 a.al.length 1,.int .i64 0,.nilsl,.nilsl]),(83,.cells 0 (ints (nz a.al))),(78,.cells 0 (ints (List.replicate i (-1)++List.replicate (a.n-i) 0)))]) (fun i=>i<=a.n) (fun i=>a.n-i) 0 0 120 (fun _:Unit=>[(1,.ptr 50 0 0),(2,.ptr 60 0 0),(3,.ptr 69 0 0),(4,.sl 78 0 0 a.n 1)]) (fun _=>[(50,.cells 0 (rsA a)),(60,.cells 0 rsN),(69,.cells 0 [.sl 83 0 0 a.al.length 1,.int .i64 0,.nilsl,.nilsl]),(83,.cells 0 (ints (nz a.al))),(78,.cells 0 (ints (List.replicate a.n (-1))))]) (fun _=>True) ?_ (Zah _) ?_ ?_;·exact⟨[(50,.blk 40 0),(60,.blk 41 0),(69,.blk 46 0),(83,.blk 83 0),(78,.blk 53 0)],rfl,au0,au9,au10⟩
 ·rintro i hi;by_cases k:i<a.n
  ·have h1:i+1<=i+(a.n-i):=by omega
   refine Zc0 (Zc3 k h1 @Qcx (QkT k)) ?_;exact⟨i+1,by omega,by omega,⟨[(50,.blk 50 0),(60,.blk 60 0),(69,.blk 69 0),(83,.blk 83 0),(78,.blk 78 0)],rfl,au0,au9,au10⟩⟩
  have e:i=a.n:=by omega
  subst e;have e2:List.replicate a.n (-1:Int)++List.replicate (a.n-a.n) 0=List.replicate a.n (-1):=by simp
  refine Zc0 k ?_;refine⟨(),?_⟩;rw[e2];exact⟨[(50,.blk 50 0),(60,.blk 60 0),(69,.blk 69 0),(83,.blk 83 0),(78,.blk 78 0)],rfl,au0,au9,au10⟩
 rintro _ _;have u:1<=a.n:=K;have m:=Qsp K;refine Zc0 (Zc3 h0n u @Qcx m) ?_;have d:SI a.n a.es tru 0 (([0],[]):OE):=⟨⟨by simp,fun x hx=>by simp at hx;omega⟩,fun _ _=>rfl,Zah _,fun j v hj=>by omega,by simp⟩;have hq0:sQ a.es tru (a.n+1) 0 ([0],[])=sAll a tru:=by unfold sAll;rw[if_pos (by simp[K])]
 refine Qaq 180 (fun t:Nat×OE=>[(1,.ptr 50 0 0),(2,.ptr 60 0 0),(3,.ptr 69 0 0),(4,.sl 78 0 0 a.n 1),(6,.sl 75 0 0 t.2.1.length 1),(7,.int .i64 t.1)]) (fun t=>[(50,.cells 0 (rsA a)),(60,.cells 0 rsN),(69,.cells 0 (cnB a (mks a t.1 t.2.1).length t.2.2.length)),(83,.cells 0 (ints (nz a.al))),(78,.cells 0 (ints (pl a.n t.2.1))),(75,.cells 0 (ints (nz t.2.1))),(76,.cells 0 (t.2.2.flatMap edC)),(77,.cells 0 (ints (nz (mks a t.1 t.2.1))))]) (fun t=>t.1<=a.n/\SI a.n a.es tru t.1 t.2/\t.2.2.length<=t.1*1000000/\sQ a.es tru (a.n+1-t.1) t.1 t.2=sAll a tru) (fun t=>a.n+1-t.1) (0,([0],[])) 2 260 (fun _:Unit=>[(2,.ptr 60 0 0),(3,.ptr 69 0 0),(6,.sl 75 0 0 (sAll a tru).1.length 1)]) (fun _=>[(60,.cells 0 rsN),(69,.cells 0 (cnB a (restr a tru).ms.length (restr a tru).es.length)),(83,.cells 0 (ints (nz a.al))),(75,.cells 0 (ints (nz (sAll a tru).1))),(76,.cells 0 ((restr a tru).es.flatMap edC)),(77,.cells 0 (ints (nz (restr a tru).ms)))]) (fun _=>True) ?_ ⟨Zah _,d,Zah _,hq0⟩ ?_ ?_;·dsimp only;have S:mks a 0 [0]=[]:=rfl;rw[S];exact⟨[(50,.blk 50 0),(60,.blk 60 0),(69,.blk 69 0),(83,.blk 83 0),(78,.blk 78 0),(75,.blk 123 0),(76,.nil),(77,.nil)],rfl,au0,au9,au10⟩
 ·rintro⟨i,s⟩⟨hi,d,V,X⟩;dsimp only at hi d V X⊢;have hfl:=d.fi.len;have hile:=d.le;by_cases k:i<s.1.length
  ·obtain⟨v,A⟩:=Qap k;have hvn:=d.fi.lt v (Zae A);have E:i<a.n:=by omega
   have G:=d.step h.esn A;have R:sQ a.es tru (a.n+1-(i+1)) (i+1) (sRow a.es tru i v s)=sAll a tru:=by rw[<-X,show a.n+1-i=(a.n+1-(i+1))+1 by omega];simp only[sQ,A]
   have C:=fun j=>Qdq (n:=a.n) (left:=tru) i ((sOut a.es tru v).take j) s (fun e he=>⟨(h.esn e (Qa2.1 (ZaQ he)).1).2,rfl⟩) d.fi d.lft;have hol:=QeH a.es tru v;have B:=Qis (a:=a) A;have hmsl:=@QjO a i s.1;have y:mks a (i+1) (sRow a.es tru i v s).1=mks a (i+1) s.1:=by obtain⟨_,_,⟨t,ht⟩,_⟩:=Qdq (n:=a.n) (left:=tru) i (sOut a.es tru v) s (fun e he=>⟨(h.esn e (Qa2.1 he).1).2,rfl⟩) d.fi d.lft;have ht:(sRow a.es tru i v s).1=s.1++t:=ht;rw[ht,QoG (by omega)]
   have hc:=find57 a.ms v T (by omega);have ho:=out58 a v h Z (by omega);generalize hM0:mks a i s.1=M0 at*;generalize hM:mks a (i+1) s.1=M at*;refine Zc0 (Zc1 k (QbN (nz_at A))) ?_;refine cp hc ?_;by_cases p:a.ms.contains v=true
   ·rw[if_pos p]at B;rw[p];refine Zc0 (Zc1 k (QbN (nz_at A))) ?_;refine cp ho ?_;refine ZcZ ?_;refine Qaq 300 (fun j:Nat=>[(1,.ptr 50 0 0),(2,.ptr 60 0 0),(3,.ptr 69 0 0),(4,.sl 78 0 0 a.n 1),(6,.sl 75 0 0 (((sOut a.es tru v).take j).foldl (sEd i) s).1.length 1),(7,.int .i64 i),(63,egsN (sOut a.es tru v)),(64,.int .i64 (sOut a.es tru v).length),(65,.int .i64 j)]) (fun j=>[(50,.cells 0 (rsA a)),(60,.cells 0 rsN),(69,.cells 0 (cnB a M.length (((sOut a.es tru v).take j).foldl (sEd i) s).2.length)),(83,.cells 0 (ints (nz a.al))),(78,.cells 0 (ints (pl a.n (((sOut a.es tru v).take j).foldl (sEd i) s).1))),(75,.cells 0 (ints (nz (((sOut a.es tru v).take j).foldl (sEd i) s).1))),(76,.cells 0 ((((sOut a.es tru v).take j).foldl (sEd i) s).2.flatMap edC)),(77,.cells 0 (ints (nz M)))]) (fun j=>j<=(sOut a.es tru v).length) (fun j=>(sOut a.es tru v).length-j) 0 4 400 (fun _:Unit=>[(1,.ptr 50 0 0),(2,.ptr 60 0 0),(3,.ptr 69 0 0),(4,.sl 78 0 0 a.n 1),(6,.sl 75 0 0 (sRow a.es tru i v s).1.length 1),(7,.int .i64 i)]) (fun _=>[(50,.cells 0 (rsA a)),(60,.cells 0 rsN),(69,.cells 0 (cnB a M.length (sRow a.es tru i v s).2.length)),(83,.cells 0 (ints (nz a.al))),(78,.cells 0 (ints (pl a.n (sRow a.es tru i v s).1))),(75,.cells 0 (ints (nz (sRow a.es tru i v s).1))),(76,.cells 0 ((sRow a.es tru i v s).2.flatMap edC)),(77,.cells 0 (ints (nz M)))]) (fun _=>True) ?_ (Zah _) ?_ ?_;·rw[B,Zaf,QaF,Qay];exact⟨[(50,.blk 50 0),(60,.blk 60 0),(69,.blk 69 0),(83,.blk 83 0),(78,.blk 78 0),(75,.blk 75 0),(76,.blk 76 0),(77,.blk 77 1)],rfl,au0,au9,au10⟩
    ·rintro j hj;by_cases f:j<(sOut a.es tru v).length
     ·obtain⟨e,he⟩:=Qap f;have L:=Qa2.1 (Zae he);have c:=(h.esn e L.1).2;obtain⟨k1,_,_,_,_⟩:=C j;have hfi:=k1.len;have b:=QgR (i:=i) (s:=s) he;have o:=QcP (i:=i) ((sOut a.es tru v).take j) s;rw[Zav]at o;generalize(((sOut a.es tru v).take j).foldl (sEd i) s)=t at*;have l:=QbO t.2;have hpl:=QdW (n:=a.n) (o:=t.1);have g:=Qji (o:=t.1) c;have z:e.2.2<(pl a.n t.1).length:=by omega
      have u:e.2.2+1<=(pl a.n t.1).length:=by omega
      by_cases hc:e.2.2∈t.1
      ·have H:sEd i t e=(t.1,t.2++[(i,e.2.1,SD.idx t.1 e.2.2)]):=if_pos (by simpa using hc);rw[H]at b;rw[if_pos (by simpa using hc)]at g;have J:¬((SD.idx t.1 e.2.2:Nat):Int)<0:=by omega
       generalize SD.idx t.1 e.2.2=q at*;refine Zc0 (Zc6 f (QaJ he) c (Qbb z) g J l) ?_;refine⟨j+1,by omega,by omega,?_⟩;rw[b,Zaq,Zaf];exact⟨[(50,.blk 50 0),(60,.blk 60 0),(69,.blk 69 0),(83,.blk 83 0),(78,.blk 78 0),(75,.blk 75 0),(76,.blk 76 1),(77,.blk 77 0)],rfl,au0,au9,au10⟩
      have H:sEd i t e=(t.1++[e.2.2],t.2++[(i,e.2.1,t.1.length)]):=if_neg (by simpa using hc);rw[H]at b;rw[if_neg (by simpa using hc)]at g;have m:=Qq1 (n:=a.n) hc;have J:(-1:Int)<0:=by decide
      have r:e.2.2<(pl a.n (t.1++[e.2.2])).length:=by rw[QdW];exact c
      have w:(pl a.n (t.1++[e.2.2])).getD e.2.2 0=(t.1.length:Int):=by rw[Qji c,if_pos (by simp),SD.Qeg hc]
      refine Zc0 (Zdb f (QaJ he) c (Qbb z) g J l u @Qcx m (Qbb r) w) ?_;refine⟨j+1,by omega,by omega,?_⟩;rw[b,Zaq,Zaf];dsimp only;rw[Zaf,QaF,Qay];exact⟨[(50,.blk 50 0),(60,.blk 60 0),(69,.blk 69 0),(83,.blk 83 0),(78,.blk 78 0),(75,.blk 75 1),(76,.blk 76 1),(77,.blk 77 0)],rfl,au0,au9,au10⟩
     have e:j=(sOut a.es tru v).length:=by omega
     subst e;refine Zc0 f ?_;refine⟨(),?_⟩;exact⟨[(50,.blk 50 0),(60,.blk 60 0),(69,.blk 69 0),(83,.blk 83 0),(78,.blk 78 0),(75,.blk 75 0),(76,.blk 76 0),(77,.blk 77 0)],rfl,au0,au9,au10⟩
    rintro _ _;have Q:(sRow a.es tru i v s).2.length=s.2.length+(sOut a.es tru v).length:=QcP _ _;have P:=QeH a.es tru v;refine ZcZ ?_;refine⟨(i+1,sRow a.es tru i v s),by dsimp only;omega,⟨E,G,by dsimp only;omega,R⟩,?_⟩;dsimp only;rw[y];exact⟨[(50,.blk 50 0),(60,.blk 60 0),(69,.blk 69 0),(83,.blk 83 0),(78,.blk 78 0),(75,.blk 75 0),(76,.blk 76 0),(77,.blk 77 0)],rfl,au0,au9,au10⟩
   rw[if_neg p,Zap]at B;rw[Zam]at p;rw[p];refine Zc0 (Zc1 k (QbN (nz_at A))) ?_;refine cp ho ?_;refine ZcZ ?_;refine Qaq 300 (fun j:Nat=>[(1,.ptr 50 0 0),(2,.ptr 60 0 0),(3,.ptr 69 0 0),(4,.sl 78 0 0 a.n 1),(6,.sl 75 0 0 (((sOut a.es tru v).take j).foldl (sEd i) s).1.length 1),(7,.int .i64 i),(63,egsN (sOut a.es tru v)),(64,.int .i64 (sOut a.es tru v).length),(65,.int .i64 j)]) (fun j=>[(50,.cells 0 (rsA a)),(60,.cells 0 rsN),(69,.cells 0 (cnB a M.length (((sOut a.es tru v).take j).foldl (sEd i) s).2.length)),(83,.cells 0 (ints (nz a.al))),(78,.cells 0 (ints (pl a.n (((sOut a.es tru v).take j).foldl (sEd i) s).1))),(75,.cells 0 (ints (nz (((sOut a.es tru v).take j).foldl (sEd i) s).1))),(76,.cells 0 ((((sOut a.es tru v).take j).foldl (sEd i) s).2.flatMap edC)),(77,.cells 0 (ints (nz M)))]) (fun j=>j<=(sOut a.es tru v).length) (fun j=>(sOut a.es tru v).length-j) 0 4 400 (fun _:Unit=>[(1,.ptr 50 0 0),(2,.ptr 60 0 0),(3,.ptr 69 0 0),(4,.sl 78 0 0 a.n 1),(6,.sl 75 0 0 (sRow a.es tru i v s).1.length 1),(7,.int .i64 i)]) (fun _=>[(50,.cells 0 (rsA a)),(60,.cells 0 rsN),(69,.cells 0 (cnB a M.length (sRow a.es tru i v s).2.length)),(83,.cells 0 (ints (nz a.al))),(78,.cells 0 (ints (pl a.n (sRow a.es tru i v s).1))),(75,.cells 0 (ints (nz (sRow a.es tru i v s).1))),(76,.cells 0 ((sRow a.es tru i v s).2.flatMap edC)),(77,.cells 0 (ints (nz M)))]) (fun _=>True) ?_ (Zah _) ?_ ?_;·rw[B];exact⟨[(50,.blk 50 0),(60,.blk 60 0),(69,.blk 69 0),(83,.blk 83 0),(78,.blk 78 0),(75,.blk 75 0),(76,.blk 76 0),(77,.blk 77 0)],rfl,au0,au9,au10⟩
   ·rintro j hj;by_cases f:j<(sOut a.es tru v).length
    ·obtain⟨e,he⟩:=Qap f;have L:=Qa2.1 (Zae he);have c:=(h.esn e L.1).2;obtain⟨k1,_,_,_,_⟩:=C j;have hfi:=k1.len;have b:=QgR (i:=i) (s:=s) he;have o:=QcP (i:=i) ((sOut a.es tru v).take j) s;rw[Zav]at o;generalize(((sOut a.es tru v).take j).foldl (sEd i) s)=t at*;have l:=QbO t.2;have hpl:=QdW (n:=a.n) (o:=t.1);have g:=Qji (o:=t.1) c;have z:e.2.2<(pl a.n t.1).length:=by omega
     have u:e.2.2+1<=(pl a.n t.1).length:=by omega
     by_cases hc:e.2.2∈t.1
     ·have H:sEd i t e=(t.1,t.2++[(i,e.2.1,SD.idx t.1 e.2.2)]):=if_pos (by simpa using hc);rw[H]at b;rw[if_pos (by simpa using hc)]at g;have J:¬((SD.idx t.1 e.2.2:Nat):Int)<0:=by omega
      generalize SD.idx t.1 e.2.2=q at*;refine Zc0 (Zc6 f (QaJ he) c (Qbb z) g J l) ?_;refine⟨j+1,by omega,by omega,?_⟩;rw[b,Zaq,Zaf];exact⟨[(50,.blk 50 0),(60,.blk 60 0),(69,.blk 69 0),(83,.blk 83 0),(78,.blk 78 0),(75,.blk 75 0),(76,.blk 76 1),(77,.blk 77 0)],rfl,au0,au9,au10⟩
     have H:sEd i t e=(t.1++[e.2.2],t.2++[(i,e.2.1,t.1.length)]):=if_neg (by simpa using hc);rw[H]at b;rw[if_neg (by simpa using hc)]at g;have m:=Qq1 (n:=a.n) hc;have J:(-1:Int)<0:=by decide
     have r:e.2.2<(pl a.n (t.1++[e.2.2])).length:=by rw[QdW];exact c
     have w:(pl a.n (t.1++[e.2.2])).getD e.2.2 0=(t.1.length:Int):=by rw[Qji c,if_pos (by simp),SD.Qeg hc]
     refine Zc0 (Zdb f (QaJ he) c (Qbb z) g J l u @Qcx m (Qbb r) w) ?_;refine⟨j+1,by omega,by omega,?_⟩;rw[b,Zaq,Zaf];dsimp only;rw[Zaf,QaF,Qay];exact⟨[(50,.blk 50 0),(60,.blk 60 0),(69,.blk 69 0),(83,.blk 83 0),(78,.blk 78 0),(75,.blk 75 1),(76,.blk 76 1),(77,.blk 77 0)],rfl,au0,au9,au10⟩
    have e:j=(sOut a.es tru v).length:=by omega
    subst e;refine Zc0 f ?_;refine⟨(),?_⟩;exact⟨[(50,.blk 50 0),(60,.blk 60 0),(69,.blk 69 0),(83,.blk 83 0),(78,.blk 78 0),(75,.blk 75 0),(76,.blk 76 0),(77,.blk 77 0)],rfl,au0,au9,au10⟩
   rintro _ _;have Q:(sRow a.es tru i v s).2.length=s.2.length+(sOut a.es tru v).length:=QcP _ _;have P:=QeH a.es tru v;refine ZcZ ?_;refine⟨(i+1,sRow a.es tru i v s),by dsimp only;omega,⟨E,G,by dsimp only;omega,R⟩,?_⟩;dsimp only;rw[y];exact⟨[(50,.blk 50 0),(60,.blk 60 0),(69,.blk 69 0),(83,.blk 83 0),(78,.blk 78 0),(75,.blk 75 0),(76,.blk 76 0),(77,.blk 77 0)],rfl,au0,au9,au10⟩
  have A:s.1[i]?=none:=ZaD (by omega);have I:s=sAll a tru:=by rw[<-X,show a.n+1-i=(a.n-i)+1 by omega];simp only[sQ,A]
  have hil:i=s.1.length:=by omega
  have hmf:mks a i s.1=(restr a tru).ms:=by rw[hil,I];rfl
  have hef:s.2=(restr a tru).es:=by rw[I];rfl
  refine Zc0 k ?_;refine⟨(),?_⟩;rw[hmf,hef,<-I];exact⟨[(60,.blk 60 0),(69,.blk 69 0),(83,.blk 83 0),(75,.blk 75 0),(76,.blk 76 0),(77,.blk 77 0)],rfl,au0,au9,au10⟩
 rintro _ _;have hra:(restr a tru).al=a.al:=rfl;have hrn2:(restr a tru).n=(sAll a tru).1.length:=rfl;refine ZcZ ?_;refine⟨.inr trivial,_,rfl,?_⟩;exact Rn.agg (ZcH (Rn.fz0 (g:=0) rfl (by simp[ints,hra]) (Zcr (Qad _))) (ZcH (Zcq rfl) (ZcH (Rn.fz0 (g:=0) rfl (by simp[ints]) (Zcr (Qad _))) (ZcH (Rn.fz0 (g:=0) rfl (QbO _) (Zcr (Qaf _))) ZcG))))
end Go.AM.SE
namespace Go.AM.SO
open Go.Proofs Go.AM.SD Go.AM.SE
theorem check112(a:Aut)(h:WfA a)(b:a.es.length<=1000000):Pq 91 [aV a] (.int .i64 0):=by have:=check37 (au a) (WfA.auOk h b);rwa[Quq]at this
theorem isCanon60(a:Aut)(h:WfA a)(b:a.es.length<=1000000)(hc:restr a (fun _=>true)=a):Pq 129 [aV a] (.bool true):=by have h1:=canonical44 a h b;have c:restr a tru=a:=hc;rw[c]at h1;have f:=h.n5;have g:a.al.length<=32:=QaQ 32 a.al (by rw[ZaN];exact h.al.imp fun h=>by omega) h.al5;have i:a.ms.length<=a.n:=QaQ a.n a.ms h.nd h.msn;have ho:AOk a:=⟨by omega,by omega,by omega⟩;have d:=eq43 a a ho ho;rw[Qk6]at d;refine Zcu 64 ok129 rfl (by(try simp only[noRefs,Qad,Qaj,Qaf,Qak,Qah,noRef,Zad,Zac])<;>rfl) rfl ?_;unfold s129;refine ZcR ?_;refine cp (check112 a h b) ?_;refine ZcR ?_;refine cp h1 ?_;refine ZcR ?_;refine cp d ?_;refine ZcR ?_;exact⟨.inr trivial,_,rfl,rfl⟩
end Go.AM.SO
namespace Go.AM.SK
open Go.Proofs
set_option maxHeartbeats 4000000
noncomputable section
def cf:YA.Cf:={}
noncomputable def ft:FT2:=YA.tre Tryz.prog cf 20 [14,15,16,17,18,21,36,39,41,45,46,48,56,57,58,59,60,61,62,63,64,65,66,67,73,74,75,76,77,90,91,95,96,97,108,109,112,113,114,115,116,117,118,119,120,121,122,123,124,125,126,128,129,130,131,132,133,134,135,136,137,138,139,140,142,143,154,161,162,165,171,175,194,196,197,198,199,200,201,202,203,204,205,206,214,215,216,218,219,224,238,249,250,251,252,253,254,255,256,257,261,262,263,287,291]
theorem ft_ok:ft.OK Tryz.prog:=YA.QgE _ _ (YA.QfI (by kernel_rfl))
end
end Go.AM.SK
namespace Go.AM.SP
open Go.Proofs
noncomputable section
def isTrue:AV->Bool|.bool true=>true|_=>false
theorem QgY:∀u,isTrue u=true->u=.bool true:=by
 intro u h;unfold isTrue at h;split at h;·rfl
 cases h
def nameB(s:List UInt8):Bool:=callR ansB noOrc SK.ft.get (exR ansB noOrc SK.ft.get 1000) (.c .pure) 128 [.str s] .e 64 (fun u _ _=>isTrue u)
theorem Qcp{s:List UInt8}(h:nameB s=true):Pq 128 [.str s] (.bool true):=Qcj (t:=SK.ft) SK.ft_ok QeF (d:=1000) isTrue QgY h
theorem Quz:Pq 128 [.str [97]] (.bool true):=Qcp (by kernel_rfl)
theorem QuA:Pq 128 [.str [98]] (.bool true):=Qcp (by kernel_rfl)
theorem QmU:Pq 128 [.str [99]] (.bool true):=Qcp (by kernel_rfl)
theorem QuB:Pq 128 [.str [100]] (.bool true):=Qcp (by kernel_rfl)
theorem QuC:Pq 128 [.str [101]] (.bool true):=Qcp (by kernel_rfl)
theorem Qto:Pq 128 [.str [99,48]] (.bool true):=Qcp (by kernel_rfl)
theorem Qtp:Pq 128 [.str [99,49]] (.bool true):=Qcp (by kernel_rfl)
theorem Qtq:Pq 128 [.str [99,50]] (.bool true):=Qcp (by kernel_rfl)
theorem Qtr:Pq 128 [.str [114,48]] (.bool true):=Qcp (by kernel_rfl)
theorem Qts:Pq 128 [.str [114,49]] (.bool true):=Qcp (by kernel_rfl)
end
end Go.AM.SP
namespace Go.AM.SO
open Go.Proofs Go.AM.SD Go.AM.SE
structure Evt where
 c:Bool
 o:Bool
 f:Bool
 flt:Nat
def Evt.Ok(e:Evt):Prop:=e.flt<=4/\(e.flt≠0->e.c=false/\e.o=false)
def evC(i:Nat)(e:Evt):List AV:=[.str [UInt8.ofNat (97+i)],.bool e.c,.bool e.o,.bool e.f,.int .i64 (e.flt:Int)]
abbrev evsC(e:Nat->Evt):List AV:=evC 0 (e 0)++evC 1 (e 1)++evC 2 (e 2)++evC 3 (e 3)++evC 4 (e 4)
abbrev evsV(e:Nat->Evt):AV:=.fsl (evsC e) 5 5
theorem QuD(e:Nat->Evt){i:Nat}(hi:i<5):((evsC e).drop (i*5)).take 5=evC i (e i):=by
 have:i=0\/i=1\/i=2\/i=3\/i=4:=by omega
 rcases this with rfl|rfl|rfl|rfl|rfl<;>rfl
theorem Qfm(e:Nat->Evt):(evsC e).length=25:=rfl
theorem Qtt{i:Nat}(hi:i<5):Pq 128 [.str [UInt8.ofNat (97+i)]] (.bool true):=by
 have:i=0\/i=1\/i=2\/i=3\/i=4:=by omega
 rcases this with rfl|rfl|rfl|rfl|rfl;·exact SP.Quz
 ·exact SP.QuA
 ·exact SP.QmU
 ·exact SP.QuB
 exact SP.QuC
def nmL(i:Nat):List (List UInt8):=(List.range i).map fun j=>[UInt8.ofNat (97+j)]
theorem Qsq{i:Nat}:nmL (i+1)=nmL i++[[UInt8.ofNat (97+i)]]:=by unfold nmL;rw[ZaO,ZaK];rfl
theorem Qtu{i:Nat}(hi:i<5):[UInt8.ofNat (97+i)]∉nmL i:=by
 have:i=0\/i=1\/i=2\/i=3\/i=4:=by omega
 rcases this with rfl|rfl|rfl|rfl|rfl<;>decide
abbrev yes:List UInt8->AV:=fun _=>.bool true
theorem Qiy{x:List UInt8}:updS yes x (.bool true)=yes:=by funext y;simp[updS]
theorem Qq2(e:Nat->Evt):noRefs [evsV e]=true:=rfl
theorem _root_.Go.AM.au11{p:Prop}(h:p:=by repeat(first|exact Zcy|(refine Zcz ?_ ?_;·(first|exact Rn.any|exact Rn.x1 rfl rfl|exact Rn.x2 rfl rfl|exact Rn.x3 rfl rfl|exact Rn.x4 rfl rfl|exact Rn.x5 rfl|exact Rn.x6 rfl|exact Rn.x7 rfl|(refine Rn.slot ?_ ?_;(first|rfl|(rw[ZaS];rfl));(first|rfl|(simp only[noRef,noRefs,Qag,Zad,Zac,Zai,Qad,Qan,Qae];done)))|(refine Rn.fn ?_ ?_<;>(repeat'(first|exact ZcG|refine ZcH ?_ ?_|exact Zcq rfl|exact Rn.x6 rfl|exact Rn.x2 rfl rfl|exact Rn.x5 rfl|exact Rn.x1 rfl rfl))))))):p:=h
theorem check82(e:Nat->Evt)(he:∀i,i<5->(e i).Ok):Pq 73 [evsV e] (.int .i64 0):=by
 refine Zcu 64 ok73 rfl (Qq2 e) rfl ?_;unfold s73;refine ZcZ ?_;refine QaL 100 (fun i:Nat=>[(10,evsV e),(11,.int .i64 5),(12,.int .i64 i),(3,.map 68 0)]) (fun i=>[(68,.map 0 (mapS yes (nmL i)))]) (fun i=>i<=5) (fun i=>5-i) 0 ⟨[(68,.blk 68 0)],rfl,au0,?_,au11⟩ (Zah _) ?_;·exact ZcD rfl rfl rfl trivial ZcA
 rintro i hi;by_cases d:i<5
 ·have a:(i:Int)<5:=by omega
  have g:=QuD e d;have l:5<=(List.drop (i*5) (evsC e)).length:=by rw[Za3,Qfm];omega
  have f:evC i (e i)=[.str [UInt8.ofNat (97+i)],.bool (e i).c,.bool (e i).o,.bool (e i).f,.int .i64 ((e i).flt:Int)]:=rfl;obtain⟨m,hc⟩:=he i d;generalize e i=p at g f m hc;obtain⟨s,r,q,b⟩:=p;dsimp only at g f m hc;have c:=Qtu d;have k:=@Qsq i;have h:=Qtt d;generalize UInt8.ofNat (97+i)=ch at f c k h;refine Zc0 (Zc3 a g l f) ?_;refine cp h ?_;refine ZcZ ?_;refine QgV rfl c ?_;have k1:¬(b:Int)<0:=by omega
  have k2:¬4<(b:Int):=by omega
  by_cases o:b=0
  ·have k3:(b:Int)=0:=by omega
   simp(disch:=first|omega|(simp only[lenW]<;>omega))only[k1,k2,k3,wW,wV,simprocAttr];refine QeI gg c (by omega) ?_;refine Zc0 @Qiy ?_;refine⟨i+1,by omega,by omega,?_⟩;rw[k];refine⟨[(68,.blk 68 0)],rfl,au0,?_,au11⟩;exact ZcD rfl rfl gg (RnM.mapS fun _ _=>Zcq rfl) ZcA
  have k3:¬(b:Int)=0:=by omega
  obtain⟨rfl,rfl⟩:=hc o;simp(disch:=first|omega|(simp only[lenW]<;>omega))only[k1,k2,k3,wW,wV,simprocAttr];refine QeI gg c (by omega) ?_;refine Zc0 @Qiy ?_;refine⟨i+1,by omega,by omega,?_⟩;rw[k];refine⟨[(68,.blk 68 0)],rfl,au0,?_,au11⟩;exact ZcD rfl rfl gg (RnM.mapS fun _ _=>Zcq rfl) ZcA
 have a:¬(i:Int)<5:=by omega
 refine Zc0 a ?_;exact⟨.inr trivial,_,rfl,rfl⟩
def evOf(b:Nat):Evt:=if 48<=b/\b<52 then⟨false,false,false,b-47⟩else⟨decide (b&&&1=1),decide (b&&&2=2),decide (b&&&4=4),0⟩
theorem Qtv(b:Nat):(evOf b).Ok:=by
 unfold evOf;split;·exact⟨by grind,fun _=>⟨rfl,rfl⟩⟩
 exact⟨by simp_all,fun h=>absurd rfl h⟩
theorem andN(b m:Nat)(a:b<256)(hm:m<256):(BitVec.ofInt 8 (b:Int)&&&BitVec.ofInt 8 (m:Int)).toNat=b&&&m:=by grind
theorem QmV(b m:Nat)(hm:m<256):b&&&m<256:=Nat.lt_of_le_of_lt Nat.and_le_right hm
theorem Qq3{b:Nat}(a:b<256):aBin .and (.int .u8 (b:Int)) (.int .u8 1)=some (.int .u8 ((b&&&1:Nat):Int)):=by have:=andN b 1 a (by omega);have c:=QmV b 1 (by omega);simp only[aBin,if_true];rw[show IntKind.u8.bits=8 from rfl,show(1:Int)=((1:Nat):Int)from rfl,this,wr_u8 (by omega) (by omega)]
theorem Qq4{b:Nat}(a:b<256):aBin .and (.int .u8 (b:Int)) (.int .u8 2)=some (.int .u8 ((b&&&2:Nat):Int)):=by have:=andN b 2 a (by omega);have c:=QmV b 2 (by omega);simp only[aBin,if_true];rw[show IntKind.u8.bits=8 from rfl,show(2:Int)=((2:Nat):Int)from rfl,this,wr_u8 (by omega) (by omega)]
theorem Qq5{b:Nat}(a:b<256):aBin .and (.int .u8 (b:Int)) (.int .u8 4)=some (.int .u8 ((b&&&4:Nat):Int)):=by have:=andN b 4 a (by omega);have c:=QmV b 4 (by omega);simp only[aBin,if_true];rw[show IntKind.u8.bits=8 from rfl,show(4:Int)=((4:Nat):Int)from rfl,this,wr_u8 (by omega) (by omega)]
def evP(F:List Nat)(i:Nat):List AV:=(List.range i).flatMap fun j=>evC j (evOf (F.getD j 0))
theorem QmW{F:List Nat}{i:Nat}:evP F (i+1)=evP F i++evC i (evOf (F.getD i 0)):=by simp_all[evP,ZaO]
theorem QjR{F:List Nat}:∀{i:Nat},(evP F i).length=i*5|0=>rfl|i+1=>by rw[QmW,Zaf,QjR];simp[evC];omega
end Go.AM.SO
namespace Go.AM.SO
open Go.Proofs Go.AM.SD Go.AM.SE
structure Cel where
 ev:Nat->Evt
 cs:List (Nat×Aut)rs:List (Nat×Aut)xs:List (Nat×List (Nat×Nat))ks:List (List (Nat×Int)×Int)
def itC(ch:UInt8)(x:Nat×Aut):List AV:=[.str [ch,UInt8.ofNat (48+x.1)],sliN x.2.al,.int .i64 (x.2.n:Int),sliN x.2.ms,egsN x.2.es]
def loC(x:Nat×Nat):List AV:=[.int .i64 (x.1:Int),.int .i64 (x.2:Int)]
abbrev los(l:List (Nat×Nat)):AV:=.fsl (l.flatMap loC) l.length 2
def exC(x:Nat×List (Nat×Nat)):List AV:=[.str [101,UInt8.ofNat (48+x.1)],los x.2]
def teC(x:Nat×Int):List AV:=[.int .i64 (x.1:Int),.int .i64 x.2]
abbrev tes(l:List (Nat×Int)):AV:=.fsl (l.flatMap teC) l.length 2
def coC(x:List (Nat×Int)×Int):List AV:=[.str [107],tes x.1,.int .i64 x.2]
abbrev its(ch:UInt8)(l:List (Nat×Aut)):AV:=.fsl (l.flatMap (itC ch)) l.length 5
abbrev exs(l:List (Nat×List (Nat×Nat))):AV:=.fsl (l.flatMap exC) l.length 2
abbrev cos(l:List (List (Nat×Int)×Int)):AV:=.fsl (l.flatMap coC) l.length 3
abbrev celV(c:Cel):AV:=.agg [evsV c.ev,its 99 c.cs,its 114 c.rs,exs c.xs,cos c.ks]
structure WfI(a:Aut):Prop where
 wf:WfA a
 a5:∀x∈a.al,x<5
 pos:0<a.n
 n3:a.n<=3
 can:restr a (fun _=>true)=a
 el:a.es.length<=25
structure WfJ(a:Aut):Prop where
 wf:WfA a
 pos:0<a.n
 n10:a.n<=10
theorem WfI.j{a:Aut}(h:WfI a):WfJ a:=⟨h.wf,h.pos,by have:=h.n3;omega⟩
structure WfCel(c:Cel):Prop where
 ev:∀i,i<5->(c.ev i).Ok
 c0:0<c.cs.length
 c3:c.cs.length<=3
 r2:c.rs.length<=2
 x2:c.xs.length<=2
 k1:c.ks.length<=1
 cn:c.cs.map (·.1)=List.range c.cs.length
 rn:c.rs.map (·.1)=List.range c.rs.length
 xn:(c.xs.map (·.1)).Pairwise (·<·)/\∀x∈c.xs,x.1<2
 ca:∀x∈c.cs,WfI x.2
 ra:∀x∈c.rs,WfI x.2
 rsub:∀x∈c.rs,∀e∈x.2.al,∃y∈c.cs,e∈y.2.al
 xl:∀x∈c.xs,x.2≠[]/\(x.2.map (·.1)).Pairwise (·<·)/\∀l∈x.2,∃y,c.cs[l.1]?=some y/\l.2<y.2.n
 kl:∀x∈c.ks,x.1≠[]/\(x.1.map (·.1)).Pairwise (·<·)/\(∀t∈x.1,t.1<c.cs.length/\t.2≠0/\-4<t.2/\t.2<4)/\-8<x.2/\x.2<8
theorem QpC{l:List Nat}(h:l.Pairwise (·<·)){p q:Nat}(a:p<q)(b:q<l.length):l.getD p 0<l.getD q 0:=by grind[Zbe]
theorem partLt{n b:Nat}:∀x∈SD.part n b,x<n:=fun x a=>(Qmr.1 a).1
theorem Qtw{al:List Nat}{st mk:Nat}{T:List Nat}(f:al.Pairwise (·<·))(k:∀x∈al,x<5):WfA (gRaw al st mk T):=by
 have r:=QfT (st:=st) (mk:=mk) (T:=T) (Qby f k);have a:=r.esn;have b:=r.n5;unfold gRaw at a b⊢;split;·exact⟨f,fun x d=>by have:=k x d;omega,by simp,by simp,by simp,by simp,by simp,by simp⟩
 rename_i l;rw[if_neg l]at a b;have t:∀i,∀e∈gRow al (1+st%5) T i al.length,e.1=i/\∃j,j<al.length/\e.2.1=al.getD j 0:=fun i e he=>by unfold gRow at he;obtain⟨j,v,hm⟩:=Zbu.1 he;unfold gEd at hm;grind
 refine⟨f,fun x d=>by have:=k x d;omega,by dsimp only at b⊢;omega,QdH _ _,partLt,?_,a,fun e he=>?_⟩
 ·show(gPre _ _ _ _).Pairwise _;unfold gPre;refine QcN (fun i _=>?_) (List.pairwise_lt_range.imp fun s x d y o=>.inl ?_)
  ·unfold gRow;refine List.Pairwise.filterMap _ (R:=fun j m=>j<m/\m<al.length) ?_ (List.pairwise_lt_range.imp_of_mem fun _ u h=>⟨h,Zat.1 u⟩);rintro x y⟨g,o⟩p hp q c;unfold gEd at hp c;split at hp
   ·split at c;·cases hp;cases c;exact .inr ⟨rfl,QpC f g o⟩
    cases c
   cases hp
  grind
 grind[gPre]
theorem Qtx{al:List Nat}{st mk:Nat}{T:List Nat}(b:al.Pairwise (·<·))(a:∀x∈al,x<5):restr (mkA al st mk T) (fun _=>true)=mkA al st mk T:=by have h:=Qtw (st:=st) (mk:=mk) (T:=T) b a;show restr (canon _) _=canon _;grind[QnR,QnM]
theorem QmX{es:List Ed}{s:Nat}:∀{L:List Nat}{out:List Nat},out.length<=(L.foldl (fEv es s) out).length|[],out=>ZaM _|e::L,out=>by rw[ZaP];refine Zaw ?_ (QmX (L:=L));grind[fEv]
theorem Qq6{al:List Nat}{es:List Ed}:∀(k i:Nat)(out:List Nat),out.length<=(fQ al es k i out).length
 |0,_,_=>ZaM _|k+1,i,out=>by
  unfold fQ;split;·exact Zaw QmX (Qq6 k (i+1) _)
  omega
theorem QoK{al:List Nat}{st mk:Nat}{T:List Nat}(b:al.Pairwise (·<·))(a:∀x∈al,x<5)(k:st<3):WfI (mkA al st mk T):=by
 have d:=QfT (st:=st) (mk:=mk) (T:=T) (Qby b a);have e:gRaw al st mk T=⟨al,1+st%5,SD.part (1+st%5) mk,gPre al (1+st%5) T (1+st%5)⟩:=if_neg (by omega);have c:(gRaw al st mk T).n<=3:=by grind
 have hf:(found (gRaw al st mk T)).length<=(gRaw al st mk T).n:=QaQ _ _ (QfK d.esn).1.nd (QfK d.esn).1.lt;have h1:=Qiv (gRaw al st mk T) (found (gRaw al st mk T)) (found (gRaw al st mk T)).length;refine⟨Qux b a,fun x f=>a x (by rwa[show(mkA al st mk T).al=al from by show(gRaw al st mk T).al=al;rw[e]]at f),?_,Zaw hf c,Qtx b a,?_⟩
 ·show 0<(found (gRaw al st mk T)).length;have g:0<(gRaw al st mk T).n:=by grind
  unfold found;rw[if_pos g];exact ZaU (by simp) (Qq6 _ _ _)
 have i:(mkA al st mk T).es.length=(cPre (gRaw al st mk T) (found (gRaw al st mk T)) (found (gRaw al st mk T)).length).length:=rfl;rw[i];have h:(gRaw al st mk T).al.length<=5:=by simp_all[Qby]
 refine Zaw h1 (Zaw (Nat.mul_le_mul (Zaw hf c) h) (by decide))
structure Pln where
 L:List Nat
 X:List Nat
 xn:Nat
 f0:Int
 f1:Int
 f2:Int
 bd:Int
structure POk(p:Pln):Prop where
 L:p.L.length=147
 L8:∀x∈p.L,x<256
 X:p.X.length=p.xn*4
 X8:∀x∈p.X,x<256
 f0:-128<=p.f0/\p.f0<128
 f1:-128<=p.f1/\p.f1<128
 f2:-128<=p.f2/\p.f2<128
 bd:-128<=p.bd/\p.bd<128
abbrev plnC(p:Pln):List AV:=u8s p.L++[.fsl (u8s p.X) p.xn 4,.int .i8 p.f0,.int .i8 p.f1,.int .i8 p.f2,.int .i8 p.bd]
abbrev plnV(p:Pln):AV:=.agg (plnC p)
variable(p:Pln)
def pN:Nat:=1+p.L.getD 5 0%3
def pM:Nat:=p.L.getD 90 0%3
def pA(i:Nat):Aut:=mkA (SD.part 5 (p.L.getD (6+i) 0)) (p.L.getD (9+i*27) 0%3) (p.L.getD (9+i*27+1) 0) ((p.L.drop (9+i*27+2)).take 25)
def pAll:Nat->Nat|0=>0|i+1=>pAll i|||p.L.getD (6+i) 0%32
def pW(i:Nat):List Nat:=(SD.part 5 (p.L.getD (91+i) 0)).filter fun x=>(pAll p (pN p)).testBit x
def pR(i:Nat):Aut:=mkA (pW p i) (p.L.getD (93+i*27) 0%3) (p.L.getD (93+i*27+1) 0) ((p.L.drop (93+i*27+2)).take 25)
def pCs(n:Nat):List (Nat×Aut):=(List.range n).map fun i=>(i,pA p i)
def pRs(n:Nat):List (Nat×Aut):=(List.range n).map fun i=>(i,pR p i)
def pLo(i:Nat):Nat->List (Nat×Nat)|0=>[]|k+1=>if p.X.getD (i*4+k) 0%((pA p k).n+2)<(pA p k).n then pLo i k++[(k,p.X.getD (i*4+k) 0%((pA p k).n+2))]else pLo i k
def pXs:Nat->List (Nat×List (Nat×Nat))|0=>[]|i+1=>if 0<(pLo p i (pN p)).length then pXs i++[(i,pLo p i (pN p))]else pXs i
def pF(i:Nat):Int:=if i=0 then p.f0 else if i=1 then p.f1 else p.f2
def pT:Nat->List (Nat×Int)|0=>[]|i+1=>if pF p i=0 then pT i else pT i++[(i,(pF p i).tmod 4)]
def pT0:List (Nat×Int):=(pT p (pN p)).filter fun t=>!(decide (t.2=0))
def pKs:List (List (Nat×Int)×Int):=if 0<(pT0 p).length then[(pT0 p,p.bd.tmod 8)]else[]
def mkC:Cel:=⟨fun i=>evOf ((p.L.take 5).getD i 0),pCs p (pN p),pRs p (pM p),pXs p (min p.xn 2),pKs p⟩
variable{p}
theorem pN_le:1<=pN p/\pN p<=3:=by unfold pN;omega
theorem pM_le:pM p<=2:=by unfold pM;omega
theorem Qk9(i:Nat):(pW p i).Pairwise (·<·):=(QdH _ _).filter _
theorem pW_lt(i:Nat):∀x∈pW p i,x<5:=fun x a=>partLt x (ZaL.1 a).1
theorem pA_wf(i:Nat):WfI (pA p i):=QoK (QdH _ _) partLt (by omega)
theorem pR_wf(i:Nat):WfI (pR p i):=QoK (Qk9 i) (pW_lt i) (by omega)
theorem Qq7{al:List Nat}{st mk:Nat}{T:List Nat}:(mkA al st mk T).al=al:=by show(gRaw al st mk T).al=al;grind[gRaw]
theorem Qjj{i:Nat}:∀{n:Nat},∀x∈pLo p i n,x.1<n/\x.2<(pA p x.1).n
 |0,x,h=>by cases h|n+1,x,h=>by
  unfold pLo at h;split at h
  ·rename_i hc;rcases ZaE.1 h with h|h;·have:=Qjj x h;omega
   simp_all
  have:=Qjj x h;omega
theorem QfU{i:Nat}:∀{n:Nat},((pLo p i n).map (·.1)).Pairwise (·<·)
 |0=>by simp[pLo]|n+1=>by
  unfold pLo;split;·rw[ZaK,Zbh];refine⟨QfU,by simp,fun x c y a=>?_⟩;simp at a;subst a;obtain⟨z,b,rfl⟩:=Zan.1 c;exact(Qjj z b).1
  exact QfU
theorem QgZ:∀{n:Nat},∀x∈pXs p n,x.1<n/\x.2=pLo p x.1 (pN p)/\x.2≠[]
 |0,x,h=>by cases h|n+1,x,h=>by
  unfold pXs at h;split at h
  ·rename_i hc;rcases ZaE.1 h with h|h;·have:=QgZ x h;grind
   grind
  have:=QgZ x h;grind
theorem QfV:∀{n:Nat},((pXs p n).map (·.1)).Pairwise (·<·)
 |0=>by simp[pXs]|n+1=>by
  unfold pXs;split;·rw[ZaK,Zbh];refine⟨QfV,by simp,fun x c y a=>?_⟩;simp at a;subst a;obtain⟨z,b,rfl⟩:=Zan.1 c;exact(QgZ z b).1
  exact QfV
theorem QjS:∀{n:Nat},(pXs p n).length<=n|0=>by simp[pXs]|n+1=>by have:=@QjS n;grind[pXs]
theorem QjT{i:Nat}:∀{n:Nat},(pLo p i n).length<=n|0=>by simp[pLo]|n+1=>by have:=@QjT i n;grind[pLo]
theorem QmY:∀{n:Nat},(pT p n).length<=n|0=>by simp[pT]|n+1=>by have:=@QmY n;grind[pT]
theorem pT_lt:∀{n:Nat},∀x∈pT p n,x.1<n/\-4<x.2/\x.2<4
 |0,x,h=>by cases h|n+1,x,h=>by
  unfold pT at h;split at h;·have:=pT_lt x h;omega
  rcases ZaE.1 h with h|h;·have:=pT_lt x h;omega
  grind
theorem Qg0:∀{n:Nat},((pT p n).map (·.1)).Pairwise (·<·)
 |0=>by simp[pT]|n+1=>by
  unfold pT;split;·exact Qg0
  rw[ZaK,Zbh];refine⟨Qg0,by simp,fun x c y a=>?_⟩;simp at a;subst a;obtain⟨z,b,rfl⟩:=Zan.1 c;exact(pT_lt z b).1
theorem QmZ{e:Nat}:∀{n:Nat},(pAll p n).testBit e=true->e<5->∃i,i<n/\(p.L.getD (6+i) 0).testBit e=true
 |0,h,_=>by simp[pAll]at h|n+1,h,a=>by
  unfold pAll at h;rw[Nat.testBit_or,Zbq]at h;rcases h with h|h;·obtain⟨i,hi,h⟩:=QmZ h a;grind
  rw[show 32=2^5 from rfl,Nat.testBit_mod_two_pow]at h;grind
theorem Qq8{n i:Nat}(h:i<n):(pCs p n)[i]?=some (i,pA p i):=by simp_all[pCs]
theorem Qg1:WfCel (mkC p):=by
 have h1:=@pN_le p;have s:=@pM_le p;have hc:(pCs p (pN p)).length=pN p:=by simp[pCs]
 have u:(pRs p (pM p)).length=pM p:=by simp[pRs]
 have a:=@QjS p (min p.xn 2);refine⟨fun i _=>Qtv _,?_,?_,?_,?_,?_,?_,?_,⟨QfV,fun x a=>?_⟩,fun x a=>?_,fun x a=>?_,fun x a e he=>?_,fun x a=>?_,fun x a=>?_⟩;·show 0<(pCs p (pN p)).length;omega
 ·show(pCs p (pN p)).length<=3;omega
 ·show(pRs p (pM p)).length<=2;omega
 ·show(pXs p _).length<=2;omega
 ·show(pKs p).length<=1;grind[pKs]
 ·show(pCs p (pN p)).map (·.1)=List.range (pCs p (pN p)).length;simp_all[pCs,Function.comp_def]
 ·show(pRs p (pM p)).map (·.1)=List.range (pRs p (pM p)).length;simp_all[pRs,Function.comp_def]
 ·have:=(QgZ x a).1;omega
 ·obtain⟨i,_,rfl⟩:=Zan.1 (show x∈pCs p (pN p)from a);exact pA_wf i
 ·obtain⟨i,_,rfl⟩:=Zan.1 (show x∈pRs p (pM p)from a);exact pR_wf i
 ·obtain⟨i,_,rfl⟩:=Zan.1 (show x∈pRs p (pM p)from a);dsimp only at he;rw[show(pR p i).al=pW p i from Qq7]at he;obtain⟨c,d⟩:=ZaL.1 he;obtain⟨j,o,d⟩:=QmZ d (partLt e c);refine⟨(j,pA p j),Zan.2 ⟨j,Zat.2 o,rfl⟩,?_⟩;simp_all[pA,Qq7,Qmr]
 ·obtain⟨_,g,c⟩:=QgZ x a;refine⟨c,by grind[QfU],fun l f=>?_⟩;rw[g]at f;obtain⟨h,q⟩:=Qjj l f;exact⟨_,Qq8 h,q⟩
 have b:x∈pKs p:=a;unfold pKs at b;split at b
 ·rename_i m;simp at b;subst b;refine⟨List.ne_nil_of_length_pos m,?_,fun t k=>?_,?_,?_⟩;·exact(Qg0 (n:=pN p)).sublist (List.Sublist.map _ (List.filter_sublist))
  ·obtain⟨r,g⟩:=ZaL.1 (show t∈pT0 p from k);have c:=pT_lt t r;simp_all[mkC]
  ·grind
  grind
 cases b
end Go.AM.SO
namespace Go.AM.SO
open Go.Proofs Go.AM.SD Go.AM.SE
def stp(l:List Aut)(t:List Nat)(e:Nat):Nat->Option (List Nat)|0=>some t|k+1=>match stp l t e k with|none=>none|some n=>match l[k]? with|none=>some n|some a=>if e∈a.al then(match stepA a.es (t.getD k 0) e with|some to=>some (n.set k to)|none=>none)else some n
def stepT(l:List Aut)(t:List Nat)(e:Nat):Option (List Nat):=stp l t e l.length
def Stp(l:List Aut)(t:List Nat)(e:Nat)(n:List Nat)(k:Nat):Prop:=n.length=t.length/\(∀i,k<=i->n[i]?=t[i]?)/\∀i a,i<k->l[i]?=some a->if e∈a.al then stepA a.es (t.getD i 0) e=n[i]? else n[i]?=t[i]?
theorem QfW{l:List Aut}{t n:List Nat}{e:Nat}:∀{k:Nat},k<=l.length->l.length<=t.length->(stp l t e k=some n↔Stp l t e n k)
 |0,_,_=>by
  unfold stp Stp;constructor;·simp_all
  rintro⟨_,h,_⟩;have:t=n:=ZbA fun i=>(h i (Zah _)).symm;rw[this]|k+1,hk,p=>by
  obtain⟨a,s⟩:=Qap (l:=l) (i:=k) (by omega);have u:k<t.length:=by omega
  unfold stp;rw[s];constructor;·intro h;cases hm:stp l t e k with|none=>rw[hm]at h;cases h|some m=>
   rw[hm]at h;dsimp only at h;obtain⟨h1,r,d⟩:=(QfW (n:=m) (by omega) p).1 hm;by_cases he:e∈a.al;·rw[if_pos he]at h;cases q:stepA a.es (t.getD k 0) e with|none=>rw[q]at h;cases h|some to=>
    rw[q]at h;cases h;refine⟨by simp_all,fun i hi=>by grind,fun i b hi c=>?_⟩;by_cases g:i=k;·simp_all
    rw[List.getElem?_set_ne (by omega)];exact d i b (by omega) c
   rw[if_neg he]at h;cases h;refine⟨h1,fun i hi=>r i (by omega),fun i b hi c=>?_⟩;by_cases g:i=k;·grind
   exact d i b (by omega) c
  rintro⟨h1,r,d⟩;have f:=d k a (Nat.lt_succ_self _) s;by_cases he:e∈a.al
  ·rw[if_pos he]at f;have o:Stp l t e (n.set k (t.getD k 0)) k:=by
    refine⟨by simp_all,fun i hi=>?_,fun i b hi c=>?_⟩;·grind
    rw[List.getElem?_set_ne (by omega)];exact d i b (by omega) c
   rw[(QfW (n:=n.set k (t.getD k 0)) (by omega) p).2 o];simp_all
  rw[if_neg he]at f;have o:Stp l t e n k:=⟨h1,fun i hi=>by grind,fun i b hi c=>d i b (by omega) c⟩;rw[(QfW (n:=n) (by omega) p).2 o];simp_all
theorem QfX{l:List Aut}{t n:List Nat}{e:Nat}(a:l.length<=t.length):stepT l t e=some n↔Stp l t e n l.length:=QfW (ZaM _) a
def pEv(l:List Aut)(i:Nat)(t:List Nat)(s:List (List Nat)×List Ed)(e:Nat):List (List Nat)×List Ed:=match stepT l t e with|none=>s|some n=>(if n∈s.1 then s.1 else s.1++[n],s.2++[(i,e,s.1.findIdx (·==n))])
def pRow(l:List Aut)(ev:List Nat)(i:Nat)(t:List Nat)(s:List (List Nat)×List Ed):List (List Nat)×List Ed:=ev.foldl (pEv l i t) s
def pQ(l:List Aut)(ev:List Nat):Nat->Nat->List (List Nat)×List Ed->List (List Nat)×List Ed|0,_,s=>s|k+1,i,s=>match s.1[i]? with|some t=>pQ l ev k (i+1) (pRow l ev i t s)|none=>s
def orE(a b:Bool):Bool:=a||b
def evA(l:List Aut):List Nat:=l.foldl (fun out a=>mrg orE out a.al) []
def mkdT:List Aut->List Nat->Bool|[],_=>true|a::l,t=>a.ms.contains (t.headD 0)&&mkdT l t.tail
def box:List Aut->Nat|[]=>1|a::l=>a.n*box l
def sync0(l:List Aut):List (List Nat)×List Ed:=pQ l (evA l) (box l+1) 0 ([List.replicate l.length 0],[])
def syncA(l:List Aut):Aut:=⟨evA l,(sync0 l).1.length,(List.range (sync0 l).1.length).filter fun i=>mkdT l ((sync0 l).1.getD i []),(sync0 l).2⟩
def InT(l:List Aut)(t:List Nat):Prop:=t.length=l.length/\∀i a,l[i]?=some a->t.getD i 0<a.n
def allT:List Aut->List (List Nat)|[]=>[[]]|a::l=>(List.range a.n).flatMap fun x=>(allT l).map (x::·)
theorem Qm0:∀{l:List Aut}{t:List Nat},InT l t->t∈allT l|[],t,⟨h,_⟩=>by simp_all[allT]|a::l,[],⟨h,_⟩=>by simp at h|a::l,x::t,⟨h,c⟩=>by unfold allT;refine ZbD.2 ⟨x,Zat.2 (by simpa using c 0 a rfl),Zan.2 ⟨t,Qm0 ⟨by simpa using h,fun i b d=>?_⟩,rfl⟩⟩;simpa using c (i+1) b (by simpa using d)
theorem Qm1:∀(l:List Aut),(allT l).length=box l|[]=>rfl|a::l=>by unfold allT box;rw[List.length_flatMap];simp only[Zaz,Qm1 l];simp_all[List.map_const']
theorem Qla{α:Type}[DecidableEq α]:∀{l m:List α},l.Nodup->(∀x∈l,x∈m)->l.length<=m.length|[],m,_,_=>Zah _|x::l,m,h,hm=>by rw[Zci]at h;have h1:=hm x (by simp);have b:=Qla (l:=l) (m:=m.erase x) h.2 fun y a=>(List.mem_erase_of_ne (fun(e:y=x)=>h.1 (e▸a))).2 (hm y (by simp[a]));grind
theorem Qdb{l:List Aut}{T:List (List Nat)}(b:T.Nodup)(hi:∀t∈T,InT l t):T.length<=box l:=by rw[<-Qm1];exact Qla b fun t a=>Qm0 (hi t a)
theorem Qq9{l:List Aut}{k:Nat}(h:∀a∈l,a.n<=k)(hk:1<=k):box l<=k^l.length:=by induction l with|nil=>simp[box]|cons a l d=>unfold box;rw[ZaF,Nat.pow_succ,Nat.mul_comm];exact Nat.mul_le_mul (d fun b c=>h b (by simp[c])) (h a (by simp))
theorem QfY{l:List Aut}(hw:∀a∈l,∀e∈a.es,e.1<a.n/\e.2.2<a.n){t n:List Nat}{e:Nat}(c:InT l t)(h:stepT l t e=some n):InT l n:=by
 obtain⟨h1,k,g⟩:=(QfX (Nat.le_of_eq c.1.symm)).1 h;refine⟨by rw[h1,c.1],fun i a d=>?_⟩;have hi:i<l.length:=by grind
 have b:=g i a hi d;by_cases he:e∈a.al;·rw[if_pos he]at b;obtain⟨x,f⟩:=Qap (l:=n) (i:=i) (by rw[h1,c.1];exact hi);rw[f]at b;rw[Zak,f];exact Qcu (hw a (Zae d)) b
 rw[if_neg he]at b;rw[Zak,b,<-Zak];exact c.2 i a d
structure PI(l:List Aut)(s:List (List Nat)×List Ed):Prop where
 nd:s.1.Nodup
 inT:∀t∈s.1,InT l t
theorem QuE{l:List Aut}(hw:∀a∈l,∀e∈a.es,e.1<a.n/\e.2.2<a.n){i e:Nat}{t:List Nat}{s:List (List Nat)×List Ed}(c:InT l t)(h:PI l s):PI l (pEv l i t s e):=by unfold pEv;cases d:stepT l t e with|none=>exact h|some n=>
 have f:=QfY hw c d;dsimp only;by_cases hm:n∈s.1;·simp only[if_pos hm];exact⟨h.nd,h.inT⟩
 simp only[if_neg hm];refine⟨Zca.2 ⟨h.nd,by simp,fun x b y g=>by grind⟩,fun x b=>?_⟩;rcases ZaE.1 b with b|b;·exact h.inT x b
 simp_all
theorem Qei{l:List Aut}(hw:∀a∈l,∀e∈a.es,e.1<a.n/\e.2.2<a.n){i:Nat}{t:List Nat}(b:InT l t):∀{ev:List Nat}{s:List (List Nat)×List Ed},PI l s->PI l (pRow l ev i t s)|[],s,h=>h|e::ev,s,h=>Qei hw b (ev:=ev) (QuE hw b h)
theorem Qty{l:List Aut}{i e:Nat}{t:List Nat}{s:List (List Nat)×List Ed}:s.1<+:(pEv l i t s e).1:=by grind[pEv]
theorem QcB{l:List Aut}{i:Nat}{t:List Nat}:∀{ev:List Nat}{s:List (List Nat)×List Ed},s.1<+:(pRow l ev i t s).1|[],s=>List.prefix_refl _|e::ev,s=>List.IsPrefix.trans Qty (QcB (ev:=ev))
theorem pQ_ok{l:List Aut}{ev:List Nat}(hw:∀a∈l,∀e∈a.es,e.1<a.n/\e.2.2<a.n):∀{k i:Nat}{s:List (List Nat)×List Ed},PI l s->PI l (pQ l ev k i s)|0,_,_,h=>h|k+1,i,s,h=>by unfold pQ;cases b:s.1[i]? with|none=>exact h|some t=>exact pQ_ok hw (Qei hw (h.inT t (Zae b)) h)
theorem Qjk{l:List Aut}{ev:List Nat}:∀{k i:Nat}{s:List (List Nat)×List Ed},s.1<+:(pQ l ev k i s).1|0,_,_=>List.prefix_refl _|k+1,i,s=>by unfold pQ;cases a:s.1[i]? with|none=>exact List.prefix_refl _|some t=>exact List.IsPrefix.trans QcB Qjk
theorem QfZ{l:List Aut}(d:∀a∈l,0<a.n):PI l ([List.replicate l.length 0],[]):=by refine⟨by simp,fun t b=>?_⟩;simp at b;subst b;refine⟨by simp,fun i a c=>?_⟩;grind
theorem Qfn{l:List Aut}(b:∀a∈l,0<a.n)(hw:∀a∈l,∀e∈a.es,e.1<a.n/\e.2.2<a.n):PI l (sync0 l):=pQ_ok hw (QfZ b)
theorem Qm2{l:List Aut}(b:∀a∈l,0<a.n)(hw:∀a∈l,∀e∈a.es,e.1<a.n/\e.2.2<a.n):(sync0 l).1.length<=box l:=Qdb (Qfn b hw).nd (Qfn b hw).inT
end Go.AM.SO
namespace Go.AM.SU
open Go.Proofs
set_option maxHeartbeats 4000000
noncomputable section
def cf:YA.Cf:={always:=[39,225].map fun k=>(k,.pure)}
def s88:SFn:=⟨192,[.cell 2 (some 5)],(.seq (.region [Zz 1 (.box .dyn (.t 0)) [],Zz 2 (.alloc .dyn (.agg [.nilsl,.nilsl,.nilsl,.nilsl,.nilsl])) []] [] [0]) (.seq (.region [Zf 17 0 1 [],Zw 18 5 17 [0],Zz 19 (.call .pure (.f 152) [(.t 18)]) [1],Zz 20 (.build [.nilsl,.nilsl,.nilsl,.nilsl,.nilsl] [(0,1,(.t 19))]) [2],Zz 3 (.alloc .dyn (.agg [.nilsl,.nilsl,.nilsl,.nilsl,.nilsl])) [],Zs 5 3 20 (Za [4,3,2] 5)] [] [17,18,19,20]) (.seq (.region [Zz 4 (.alloc .dyn .nilsl) []] [] []) (.seq (.region [Zf 21 5 1 [],Zl 22 21 [0],Zz 23 (.bin .rem (.t 22) (.c (.int .u8 3))) [1],Zz 24 (.conv .i64 (.t 23)) [2],Zz 25 (.bin .add (.c (.int .i64 1)) (.t 24)) [3],Zm 5 25 (Za [4] 5)] [] [21,22,23,24,25]) (.seq (.seq (.region [Zm 26 5 [],Zz 27 (.mov (.c (.int .i64 0))) []] [] []) (.block 0 (.loop (.seq (.region [Zb 28 .lss 27 26 []] [] []) (.seq (.cond (.t 28) .skip (.exit 0)) (.seq (.block 1 (.seq (.region [Zm 29 27 [],Zm 6 29 [0,0]] [] [28,29]) (.seq (.region [Zm 30 6 [],Zf 31 6 1 [],Zz 32 (.iaddr (some 3) 1 (.t 31) (.t 30)) [1,0],Zl 33 32 [2],Zz 34 (.call .pure (.f 153) [(.t 33)]) [3],Zm 7 34 (Za [4,4] 5)] [] [30,31,32,33,34]) (.seq (.region [Zl 35 4 [],Zm 36 7 [],Zz 37 (.call .pure (.f 154) [(.t 35),(.t 36)]) [0,1],Zs 1 4 37 [2,2,0,1,2]] [] [35,36,37]) (.region [Zf 38 1 3 [],Zl 39 38 [0],Zm 40 6 [],Zz 41 (.bin .add (.c (.int .i64 48)) (.t 40)) [2],Zz 42 (.conv .i32 (.t 41)) [3],Zz 43 (.convS (.t 42)) [4],Zz 44 (.bin .add (.c (.str [99])) (.t 43)) [5],Zm 45 7 [],Zm 46 6 [],Zf 47 9 1 [],Zz 48 (.iaddr (some 3) 27 (.t 47) (.t 46)) [9,8],Zw 49 27 48 [10],Zz 50 (.call .pure (.f 155) [(.t 45),(.t 49),(.c (.int .i64 3))]) [7,11],Zz 51 (.build [(.str []),.nilsl,(.int .i64 0),.nilsl,.nilsl] [(0,1,(.t 44)),(1,4,(.t 50))]) [6,12],Zz 52 (.bslice false .dyn 5 1 [(.str []),.nilsl,(.int .i64 0),.nilsl,.nilsl] [(0,5,(.t 51))]) [13],Zz 53 (.append .dyn 5 96 (.t 39) (.t 52)) [1,14,12],Zf 54 1 3 (Za [] 16),Zs 1 54 53 (Za [16,15,15] 16)] [] [6,7,38,39,40,41,42,43,44,45,46,47,48,49,50,51,52,53,54]))))) (.region [Zz 55 (.bin .add (.t 27) (.c (.int .i64 1))) [],Zm 27 55 [0]] [] [55]))))))) (.seq (.seq (.region [Zf 56 90 1 [],Zl 57 56 [0],Zz 58 (.bin .rem (.t 57) (.c (.int .u8 3))) [1],Zz 59 (.conv .i64 (.t 58)) [2],Zz 60 (.mov (.c (.int .i64 0))) []] [] [26,27,56,57,58]) (.block 2 (.loop (.seq (.region [Zb 61 .lss 60 59 []] [] []) (.seq (.cond (.t 61) .skip (.exit 2)) (.seq (.block 3 (.seq (.region [Zm 62 60 [],Zm 8 62 [0,0]] [] [61,62]) (.seq (.region [Zm 63 8 [],Zf 64 91 1 [],Zz 65 (.iaddr (some 2) 1 (.t 64) (.t 63)) [1,0],Zl 66 65 [2],Zz 67 (.call .heap (.f 153) [(.t 66)]) [3],Zz 68 (.mkfn 157 [] [(.t 4)]) [],Zz 69 (.call .heap (.f 156) [(.t 67),(.t 68)]) [4,5,4],Zm 9 69 (Za [6,6] 7)] [] [63,64,65,66,67,68,69]) (.region [Zf 70 2 3 [],Zl 71 70 [0],Zm 72 8 [],Zz 73 (.bin .add (.c (.int .i64 48)) (.t 72)) [2],Zz 74 (.conv .i32 (.t 73)) [3],Zz 75 (.convS (.t 74)) [4],Zz 76 (.bin .add (.c (.str [114])) (.t 75)) [5],Zm 77 9 [],Zm 78 8 [],Zf 79 93 1 [],Zz 80 (.iaddr (some 2) 27 (.t 79) (.t 78)) [9,8],Zw 81 27 80 [10],Zz 82 (.call .pure (.f 155) [(.t 77),(.t 81),(.c (.int .i64 3))]) [7,11],Zz 83 (.build [(.str []),.nilsl,(.int .i64 0),.nilsl,.nilsl] [(0,1,(.t 76)),(1,4,(.t 82))]) [6,12],Zz 84 (.bslice false .dyn 5 1 [(.str []),.nilsl,(.int .i64 0),.nilsl,.nilsl] [(0,5,(.t 83))]) [13],Zz 85 (.append .dyn 5 96 (.t 71) (.t 84)) [1,14,12],Zf 86 2 3 (Za [] 16),Zs 1 86 85 (Za [16,15,15] 16)] [] [8,9,70,71,72,73,74,75,76,77,78,79,80,81,82,83,84,85,86])))) (.region [Zz 87 (.bin .add (.t 60) (.c (.int .i64 1))) [],Zm 60 87 [0]] [] [87]))))))) (.seq (.seq (.region [Zf 88 147 1 [],Zl 89 88 [0],Zv 90 89 [1],Zz 91 (.mov (.c (.int .i64 0))) []] [] [4,59,60,88]) (.block 4 (.loop (.seq (.region [Zb 92 .lss 91 90 []] [] []) (.seq (.cond (.t 92) .skip (.exit 4)) (.seq (.block 5 (.seq (.region [Zm 93 91 [],Zi 94 4 89 91 [],Zw 95 4 94 [1],Zz 11 (.alloc .dyn (.agg [(.int .u8 0),(.int .u8 0),(.int .u8 0),(.int .u8 0)])) [],Zm 10 93 [0,0,1,2,3],Zs 4 11 95 (Za [3,2,4] 5)] [] [92,93,94,95]) (.seq (.seq (.region [Zm 96 10 [],Zz 97 (.bin .eql (.t 96) (.c (.int .i64 2))) [0]] [] [96]) (.cond (.t 97) (.exit 4) .skip)) (.seq (.region [Zm 98 10 [],Zz 99 (.bin .add (.c (.int .i64 48)) (.t 98)) [0],Zz 100 (.conv .i32 (.t 99)) [1],Zz 101 (.convS (.t 100)) [2],Zz 102 (.bin .add (.c (.str [101])) (.t 101)) [3],Zz 103 (.build [(.str []),.nilsl] [(0,1,(.t 102))]) [4],Zz 12 (.alloc .dyn (.agg [(.str []),.nilsl])) [],Zs 2 12 103 (Za [6,5] 7)] [] [10,97,98,99,100,101,102,103]) (.seq (.seq (.region [Zf 104 1 3 [],Zl 105 104 [0],Zv 106 105 [1],Zz 107 (.mov (.c (.int .i64 0))) []] [] [104,105]) (.block 6 (.loop (.seq (.region [Zb 108 .lss 107 106 []] [] []) (.seq (.cond (.t 108) .skip (.exit 6)) (.seq (.block 7 (.seq (.region [Zm 109 107 [],Zm 13 109 [0,0]] [] [108,109]) (.seq (.region [Zf 110 1 3 [],Zl 111 110 [0],Zm 112 13 [],Zi 113 5 111 112 [1,2],Zf 114 1 113 [3],Zf 115 1 114 [4],Zl 116 115 [5],Zm 14 116 (Za [6] 7)] [] [110,111,112,113,114,115,116]) (.seq (.region [Zm 117 13 [],Zz 118 (.iaddr (some 4) 1 (.t 11) (.t 117)) [0],Zl 119 118 [1],Zz 120 (.conv .i64 (.t 119)) [2],Zm 121 14 [],Zz 122 (.bin .add (.t 121) (.c (.int .i64 2))) [4],Zb 123 .rem 120 122 [3,5],Zm 124 14 [],Zb 125 .lss 123 124 [6,7]] [] [117,118,119,120,121,122,123,124]) (.cond (.t 125) (.region [Zf 126 1 12 [],Zl 127 126 [0],Zm 128 13 [],Zm 129 13 [],Zz 130 (.iaddr (some 4) 1 (.t 11) (.t 129)) [3],Zl 131 130 [4],Zz 132 (.conv .i64 (.t 131)) [5],Zm 133 14 [],Zz 134 (.bin .add (.t 133) (.c (.int .i64 2))) [7],Zb 135 .rem 132 134 [6,8],Zz 136 (.build [(.int .i64 0),(.int .i64 0)] [(0,1,(.t 128)),(1,1,(.t 135))]) [2,9],Zz 137 (.bslice false .dyn 2 1 [(.int .i64 0),(.int .i64 0)] [(0,2,(.t 136))]) [10],Zz 138 (.append .dyn 2 16 (.t 127) (.t 137)) [1,11],Zf 139 1 12 (Za [] 13),Zs 1 139 138 (Za [13,12,12] 13)] [] [13,14,125,126,127,128,129,130,131,132,133,134,135,136,137,138,139]) .skip))))) (.region [Zz 140 (.bin .add (.t 107) (.c (.int .i64 1))) [],Zm 107 140 [0]] [] [13,14,125,140]))))))) (.seq (.region [Zf 141 1 12 [],Zl 142 141 [0],Zv 143 142 [1],Zz 144 (.bin .gtr (.t 143) (.c (.int .i64 0))) [2]] [] [11,106,107,141,142,143]) (.cond (.t 144) (.region [Zf 145 3 3 [],Zl 146 145 [0],Zw 147 2 12 [],Zz 148 (.bslice false .dyn 2 1 [(.str []),.nilsl] [(0,2,(.t 147))]) [2],Zz 149 (.append .dyn 2 40 (.t 146) (.t 148)) [1,3],Zf 150 3 3 (Za [] 5),Zs 1 150 149 (Za [5,4,4] 5)] [] [12,144,145,146,147,148,149,150]) .skip))))))) (.region [Zz 151 (.bin .add (.t 91) (.c (.int .i64 1))) [],Zm 91 151 [0]] [] [12,144,151]))))))) (.seq (.region [Zf 152 151 1 [],Zl 153 152 [0],Zz 154 (.conv .i64 (.t 153)) [1],Zz 155 (.bin .rem (.t 154) (.c (.int .i64 8))) [2],Zz 156 (.build [(.str []),.nilsl,(.int .i64 0)] [(0,1,(.c (.str [107]))),(2,1,(.t 155))]) [3],Zz 15 (.alloc .dyn (.agg [(.str []),.nilsl,(.int .i64 0)])) [],Zs 3 15 156 (Za [5,4] 6)] [] [89,90,91,152,153,154,155,156]) (.seq (.seq (.region [Zm 157 5 [],Zz 158 (.mov (.c (.int .i64 0))) []] [] [5]) (.block 8 (.loop (.seq (.region [Zb 159 .lss 158 157 []] [] []) (.seq (.cond (.t 159) .skip (.exit 8)) (.seq (.block 9 (.seq (.region [Zm 160 158 [],Zm 16 160 [0,0]] [] [159,160]) (.seq (.region [Zm 161 16 [],Zf 162 148 1 [],Zz 163 (.iaddr (some 3) 1 (.t 162) (.t 161)) [1,0],Zl 164 163 [2],Zz 165 (.bin .neq (.t 164) (.c (.int .i8 0))) [3]] [] [161,162,163,164]) (.cond (.t 165) (.region [Zf 166 1 15 [],Zl 167 166 [0],Zm 168 16 [],Zm 169 16 [],Zf 170 148 1 [],Zz 171 (.iaddr (some 3) 1 (.t 170) (.t 169)) [4,3],Zl 172 171 [5],Zz 173 (.conv .i64 (.t 172)) [6],Zz 174 (.bin .rem (.t 173) (.c (.int .i64 4))) [7],Zz 175 (.build [(.int .i64 0),(.int .i64 0)] [(0,1,(.t 168)),(1,1,(.t 174))]) [2,8],Zz 176 (.bslice false .dyn 2 1 [(.int .i64 0),(.int .i64 0)] [(0,2,(.t 175))]) [9],Zz 177 (.append .dyn 2 16 (.t 167) (.t 176)) [1,10],Zf 178 1 15 (Za [] 12),Zs 1 178 177 (Za [12,11,11] 12)] [] [16,165,166,167,168,169,170,171,172,173,174,175,176,177,178]) .skip)))) (.region [Zz 179 (.bin .add (.t 158) (.c (.int .i64 1))) [],Zm 158 179 [0]] [] [16,165,179]))))))) (.seq (.region [Zf 180 1 15 [],Zl 181 180 [0],Zz 182 (.call .heap (.f 158) [(.t 181),(.f 159)]) [1],Zf 183 1 15 [0,1,2],Zs 1 183 182 [3,2,2,0,1,2]] [] [1,157,158,180,181,182,183]) (.seq (.seq (.region [Zf 184 1 15 [],Zl 185 184 [0],Zv 186 185 [1],Zz 187 (.bin .gtr (.t 186) (.c (.int .i64 0))) [2]] [] [184,185,186]) (.cond (.t 187) (.region [Zw 188 3 15 [],Zz 189 (.bslice false .dyn 3 1 [(.str []),.nilsl,(.int .i64 0)] [(0,3,(.t 188))]) [0],Zf 190 4 3 [0,1],Zs 1 190 189 [2,1,0,1]] [] [15,187,188,189,190]) .skip)) (.seq (.region [Zw 191 5 3 [],Zs 5 2 191 [0,0]] [] [3,15,187,191]) .ret))))))))))))⟩
def s156:SFn:=by
 refine(?f:YA.Yt Tryz.prog cf 156 [[4],[8,9,10],[11],[0,1,5,12,13],[4,12,14,15],[16,17,18],[19,22,23,24,25],[26,27,28],[7,29,30,31,32,33],[34,35],[7,29,20,21],[1,6,36,37,38],[0,5,39,40,41]]) ?s ?h;case h=>exact YA.rr
 exact fun s _=>s
def s155:SFn:=by
 refine(?f:YA.Yt Tryz.prog cf 155 [[1],[2,7,8,9,10,11,12],[0,4,13,14,15]]) ?s ?h;case h=>exact YA.rr
 exact fun s _=>s
def s157:SFn:=by
 refine(?f:YA.Yt Tryz.prog cf 157 [[3],[0,1,4,5,6,7]]) ?s ?h;case h=>exact YA.rr
 exact fun s _=>s
def s158:SFn:=by
 refine(?f:YA.Yt Tryz.prog cf 158 [[4],[8,9,10],[11],[0,1,5,12,13],[4,12,14,15],[16,17,18],[19,22,23,24,25],[26,27,28],[7,29,30,31,32,33],[34,35],[7,29,20,21],[1,6,36,37,38],[0,5,39,40,41]]) ?s ?h;case h=>exact YA.rr
 exact fun s _=>s
def s159:SFn:=by
 refine(?f:YA.Yt Tryz.prog cf 159 [[0,2],[1,3,4,5]]) ?s ?h;case h=>exact YA.rr
 exact fun s _=>s
def s97:SFn:=by
 refine(?f:YA.Yt Tryz.prog cf 97 [[4],[6],[],[9,10],[11,12,13,14,15],[0,1,7,8,5,16,17],[4,5,16,18],[0,1,7,8]]) ?s ?h;case h=>exact YA.rr
 exact fun s _=>s
def s226:SFn:=by
 refine(?f:YA.Yt Tryz.prog cf 226 [[4],[6],[],[9,10],[11,12,13,14,15],[0,1,7,8,5,16,17],[4,5,16,18],[0,1,7,8]]) ?s ?h;case h=>exact YA.rr
 exact fun s _=>s
theorem ok88:Kq 88 s88=true:=by kernel_rfl
theorem ok156:Kq 156 s156=true:=by kernel_rfl
theorem ok155:Kq 155 s155=true:=by kernel_rfl
theorem ok157:Kq 157 s157=true:=by kernel_rfl
theorem ok158:Kq 158 s158=true:=by kernel_rfl
theorem ok159:Kq 159 s159=true:=by kernel_rfl
theorem ok97:Kq 97 s97=true:=by kernel_rfl
theorem ok226:Kq 226 s226=true:=by kernel_rfl
end
end Go.AM.SU
namespace Go.AM.SU
open Go.Proofs Go.AM.SD Go.AM.SE
theorem _root_.Go.AM.ZcT{p q:Prop}(k:q)(h:p=q:=by conv=>lhs;simp(disch:=first|omega|exact PairsOK.mk rfl|(simp only[lenW]<;>omega))only[Zam,wW,wV,simprocAttr]):p:=h▸k
theorem _root_.Go.AM.ZcU{p q A:Prop}(a:A)(k:q)(h:A->p=q:=by intro a;conv=>lhs;simp(disch:=first|omega|exact PairsOK.mk rfl|(simp only[lenW]<;>omega))only[a,Zam,wW,wV,simprocAttr]):p:=h a▸k
theorem not92(A:List Nat)(x:Nat)(hA:A.length<=1000000):Pq 157 [.int .i64 (x:Int),.fptr [sliN A]] (.bool (!decide (x∈A))):=by
 refine Zcu 64 ok157 rfl (by simp only[noRefs,noRef,Qad];rfl) rfl ?_;have h:=contains62 (nz A) x (by simp;omega);have e:decide ((x:Int)∈nz A)=decide (x∈A):=by
  refine decide_eq_decide.2 ⟨fun h=>?_,fun h=>Zan.2 ⟨x,h,rfl⟩⟩;obtain⟨a,h1,b⟩:=Zan.1 h;have:a=x:=by omega
  exact this▸h1
 rw[e,Qbn]at h;unfold s157;refine ZcT ?_;refine cp h ?_;refine ZcT ?_;exact⟨.inr trivial,_,rfl,rfl⟩
def fstN(A l:List Nat):Int:=if l.all (fun x=>decide (x∈A))then-1 else(l.findIdx (fun x=>!decide (x∈A)):Int)
theorem cpc{P:Program}{N:NM}{r:List SOper}{dead:List Nat}{fs:List Fr}{n:Nat}{T:Tmps}{h:Heap}{Q:QC}{d:Option Nat}{f:Nat}{args a c:List AV}{v:AV}(hp:PSpec P f (a++args++c) v)(k:wR P N r dead fs (n+1) (putD T d v) h Q):wCall P N .heap (.fn f a c) args d r dead fs n T h Q:=⟨v,h,hp.toH h,k⟩
theorem chc{P:Program}{N:NM}{r:List SOper}{dead:List Nat}{fs:List Fr}{n:Nat}{T:Tmps}{h h1:Heap}{Q:QC}{d:Option Nat}{f:Nat}{args a c:List AV}{v:AV}(hp:HSpec P f (a++args++c) h v h1)(k:wR P N r dead fs (n+1) (putD T d v) h1 Q):wCall P N .heap (.fn f a c) args d r dead fs n T h Q:=⟨v,h1,hp,k⟩
theorem _root_.Go.AM.au12{p:Prop}(h:p:=by repeat'(first|exact ZcA|(refine Zcr ?_;first|rfl|(simp only[noRef,noRefs,Qag,Zad,Zac,Zai,Qad,Qan,Qae];done))|exact ZcM rfl|exact ZcG|exact(True.intro:RnM _ _ _ [] [])|refine ZcH ?_ ?_|(refine Zcq ?_;first|rfl|(simp only[noRef,noRefs,Qag,Zad,Zac,Zai,Qad,Qan,Qae];done))|exact Rn.x1 rfl rfl|exact Rn.x2 rfl rfl|exact Rn.x3 rfl rfl|exact Rn.x4 rfl rfl|exact Rn.x5 rfl|exact Rn.x6 rfl|exact Rn.x7 rfl|refine ZcC rfl rfl ?_|refine ZcB rfl rfl rfl ?_ ?_|refine ZcD rfl rfl rfl ?_ ?_|refine ZcE rfl rfl ?_ ?_|refine ZcF rfl rfl ?_ ?_)):p:=h
theorem index110(A l:List Nat)(hA:A.length<=1000000)(p:l.length<=1000000):Pq 97 [sliN l,.fn 157 [] [.fptr [sliN A]]] (.int .i64 (fstN A l)):=by
 refine Zcu 64 ok97 rfl (by simp only[noRefs,noRef,Qad];rfl) rfl ?_;unfold s97;refine ZcT ?_;refine QaL 100 (fun i:Nat=>[(0,sliN l),(1,.fn 157 [] [.fptr [sliN A]]),(7,.int .i64 l.length),(8,.int .i64 i)]) (fun _=>[]) (fun i=>i<=l.length/\∀(j:Nat)y,j<i->l[j]?=some y->y∈A) (fun i=>l.length-i) 0 ⟨[],rfl,au0,au12,au11⟩ ⟨Zah _,fun j y c=>absurd c (ZaC _)⟩ ?_;rintro i⟨hi,g⟩;by_cases a:i<l.length
 ·obtain⟨x,b⟩:=Qap a;have f:=not92 A x hA;by_cases d:x∈A
  ·have e:(!decide (x∈A))=false:=by simp[d]
   rw[e]at f;refine ZcU (Zc1 a (Qaz b)) ?_;refine cpc f ?_;refine ZcT ?_;refine⟨i+1,by omega,⟨by omega,fun j y c m=>?_⟩,⟨[],rfl,au0,au12,au11⟩⟩;by_cases e:j=i;·subst e;rw[b]at m;cases m;exact d
   exact g j y (by omega) m
  have e:(!decide (x∈A))=true:=by simp[d]
  rw[e]at f;refine ZcU (Zc1 a (Qaz b)) ?_;refine cpc f ?_;refine ZcT ?_;refine⟨.inr trivial,_,rfl,?_⟩;have h1:¬l.all (fun x=>decide (x∈A))=true:=by intro h;exact d (by simpa using ZaH.1 h x (Zae b))
  have o:l.findIdx (fun x=>!decide (x∈A))=i:=by rw[List.findIdx_eq a];refine⟨by rw[Zal a]at b;cases b;simp[d],fun j c=>?_⟩;have:=g j l[j] c (Zal (by omega));simpa using this
  unfold fstN;rw[if_neg h1,o];rfl
 have h1:l.all (fun x=>decide (x∈A))=true:=by rw[ZaH];intro x b;obtain⟨j,c,k⟩:=Zbg b;simpa using g j x (by omega) (by rw[Zal c,k])
 refine ZcU a ?_;refine⟨.inr trivial,_,rfl,?_⟩;unfold fstN;rw[if_pos h1];rfl
theorem Qe9{cs vs:List AV}{off:Nat}(h:off<cs.length):putR cs off vs=cs.take off++vs++cs.drop (off+vs.length):=by
 unfold putR;split;·rename_i v;rw[List.set_eq_take_append_cons_drop,if_pos h];simp
 rfl
theorem Qm3{P:Program}{N:NM}{d:Option Nat}{r:List SOper}{dead:List Nat}{fs:List Fr}{n:Nat}{T:Tmps}{h:Heap}{Q:QC}{b g off len sz:Nat}{cs zero:List AV}(i:h.get b=some (.cells g cs))(o:0<len)(m:off+len*sz<=cs.length)(f:zero.length=sz)(ho:zero.all AV.one=true)(c:b<lim)(hk:wR P N r dead fs (n+1) (putD T d .any) (h.set b (.cells g (putR cs off (List.replicate len zero).flatten))) Q):wM P N (aClear sz zero (.sl b g off len sz)) d r dead fs n T h Q:=by
 obtain⟨k,rfl⟩:∃k,len=k+1:=⟨len-1,by omega⟩;refine⟨_,_,?_,hk⟩;have l:Nat.beq g g=true:=by simp
 have a:Nat.blt b lim=true:=by simpa using c
 simp only[aClear,if_true,HM.cells,HM.run,i,l,cond_true];rw[if_pos ⟨m,f,ho⟩];simp only[HM.run,a,cond_true]
def fltN(A l:List Nat):List Nat:=l.filter fun x=>decide (x∈A)
theorem Qm4{A l:List Nat}{j v:Nat}(h:l[j]?=some v):fltN A (l.take (j+1))=if v∈A then fltN A (l.take j)++[v]else fltN A (l.take j):=by unfold fltN;rw[ZaZ,h,Option.toList,Zbi];by_cases a:v∈A<;>simp[a]
def delL(A l:List Nat):List Nat:=fltN A l++List.replicate (l.length-(fltN A l).length) 0
theorem Qtz{A l:List Nat}(h:l.all (fun x=>decide (x∈A))=true):fltN A l=l:=by unfold fltN;exact ZbN.2 fun x a=>ZaH.1 h x a
theorem Qsr{k:Nat}:(List.replicate k [AV.int .i64 0]).flatten=ints (nz (List.replicate k 0)):=by induction k with|zero=>rfl|succ k a=>rw[Zbr,ZbK,a];rfl
theorem Qra{l:List Nat}{i:Nat}:(ints (nz l)).take i=ints (nz (l.take i)):=by simp[ints,nz,List.map_take]
theorem QoL{l:List Nat}{i x:Nat}(h:l[i]?=some x):(ints (nz l))[i]?=some (.int .i64 (x:Int)):=by simp[ints,h]
theorem del40(A l:List Nat)(hA:A.length<=1000000)(Q:l.length<=1000000):HSpec Tryz.prog 156 [.sl 98 0 0 l.length 1,.fn 157 [] [.ptr 75 0 0]] (hp [(75,.cells 0 [sliN A]),(98,.cells 0 (ints (nz l)))]) (.sl 98 0 0 (fltN A l).length 1) (hp [(75,.cells 0 [sliN A]),(98,.cells 0 (ints (nz (delL A l))))]):=by
 refine HSpec.QoH (m:=99) 100 ok156 rfl rfl ?_;have N:(ints (nz l)).length=l.length*1:=by simp[ints]
 unfold s156;refine ZcT ?_;refine chc (ZcL (ZcO (FrzTo.all gg N) (ZcO (FrzTo.fn ZcN (ZcO (ZcK (g:=0) (cs:=[sliN A]) gg (ZcO (Zcv _) ZcN)) ZcN)) ZcN)) (index110 A l hA Q) rfl) ?_;by_cases a:l.all (fun x=>decide (x∈A))=true;·have y:fstN A l=-1:=if_pos a;refine ZcU y ?_;refine⟨.inr trivial,_,rfl,?_⟩;unfold delL;rw[Qtz a,Nat.sub_self,List.replicate_zero,Zap];exact⟨[(75,.nil),(98,.nil)],rfl,au0,au12,au11⟩
 have y:fstN A l=(l.findIdx (fun x=>!decide (x∈A)):Int):=if_neg a;have hex:∃x∈l,(!decide (x∈A))=true:=by have:¬∀x∈l,decide (x∈A)=true:=fun h=>a (ZaH.2 h);obtain⟨x,r⟩:=Classical.not_forall.1 this;obtain⟨r,R⟩:=Classical.not_imp.1 r;exact⟨x,r,by simpa using R⟩
 have g:l.findIdx (fun x=>!decide (x∈A))<l.length:=Zbn hex;obtain⟨i0,E⟩:∃i0,i0=l.findIdx (fun x=>!decide (x∈A)):=⟨_,rfl⟩;rw[<-E]at y g;have L:l[i0]∉A:=by have:=Zcc (w:=by rw[<-E];exact g) (xs:=l) (p:=fun x=>!decide (x∈A));simp only[<-E]at this;simpa using this
 have q:fltN A (l.take i0)=l.take i0:=by unfold fltN;refine ZbN.2 fun x r=>?_;obtain⟨j,I,rfl⟩:=Zbg r;rw[Zav]at I;have:=List.not_of_lt_findIdx (xs:=l) (p:=fun x=>!decide (x∈A)) (i:=j) (by rw[<-E];omega);rw[List.getElem_take];simpa using this
 have H:fltN A (l.take (i0+1))=l.take i0:=by rw[Qm4 (Zal g),if_neg L,q]
 have G:¬(i0:Int)=-1:=by omega
 refine ZcU (Zc1 y G) ?_;refine QaL 110 (fun t:Nat×Nat×List Nat=>[(0,.sl 98 0 0 l.length 1),(1,.fn 157 [] [.ptr 75 0 0]),(5,.int .i64 t.2.1),(6,.int .i64 t.1)]) (fun t=>[(75,.cells 0 [sliN A]),(98,.cells 0 (ints (nz t.2.2)))]) (fun t=>t.1<=l.length/\t.2.1<t.1/\t.2.2.length=l.length/\t.2.2.take t.2.1=fltN A (l.take t.1)/\t.2.2.drop t.1=l.drop t.1) (fun t=>l.length-t.1) (i0+1,i0,l) ⟨[(75,.nil),(98,.nil)],rfl,au0,au12,au11⟩ ⟨by dsimp only;omega,by dsimp only;omega,rfl,H.symm,rfl⟩ ?_;rintro⟨j,i,C⟩⟨I,J,b,k,B⟩;dsimp only at I J b k B⊢;by_cases c:j<l.length
 ·obtain⟨v,M⟩:=Qap c;have w:C[j]?=some v:=by
   have:(C.drop j)[0]?=(l.drop j)[0]?:=by rw[B]
   simpa[M]using this
  have z:=Qm4 (A:=A) M;have d:=not92 A v hA;by_cases hm:v∈A
  ·have K:(!decide (v∈A))=false:=by simp[hm]
   rw[K]at d;rw[if_pos hm]at z;refine ZcU (Zc2 c b (QoL w)) ?_;refine chc (ZcL (ZcO (Zcv _) (ZcO (ZcK (g:=0) (cs:=[sliN A]) gg (ZcO (Zcv _) ZcN)) ZcN)) d rfl) ?_;have f:i<l.length:=by omega
   have m:(ints (nz C)).set i (.int .i64 (v:Int))=ints (nz (C.set i v)):=by simp[ints,nz,List.map_set]
   have s:i+1<=(ints (nz C)).length:=by simp[ints,b];omega
   have o:i+1<=l.length:=by omega
   refine ZcU (Zc4 f b m s o) ?_;refine⟨(j+1,i+1,C.set i v),by dsimp only;omega,⟨by dsimp only;omega,by dsimp only;omega,by simp[b],?_,?_⟩,?_⟩;·dsimp only;rw[z,<-k,ZaZ,List.getElem?_set_self (by omega),List.take_set,List.set_eq_of_length_le (by rw[Zav];omega)];rfl
   ·dsimp only;rw[List.drop_set_of_lt (by omega)];have:=congrArg (List.drop 1) B;simpa[ZaW]using this
   exact⟨[(75,.nil),(98,.nil)],rfl,au0,au12,au11⟩
  have K:(!decide (v∈A))=true:=by simp[hm]
  rw[K]at d;rw[if_neg hm]at z;refine ZcU (Zc2 c b (QoL w)) ?_;refine chc (ZcL (ZcO (Zcv _) (ZcO (ZcK (g:=0) (cs:=[sliN A]) gg (ZcO (Zcv _) ZcN)) ZcN)) d rfl) ?_;refine ZcT ?_;refine⟨(j+1,i,C),by dsimp only;omega,⟨by dsimp only;omega,by dsimp only;omega,b,by rw[z];exact k,?_⟩,?_⟩;·dsimp only;have:=congrArg (List.drop 1) B;simpa[ZaW]using this
  exact⟨[(75,.nil),(98,.nil)],rfl,au0,au12,au11⟩
 have P:j=l.length:=by omega
 subst P;rw[Zar]at k;have f:(i:Int)<=(l.length:Int):=by omega
 refine ZcU (Zc1 c f) ?_;refine Qm3 gg (by omega) (by simp[ints,b];omega) rfl rfl (by decide) ?_;refine ZcU f ?_;refine⟨.inr trivial,_,rfl,?_⟩;have p:(fltN A l).length=i:=by rw[<-k,Zav];omega
 have u:putR (ints (nz C)) i (List.replicate (l.length-i) [AV.int .i64 0]).flatten=ints (nz (delL A l)):=by rw[Qe9 (by simp[ints,b];omega),Qsr,Qra,k];unfold delL;rw[p,QaF,Qay,List.drop_of_length_le (by simp[ints,b];omega),Zap]
 rw[p,u];exact⟨[(75,.nil),(98,.nil)],rfl,au0,au12,au11⟩
end Go.AM.SU
namespace Go.AM.SU
open Go.Proofs Go.AM.SD Go.AM.SE Go.AM.SO
theorem QaO(l:List (Nat×Int)):noRefs (l.flatMap teC)=true:=Qa1 (fun _=>rfl) l
theorem Qdc(l:List (Nat×Int)):(l.flatMap teC).length=l.length*2:=Qa9 (k:=2) (fun _=>rfl) l
theorem Qdy{l:List (Nat×Int)}{i:Nat}{x:Nat×Int}(h:l[i]?=some x):(l.flatMap teC).drop (i*2)=.int .i64 (x.1:Int)::.int .i64 x.2::(l.drop (i+1)).flatMap teC:=Qa7 (f:=teC) (k:=2) (fun _=>rfl) h
theorem Qrb{x:Nat×Int}:∀{l:List (Nat×Int)}{i:Nat},i<l.length->(l.flatMap teC).take (i*2)++[.int .i64 (x.1:Int),.int .i64 x.2]++(l.flatMap teC).drop (i*2+2)=(l.set i x).flatMap teC|[],i,h=>by simp at h|a::l,0,h=>by simp[Zay,teC]|a::l,i+1,h=>by have:=Qrb (x:=x) (l:=l) (i:=i) (by simpa using h);rw[List.set_cons_succ,Zay,Zay,<-this];rw[show(i+1)*2=i*2+2 by omega];simp[teC]
abbrev teV(x:Nat×Int):AV:=.agg [.int .i64 (x.1:Int),.int .i64 x.2]
theorem zero94(x:Nat×Int):Pq 159 [teV x] (.bool (decide (x.2=0))):=by refine Zcu 64 ok159 rfl rfl rfl ?_;unfold s159;refine ZcT ?_;exact⟨.inr trivial,_,rfl,rfl⟩
def fst0(l:List (Nat×Int)):Int:=if l.all (fun x=>!decide (x.2=0))then-1 else(l.findIdx (fun x=>decide (x.2=0)):Int)
theorem _root_.Go.AM.au13{p:Prop}(h:p:=by repeat'(first|exact ZcA|(refine Zcr ?_;first|rfl|(simp only[noRef,noRefs,Qag,Zad,Zac,Zai,Qad,Qan,Qae,QaO];done))|exact ZcM rfl|exact ZcG|exact(True.intro:RnM _ _ _ [] [])|refine ZcH ?_ ?_|(refine Zcq ?_;first|rfl|(simp only[noRef,noRefs,Qag,Zad,Zac,Zai,Qad,Qan,Qae,QaO];done))|exact Rn.x1 rfl rfl|exact Rn.x2 rfl rfl|exact Rn.x3 rfl rfl|exact Rn.x4 rfl rfl|exact Rn.x5 rfl|exact Rn.x6 rfl|exact Rn.x7 rfl|refine ZcC rfl rfl ?_|refine ZcB rfl rfl rfl ?_ ?_|refine ZcD rfl rfl rfl ?_ ?_|refine ZcE rfl rfl ?_ ?_|refine ZcF rfl rfl ?_ ?_)):p:=h
theorem _root_.Go.AM.au14{p:Prop}(h:p:=by repeat(first|exact Zcy|(refine Zcz ?_ ?_;·(first|exact Rn.any|exact Rn.x1 rfl rfl|exact Rn.x2 rfl rfl|exact Rn.x3 rfl rfl|exact Rn.x4 rfl rfl|exact Rn.x5 rfl|exact Rn.x6 rfl|exact Rn.x7 rfl|(refine Rn.slot ?_ ?_;(first|rfl|(rw[ZaS];rfl));(first|rfl|(simp only[noRef,noRefs,Qag,Zad,Zac,Zai,Qad,Qan,Qae,QaO];done)))|(refine Rn.fn ?_ ?_<;>(repeat'(first|exact ZcG|refine ZcH ?_ ?_|exact Zcq rfl|exact Rn.x6 rfl|exact Rn.x2 rfl rfl|exact Rn.x5 rfl|exact Rn.x1 rfl rfl))))))):p:=h
theorem index186(l:List (Nat×Int))(q:l.length<=1000000):Pq 226 [tes l,.fn 159 [] []] (.int .i64 (fst0 l)):=by
 refine Zcu 64 ok226 rfl (by simp only[noRefs,noRef,QaO];rfl) rfl ?_;have p:=Qdc l;unfold s226;refine ZcT ?_;refine QaL 100 (fun i:Nat=>[(0,tes l),(1,.fn 159 [] []),(7,.int .i64 l.length),(8,.int .i64 i)]) (fun _=>[]) (fun i=>i<=l.length/\∀(j:Nat)y,j<i->l[j]?=some y->y.2≠0) (fun i=>l.length-i) 0 ⟨[],rfl,au0,au13,au14⟩ ⟨Zah _,fun j y c=>absurd c (ZaC _)⟩ ?_;rintro i⟨hi,k⟩;by_cases a:i<l.length
 ·obtain⟨x,b⟩:=Qap a;have f:=zero94 x;by_cases d:x.2=0
  ·have e:decide (x.2=0)=true:=by simp[d]
   rw[e]at f;refine ZcU (Zc1 a (Qdy b)) ?_;refine cpc f ?_;refine ZcT ?_;refine⟨.inr trivial,_,rfl,?_⟩;have h1:¬l.all (fun x=>!decide (x.2=0))=true:=by intro h;have:=ZaH.1 h x (Zae b);simp[d]at this
   have o:l.findIdx (fun x=>decide (x.2=0))=i:=by rw[List.findIdx_eq a];refine⟨by rw[Zal a]at b;cases b;simp[d],fun j c=>?_⟩;have:=k j l[j] c (Zal (by omega));simpa using this
   unfold fst0;rw[if_neg h1,o];rfl
  have e:decide (x.2=0)=false:=by simp[d]
  rw[e]at f;refine ZcU (Zc1 a (Qdy b)) ?_;refine cpc f ?_;refine ZcT ?_;refine⟨i+1,by omega,⟨by omega,fun j y c g=>?_⟩,⟨[],rfl,au0,au13,au14⟩⟩;by_cases e:j=i;·subst e;rw[b]at g;cases g;exact d
  exact k j y (by omega) g
 have h1:l.all (fun x=>!decide (x.2=0))=true:=by rw[ZaH];intro x b;obtain⟨j,c,m⟩:=Zbg b;simpa using k j x (by omega) (by rw[Zal c,m])
 refine ZcU a ?_;refine⟨.inr trivial,_,rfl,?_⟩;unfold fst0;rw[if_pos h1];rfl
def flt0(l:List (Nat×Int)):List (Nat×Int):=l.filter fun t=>!(decide (t.2=0))
theorem Qlb{l:List (Nat×Int)}{j:Nat}{v:Nat×Int}(h:l[j]?=some v):flt0 (l.take (j+1))=if v.2=0 then flt0 (l.take j)else flt0 (l.take j)++[v]:=by unfold flt0;rw[ZaZ,h,Option.toList,Zbi];by_cases a:v.2=0<;>simp[a]
def delT(l:List (Nat×Int)):List (Nat×Int):=flt0 l++List.replicate (l.length-(flt0 l).length) (0,0)
theorem Qss{l:List (Nat×Int)}(h:l.all (fun x=>!decide (x.2=0))=true):flt0 l=l:=by unfold flt0;exact ZbN.2 fun x a=>ZaH.1 h x a
theorem Qrc{k:Nat}:(List.replicate k [AV.int .i64 0,AV.int .i64 0]).flatten=(List.replicate k ((0,0):Nat×Int)).flatMap teC:=by induction k with|zero=>rfl|succ k a=>rw[Zbr,ZbK,a];rfl
theorem QjU:∀{l:List (Nat×Int)}{i:Nat},(l.flatMap teC).take (i*2)=(l.take i).flatMap teC|[],i=>by simp|a::l,0=>by simp|a::l,i+1=>by rw[Zay,Za7,Zay,<-QjU,Zbo];simp[teC]
theorem del93(l:List (Nat×Int))(N:l.length<=1000000):HSpec Tryz.prog 158 [.sl 97 0 0 l.length 2,.fn 159 [] []] (hp [(97,.cells 0 (l.flatMap teC))]) (.sl 97 0 0 (flt0 l).length 2) (hp [(97,.cells 0 ((delT l).flatMap teC))]):=by
 refine HSpec.QoH (m:=98) 100 ok158 rfl rfl ?_;have K:=Qdc l;unfold s158;refine ZcT ?_;refine chc (ZcL (ZcO (FrzTo.all gg K) (ZcO (Zcv _) ZcN)) (index186 l N) rfl) ?_;by_cases a:l.all (fun x=>!decide (x.2=0))=true;·have u:fst0 l=-1:=if_pos a;refine ZcU u ?_;refine⟨.inr trivial,_,rfl,?_⟩;unfold delT;rw[Qss a,Nat.sub_self,List.replicate_zero,Zap];exact⟨[(97,.nil)],rfl,au0,au13,au14⟩
 have u:fst0 l=(l.findIdx (fun x=>decide (x.2=0)):Int):=if_neg a;have hex:∃x∈l,decide (x.2=0)=true:=by have:¬∀x∈l,(!decide (x.2=0))=true:=fun h=>a (ZaH.2 h);obtain⟨x,q⟩:=Classical.not_forall.1 this;obtain⟨q,L⟩:=Classical.not_imp.1 q;exact⟨x,q,by simpa using L⟩
 have k:l.findIdx (fun x=>decide (x.2=0))<l.length:=Zbn hex;obtain⟨i0,z⟩:∃i0,i0=l.findIdx (fun x=>decide (x.2=0)):=⟨_,rfl⟩;rw[<-z]at u k;have I:(l[i0]).2=0:=by have:=Zcc (w:=by rw[<-z];exact k) (xs:=l) (p:=fun x=>decide (x.2=0));simp only[<-z]at this;simpa using this
 have p:flt0 (l.take i0)=l.take i0:=by unfold flt0;refine ZbN.2 fun x q=>?_;obtain⟨j,E,rfl⟩:=Zbg q;rw[Zav]at E;have:=List.not_of_lt_findIdx (xs:=l) (p:=fun x=>decide (x.2=0)) (i:=j) (by rw[<-z];omega);rw[List.getElem_take];simpa using this
 have A:flt0 (l.take (i0+1))=l.take i0:=by rw[Qlb (Zal k),if_pos I,p]
 have B:¬(i0:Int)=-1:=by omega
 refine ZcU (Zc1 u B) ?_;refine QaL 110 (fun t:Nat×Nat×List (Nat×Int)=>[(0,.sl 97 0 0 l.length 2),(1,.fn 159 [] []),(5,.int .i64 t.2.1),(6,.int .i64 t.1)]) (fun t=>[(97,.cells 0 (t.2.2.flatMap teC))]) (fun t=>t.1<=l.length/\t.2.1<t.1/\t.2.2.length=l.length/\t.2.2.take t.2.1=flt0 (l.take t.1)/\t.2.2.drop t.1=l.drop t.1) (fun t=>l.length-t.1) (i0+1,i0,l) ⟨[(97,.nil)],rfl,au0,au13,au14⟩ ⟨by dsimp only;omega,by dsimp only;omega,rfl,A.symm,rfl⟩ ?_;rintro⟨j,i,C⟩⟨E,G,f,m,y⟩;dsimp only at E G f m y⊢;have b:=Qdc C;by_cases d:j<l.length
 ·obtain⟨v,J⟩:=Qap d;have s:C[j]?=some v:=by
   have:(C.drop j)[0]?=(l.drop j)[0]?:=by rw[y]
   simpa[J]using this
  have w:=Qlb J;have g:=zero94 v;have g1:j*2+2<=l.length*2:=by omega
  have g2:i*2+2<=l.length*2:=by omega
  by_cases hm:v.2=0
  ·have H:decide (v.2=0)=true:=by simp[hm]
   rw[H]at g;rw[if_pos hm]at w;refine ZcU (Zc4 d f b g1 (Qdy s)) ?_;refine chc (g.toH _) ?_;refine ZcT ?_;refine⟨(j+1,i,C),by dsimp only;omega,⟨by dsimp only;omega,by dsimp only;omega,f,by rw[w];exact m,?_⟩,?_⟩;·dsimp only;have:=congrArg (List.drop 1) y;simpa[ZaW]using this
   exact⟨[(97,.nil)],rfl,au0,au13,au14⟩
  have H:decide (v.2=0)=false:=by simp[hm]
  rw[H]at g;rw[if_neg hm]at w;refine ZcU (Zc4 d f b g1 (Qdy s)) ?_;refine chc (g.toH _) ?_;have c:i<l.length:=by omega
  refine ZcU (Zc4 c f b g2 (Qrb (l:=C) (i:=i) (x:=v) (by omega))) ?_;refine⟨(j+1,i+1,C.set i v),by dsimp only;omega,⟨by dsimp only;omega,by dsimp only;omega,by simp[f],?_,?_⟩,?_⟩;·dsimp only;rw[w,<-m,ZaZ,List.getElem?_set_self (by omega),List.take_set,List.set_eq_of_length_le (by rw[Zav];omega)];rfl
  ·dsimp only;rw[List.drop_set_of_lt (by omega)];have:=congrArg (List.drop 1) y;simpa[ZaW]using this
  exact⟨[(97,.nil)],rfl,au0,au13,au14⟩
 have M:j=l.length:=by omega
 subst M;rw[Zar]at m;have c:(i:Int)<=(l.length:Int):=by omega
 refine ZcU (Zc1 d c) ?_;refine Qm3 gg (by omega) (by rw[b,f];omega) rfl (by decide) (by decide) ?_;refine ZcU c ?_;refine⟨.inr trivial,_,rfl,?_⟩;have o:(flt0 l).length=i:=by rw[<-m,Zav];omega
 have r:putR (C.flatMap teC) (i*2) (List.replicate (l.length-i) [AV.int .i64 0,AV.int .i64 0]).flatten=(delT l).flatMap teC:=by rw[Qe9 (by rw[b,f];omega),Qrc,QjU,m];unfold delT;rw[o,Zaq,List.drop_of_length_le (by rw[b,f,Qdc,ZbT];omega),Zap]
 rw[o,r];exact⟨[(97,.nil)],rfl,au0,au13,au14⟩
end Go.AM.SU
namespace Go.AM.SO
open Go.Proofs Go.AM.SD Go.AM.SE
theorem convB1{P:Program}{N:NM}{d:Option Nat}{r:List SOper}{dead:List Nat}{fs:List Fr}{n:Nat}{T:Tmps}{h:Heap}{Q:QC}{b g x:Nat}(a:h.get b=some (.cells g [.int .u8 (x:Int)]))(hk:wR P N r dead fs (n+1) (putD T d (.str [UInt8.ofNat x])) h Q):wM P N (aConvB (.sl b g 0 1 1)) d r dead fs n T h Q:=by
 refine⟨_,h,?_,hk⟩;have c:Nat.beq g g=true:=by simp
 simp[aConvB,aSrc,HM.cells,HM.run,a,c,bytesOf]
theorem Qdd(F:List Nat)(i:Nat):noRefs (evP F i)=true:=by unfold evP;exact Qa1 (fun j=>rfl) _
theorem _root_.Go.AM.au15{p:Prop}(h:p:=by repeat(first|exact Zcy|(refine Zcz ?_ ?_;·(first|exact Rn.any|exact Rn.x1 rfl rfl|exact Rn.x2 rfl rfl|exact Rn.x3 rfl rfl|exact Rn.x4 rfl rfl|exact Rn.x5 rfl|exact Rn.x6 rfl|exact Rn.x7 rfl|(refine Rn.slot ?_ ?_;(first|rfl|(rw[ZaS];rfl));(first|rfl|(simp only[noRef,noRefs,Qag,Zad,Zac,Zai,Qad,Qan,Qae,QaH];done)))|(refine Rn.fn ?_ ?_<;>(repeat'(first|exact ZcG|refine ZcH ?_ ?_|exact Zcq rfl|exact Rn.x6 rfl|exact Rn.x2 rfl rfl|exact Rn.x5 rfl|exact Rn.x1 rfl rfl))))))):p:=h
theorem events88(F:List Nat)(o:F.length=5)(c:∀i,F.getD i 0<256):Pq 152 [.agg (u8s F)] (.fsl (evP F 5) 5 5):=by
 refine Zct 64 ok152 rfl (by simp only[noRefs,noRef,QaH];rfl) (by simp only[noRef];exact Qdd _ _) ?_;unfold s152;refine ZcZ ?_;refine QaL 100 (fun i:Nat=>[(1,.ptr 64 0 0),(3,.sl 50 0 0 i 5),(4,.int .i64 i)]) (fun i=>[(50,.cells 0 (evP F i)),(64,.cells 0 (u8s F))]) (fun i=>i<=5) (fun i=>5-i) 0 ⟨[(50,.nil),(64,.blk 64 0)],rfl,au0,?_,au15⟩ (Zah _) ?_;·exact ZcC rfl rfl (ZcB rfl rfl rfl (Zcr (QaH _)) ZcA)
 rintro i hi;by_cases m:i<5
 ·have a:(i:Int)<5:=by omega
  have hu:(u8s F)[i]?=some (.int .u8 ((F.getD i 0:Nat):Int)):=QgX (by rw[Zal (by omega)];simp[List.getD,Zal (show i<F.length by omega)]);have f:=c i;have h:=@QmW F i;have g:=@QjR F i;generalize F.getD i 0=b at hu f h;have k:wr .u8 ((97:Int)+(i:Int))=((97+i:Nat):Int):=by rw[wr_u8 (by omega) (by omega)];omega
  refine Zc0 (Zc4 a hu g k @QrZ) ?_;refine convB1 gg ?_;have k1:((97+i:Nat):Int)=((97+i:Nat):Int):=rfl;by_cases d:48<=b/\b<52
  ·have k2:(48:Int)<=(b:Int):=by omega
   have k3:(b:Int)<52:=by omega
   have k4:(b:Int)-47=((b-47:Nat):Int):=by omega
   have ev:evP F i++[.str [UInt8.ofNat (97+i)],.bool false,.bool false,.bool false,.int .i64 ((b-47:Nat):Int)]=evP F (i+1):=by rw[h];simp[evC,evOf,d]
   simp(disch:=first|omega|exact PairsOK.mk rfl|(simp only[lenW]<;>omega))only[a,hu,g,k2,k3,k4,wW,wV,simprocAttr];refine⟨i+1,by omega,by omega,?_⟩;rw[ev];refine⟨[(50,.blk 50 1),(64,.blk 64 0)],rfl,au0,?_,au15⟩;exact ZcB rfl rfl gg (Zcr (Qdd _ _)) (ZcB rfl rfl gg (Zcr (QaH _)) ZcA)
  have ev:evP F i++[.str [UInt8.ofNat (97+i)],.bool (decide (b&&&1=1)),.bool (decide (b&&&2=2)),.bool (decide (b&&&4=4)),.int .i64 0]=evP F (i+1):=by rw[h];simp[evC,evOf,d]
  have d1:decide (((b&&&1:Nat):Int)=1)=decide (b&&&1=1):=decide_eq_decide.2 (by omega);have d2:decide (((b&&&2:Nat):Int)=2)=decide (b&&&2=2):=decide_eq_decide.2 (by omega);have d4:decide (((b&&&4:Nat):Int)=4)=decide (b&&&4=4):=decide_eq_decide.2 (by omega);have l:=Qq3 f;have a2:=Qq4 f;have a4:=Qq5 f;by_cases p:48<=b
  ·have k3:(48:Int)<=(b:Int):=by omega
   have k4:¬(b:Int)<52:=by omega
   simp(disch:=first|omega|exact PairsOK.mk rfl|(simp only[lenW]<;>omega))only[a,hu,g,k3,k4,l,a2,a4,d1,d2,d4,wW,wV,simprocAttr];refine⟨i+1,by omega,by omega,?_⟩;rw[ev];refine⟨[(50,.blk 50 1),(64,.blk 64 0)],rfl,au0,?_,au15⟩;exact ZcB rfl rfl gg (Zcr (Qdd _ _)) (ZcB rfl rfl gg (Zcr (QaH _)) ZcA)
  have k3:¬(48:Int)<=(b:Int):=by omega
  simp(disch:=first|omega|exact PairsOK.mk rfl|(simp only[lenW]<;>omega))only[a,hu,g,k3,l,a2,a4,d1,d2,d4,wW,wV,simprocAttr];refine⟨i+1,by omega,by omega,?_⟩;rw[ev];refine⟨[(50,.blk 50 1),(64,.blk 64 0)],rfl,au0,?_,au15⟩;exact ZcB rfl rfl gg (Zcr (Qdd _ _)) (ZcB rfl rfl gg (Zcr (QaH _)) ZcA)
 have a:¬(i:Int)<5:=by omega
 have e:i=5:=by omega
 subst e;refine Zc0 a ?_;refine⟨.inr trivial,_,rfl,?_⟩;exact Rn.fz0 rfl QjR (Zcr (Qdd _ _))
end Go.AM.SO
namespace Go.AM.ST
open Go.Proofs Go.AM.SD
noncomputable section
def bitsL(s:Nat):List Nat:=(List.range 5).filter fun i=>s.testBit i
def isV(v:AV)(u:AV):Bool:=eqAV u v
theorem Qrd{v:AV}:∀u,isV v u=true->u=v:=fun u h=>Qdn _ _ h
def unionB(a b:Nat):Bool:=callR ansB noOrc SK.ft.get (exR ansB noOrc SK.ft.get 1000) (.c .pure) 154 [sliN (bitsL a),sliN (bitsL b)] .e 64 (fun u _ _=>isV (sliN (bitsL (a|||b))) u)
theorem Qst{a b:Nat}(h:unionB a b=true):Pq 154 [sliN (bitsL a),sliN (bitsL b)] (sliN (bitsL (a|||b))):=Qcj (t:=SK.ft) SK.ft_ok QeF (d:=1000) (isV _) Qrd h
end
end Go.AM.ST
namespace Go.AM.ST
open Go.Proofs Go.AM.SD
noncomputable section
def rowB(a n:Nat):Bool:=@Nat.rec (fun _=>Bool) true (fun b c=>ifB (unionB a b) c false) n
theorem row_1:rowB 1 32=true:=by kernel_rfl
theorem row_2:rowB 2 32=true:=by kernel_rfl
theorem row_3:rowB 3 32=true:=by kernel_rfl
theorem row_4:rowB 4 32=true:=by kernel_rfl
theorem row_5:rowB 5 32=true:=by kernel_rfl
theorem row_6:rowB 6 32=true:=by kernel_rfl
theorem row_7:rowB 7 32=true:=by kernel_rfl
theorem row_8:rowB 8 32=true:=by kernel_rfl
theorem row_9:rowB 9 32=true:=by kernel_rfl
theorem QuF:rowB 10 32=true:=by kernel_rfl
theorem QuG:rowB 11 32=true:=by kernel_rfl
theorem QuH:rowB 12 32=true:=by kernel_rfl
theorem QuI:rowB 13 32=true:=by kernel_rfl
theorem QuJ:rowB 14 32=true:=by kernel_rfl
theorem QuK:rowB 15 32=true:=by kernel_rfl
theorem QuL:rowB 16 32=true:=by kernel_rfl
theorem QuM:rowB 17 32=true:=by kernel_rfl
theorem QuN:rowB 18 32=true:=by kernel_rfl
theorem QuO:rowB 19 32=true:=by kernel_rfl
theorem QuP:rowB 20 32=true:=by kernel_rfl
theorem QuQ:rowB 21 32=true:=by kernel_rfl
theorem QuR:rowB 22 32=true:=by kernel_rfl
theorem QuS:rowB 23 32=true:=by kernel_rfl
theorem QuT:rowB 24 32=true:=by kernel_rfl
theorem QuU:rowB 25 32=true:=by kernel_rfl
theorem QuV:rowB 26 32=true:=by kernel_rfl
theorem QuW:rowB 27 32=true:=by kernel_rfl
theorem QuX:rowB 28 32=true:=by kernel_rfl
theorem QuY:rowB 29 32=true:=by kernel_rfl
theorem QuZ:rowB 30 32=true:=by kernel_rfl
theorem Qu0:rowB 31 32=true:=by kernel_rfl
theorem Qre{a:Nat}:∀{n b:Nat},rowB a n=true->b<n->unionB a b=true
 |0,_,_,h=>absurd h (ZaC _)|n+1,b,c,d=>by
  have e:rowB a (n+1)=ifB (unionB a n) (rowB a n) false:=rfl;rw[e,QaE]at c;split at c
  ·rename_i h;rcases Nat.lt_succ_iff_lt_or_eq.1 d with h1|rfl;·exact Qre c h1
   exact h
  cases c
theorem QpD{a b:Nat}(f:0<a)(c:a<32)(d:b<32):Pq 154 [sliN (bitsL a),sliN (bitsL b)] (sliN (bitsL (a|||b))):=by
 have h:rowB a 32=true:=by
  have:a=1\/a=2\/a=3\/a=4\/a=5\/a=6\/a=7\/a=8\/a=9\/a=10\/a=11\/a=12\/a=13\/a=14\/a=15\/a=16\/a=17\/a=18\/a=19\/a=20\/a=21\/a=22\/a=23\/a=24\/a=25\/a=26\/a=27\/a=28\/a=29\/a=30\/a=31:=by omega
  rcases this with rfl|rfl|rfl|rfl|rfl|rfl|rfl|rfl|rfl|rfl|rfl|rfl|rfl|rfl|rfl|rfl|rfl|rfl|rfl|rfl|rfl|rfl|rfl|rfl|rfl|rfl|rfl|rfl|rfl|rfl|rfl;·exact row_1
  ·exact row_2
  ·exact row_3
  ·exact row_4
  ·exact row_5
  ·exact row_6
  ·exact row_7
  ·exact row_8
  ·exact row_9
  ·exact QuF
  ·exact QuG
  ·exact QuH
  ·exact QuI
  ·exact QuJ
  ·exact QuK
  ·exact QuL
  ·exact QuM
  ·exact QuN
  ·exact QuO
  ·exact QuP
  ·exact QuQ
  ·exact QuR
  ·exact QuS
  ·exact QuT
  ·exact QuU
  ·exact QuV
  ·exact QuW
  ·exact QuX
  ·exact QuY
  ·exact QuZ
  exact Qu0
 exact Qst (Qre h d)
end
end Go.AM.ST
namespace Go.AM.ST
open Go.Proofs Go.AM.SD Go.AM.SE
noncomputable section
def allV(a:Nat):AV:=if a=0 then .nilsl else sliN (bitsL a)
def unionN(b:Nat):Bool:=callR ansB noOrc SK.ft.get (exR ansB noOrc SK.ft.get 1000) (.c .pure) 154 [.nilsl,sliN (bitsL b)] .e 64 (fun u _ _=>isV (allV b) u)
theorem Qrf{b:Nat}(h:unionN b=true):Pq 154 [.nilsl,sliN (bitsL b)] (allV b):=Qcj (t:=SK.ft) SK.ft_ok QeF (d:=1000) (isV _) Qrd h
def rowN(n:Nat):Bool:=@Nat.rec (fun _=>Bool) true (fun b a=>ifB (unionN b) a false) n
theorem Qsu:rowN 32=true:=by kernel_rfl
theorem QoM:∀{n b:Nat},rowN n=true->b<n->unionN b=true
 |0,_,_,h=>absurd h (ZaC _)|n+1,b,a,c=>by
  have e:rowN (n+1)=ifB (unionN n) (rowN n) false:=rfl;rw[e,QaE]at a;split at a
  ·rename_i h;rcases Nat.lt_succ_iff_lt_or_eq.1 c with h1|rfl;·exact QoM a h1
   exact h
  cases a
theorem Qrg(b:Nat):SD.part 5 b=bitsL (b%32):=by unfold bitsL SD.part;apply ZbF;intro x a;have:=Zat.1 a;rw[show 32=2^5 from rfl,Nat.testBit_mod_two_pow];simp[this]
theorem union90{a b:Nat}(f:a<32):Pq 154 [allV a,sliN (SD.part 5 b)] (allV (a|||b%32)):=by
 rw[Qrg];have d:b%32<32:=Zch _ (by decide);by_cases c:a=0;·subst c;rw[Nat.zero_or];exact Qrf (QoM Qsu d)
 have h1:¬(a|||b%32)=0:=fun e=>c (Nat.or_eq_zero_iff.1 e).1;unfold allV;rw[if_neg c,if_neg h1];exact QpD (by omega) f d
end
end Go.AM.ST
namespace Go.AM.SU
open Go.Proofs Go.AM.SD Go.AM.SE Go.AM.SO
theorem QcY(l:List Nat):(u8s l).length=l.length:=by simp[u8s]
theorem graph91(al:List Nat)(st mk:Nat)(T:List Nat)(i:al.Pairwise (·<·))(o:∀x∈al,x<5)(p:st<256)(f:mk<256)(h:T.length=25)(c:∀x∈T,x<256):Pq 155 [sliN al,grV st mk T,.int .i64 3] (aV (mkA al (st%3) mk T)):=by
 refine Zct 40 ok155 rfl (by(try simp only[noRefs,Qad,QaH,noRef,noRefs,Qae,QaO,Zad,Zac])<;>rfl) (Qdu _) ?_;have k:=Make32 al (st%3) mk T i o (by omega) f h c;have b:(u8s T).length=25:=by rw[QcY,h]
 have g:(u8s T).take 25=u8s T:=by rw[<-b,Zar]
 have d:(st:Int).tmod 3=((st%3:Nat):Int):=by rw[Zbt (Zbp _)];norm_cast
 have a:(u8s T).all AV.one=true:=by
  have:∀l:List Nat,(u8s l).all AV.one=true:=fun l=>by induction l with|nil=>rfl|cons x l m=>show(AV.one _&&(u8s l).all AV.one)=true;rw[m];rfl
  exact this T
 unfold s155;refine ZcU (Zc3 b g d a) ?_;refine cp k ?_;generalize mkA al (st%3) mk T=A at*;refine ZcU (Zc1 a b) ?_;refine⟨.inr trivial,_,rfl,?_⟩;exact Zcq (Qdu _)
theorem Qf0{i:Nat}(hi:i<10):aConvS (.int .i32 (48+(i:Int)))=some (.str [UInt8.ofNat (48+i)]):=by
 have:i=0\/i=1\/i=2\/i=3\/i=4\/i=5\/i=6\/i=7\/i=8\/i=9:=by omega
 rcases this with rfl|rfl|rfl|rfl|rfl|rfl|rfl|rfl|rfl|rfl<;>rfl
theorem _root_.Go.AM.au16{p:Prop}(h:p:=by repeat'(first|exact ZcA|(refine Zcr ?_;first|rfl|(simp only[noRef,noRefs,Qag,Zad,Zac,Zai,Qad,QaH,Qan,Qae,QaO];done))|exact ZcM rfl|exact ZcG|exact(True.intro:RnM _ _ _ [] [])|refine ZcH ?_ ?_|(refine Zcq ?_;first|rfl|(simp only[noRef,noRefs,Qag,Zad,Zac,Zai,Qad,QaH,Qan,Qae,QaO];done))|exact Rn.x1 rfl rfl|exact Rn.x2 rfl rfl|exact Rn.x3 rfl rfl|exact Rn.x4 rfl rfl|exact Rn.x5 rfl|exact Rn.x6 rfl|exact Rn.x7 rfl|refine ZcC rfl rfl ?_|refine ZcB rfl rfl rfl ?_ ?_|refine ZcD rfl rfl rfl ?_ ?_|refine ZcE rfl rfl ?_ ?_|refine ZcF rfl rfl ?_ ?_)):p:=h
theorem _root_.Go.AM.au17{p:Prop}(h:p:=by repeat(first|exact Zcy|(refine Zcz ?_ ?_;·(first|exact Rn.any|exact Rn.x1 rfl rfl|exact Rn.x2 rfl rfl|exact Rn.x3 rfl rfl|exact Rn.x4 rfl rfl|exact Rn.x5 rfl|exact Rn.x6 rfl|exact Rn.x7 rfl|(refine Rn.slot ?_ ?_;(first|rfl|(rw[ZaS];rfl));(first|rfl|(simp only[noRef,noRefs,Qag,Zad,Zac,Zai,Qad,QaH,Qan,Qae,QaO];done)))|(refine Rn.fn ?_ ?_<;>(repeat'(first|exact ZcG|refine ZcH ?_ ?_|exact Zcq rfl|exact Rn.x6 rfl|exact Rn.x2 rfl rfl|exact Rn.x5 rfl|exact Rn.x1 rfl rfl))))))):p:=h
theorem events89(s:Nat)(g:s<256):HSpec Tryz.prog 153 [.int .u8 s] .e (.sl 98 0 0 (SD.part 5 s).length 1) (hp [(98,.cells 0 (ints (nz (SD.part 5 s))))]):=by
 refine HSpec.Qb0 64 ok153 rfl ?_;unfold s153;refine ZcT ?_;refine QaL 100 (fun i:Nat=>[(0,.int .u8 s),(3,.sl 50 0 0 (SD.part i s).length 1),(4,.int .i64 i)]) (fun i=>[(50,.cells 0 (ints (nz (SD.part i s))))]) (fun i=>i<=5) (fun i=>5-i) 0 ⟨[(50,.nil)],rfl,au0,au16,au17⟩ (Zah _) ?_;rintro i hi;have d:=@Qdv i s;by_cases f:i<5
 ·have a:(i:Int)<5:=by omega
  by_cases b:s.testBit i=true;·have c:=Qeh.2 b;have hp:=QdT (n:=5) (b:=s) (i:=i);rw[if_pos b]at hp;simp(disch:=first|omega|(simp only[lenW]<;>omega))only[a,QcW (k:=.u8) (show i<=8 by omega),QcX,c,Zam,wW,wV,simprocAttr];refine⟨i+1,by omega,by omega,?_⟩;rw[hp,QaF,Qay,Zaf];exact⟨[(50,.blk 50 1)],rfl,au0,au16,au17⟩
  have c:¬((s/2^i%2:Nat):Int)=1:=fun e=>b (Qeh.1 e);have hp:=QdT (n:=5) (b:=s) (i:=i);rw[if_neg b,Zap]at hp;simp(disch:=first|omega|(simp only[lenW]<;>omega))only[a,QcW (k:=.u8) (show i<=8 by omega),QcX,c,Zam,wW,wV,simprocAttr];refine⟨i+1,by omega,by omega,?_⟩;rw[hp];exact⟨[(50,.blk 50 0)],rfl,au0,au16,au17⟩
 have a:¬(i:Int)<5:=by omega
 have e:i=5:=by omega
 subst e;refine ZcU a ?_;refine⟨.inr trivial,_,rfl,?_⟩;exact⟨[(98,.blk 50 0)],rfl,au0,au16,au17⟩
theorem del40F{A l:List Nat}{h:Heap}(hA:A.length<=1000000)(d:l.length<=1000000)(a:h.get 75=some (.cells 0 [sliN A]))(b:h.get 98=some (.cells 0 (ints (nz l)))):HSpec Tryz.prog 156 [.sl 98 0 0 l.length 1,.fn 157 [] [.ptr 75 0 0]] h (sliN (fltN A l)) ((h.set 98 (.cells 0 (ints (nz (delL A l))))).set 98 (.dead 0)):=by
 have h1:=HSpec.frameB (del40 A l hA d) (OnlyD.cons (OnlyD.sl (.inr rfl)) (OnlyD.cons (OnlyD.fn OnlyD.nil (OnlyD.cons (OnlyD.ptr (.inl rfl)) OnlyD.nil)) OnlyD.nil)) (OnlyD.sl (.inr rfl)) (by simp only[noRefs,noRef,Qad];rfl) (Qad _) (Qad _) a b (by decide) rfl rfl;have hle:(fltN A l).length*1<=(ints (nz (delL A l))).length:=by simp[ints,delL]
 have c:=HSpec.freeze (ds:=ints (nz (delL A l))) h1 (by rw[QaA (by decide)]) (Qcy _) hle rfl;have e:(ints (nz (delL A l))).take ((fltN A l).length*1)=ints (nz (fltN A l)):=by rw[Zcj];unfold delL;rw[QaF,Qay,List.take_append_of_le_length (by simp[ints]),Za1 (by simp[ints])]
 rw[e]at c;exact c
theorem QtA(l:List (Nat×Int)):flatVs (l.flatMap teC)=true:=by induction l with|nil=>rfl|cons x l a=>rw[Zay];exact a
theorem del93F{l:List (Nat×Int)}{h:Heap}(c:l.length<=1000000)(a:h.get 97=some (.cells 0 (l.flatMap teC))):HSpec Tryz.prog 158 [.sl 97 0 0 l.length 2,.fn 159 [] []] h (tes (flt0 l)) ((h.set 97 (.cells 0 ((delT l).flatMap teC))).set 97 (.dead 0)):=by
 have h1:=HSpec.frameA (del93 l c) (OnlyD.cons (OnlyD.sl rfl) (OnlyD.cons (OnlyD.same rfl) OnlyD.nil)) (OnlyD.sl rfl) (QaO _) (QaO _) a rfl;have hle:(flt0 l).length*2<=((delT l).flatMap teC).length:=by rw[Qdc];simp[delT];omega
 have b:=HSpec.freeze (ds:=(delT l).flatMap teC) h1 (by rw[QaA (by decide)]) (QtA _) hle rfl;have e:((delT l).flatMap teC).take ((flt0 l).length*2)=(flt0 l).flatMap teC:=by rw[QjU];unfold delT;rw[List.take_left]
 rw[e]at b;exact b
end Go.AM.SU
namespace Go.AM.SU
open Go.Proofs Go.AM.SD Go.AM.SE Go.AM.SO
theorem QoN:∀l:List Nat,(u8s l).all AV.one=true|[]=>rfl|x::l=>by show(AV.one _&&(u8s l).all AV.one)=true;rw[QoN l];rfl
section
variable{p:Pln}
theorem Qrh{l:List Nat}{k:Nat}(h:k<l.length):(u8s l)[k]?=some (.int .u8 ((l.getD k 0:Nat):Int)):=by refine QgX ?_;rw[Zal h,Zak,Zal h];rfl
theorem Qdz(h:POk p):(plnC p).length=152:=by show(u8s p.L++_).length=152;rw[Zaf,QcY,h.L];rfl
theorem Qu1(h:POk p){k:Nat}(hk:k<147):(plnC p)[k]?=some (.int .u8 ((p.L.getD k 0:Nat):Int)):=by show(u8s p.L++_)[k]?=_;rw[ZaT (by rw[QcY,h.L];exact hk),Qrh (by rw[h.L];exact hk)]
theorem Qfo(h:POk p){k:Nat}:(plnC p)[147+k]?=([.fsl (u8s p.X) p.xn 4,.int .i8 p.f0,.int .i8 p.f1,.int .i8 p.f2,.int .i8 p.bd]:List AV)[k]?:=by show(u8s p.L++_)[147+k]?=_;rw[ZbP (by rw[QcY,h.L];omega),QcY,h.L];congr 1;omega
theorem Qm5(h:POk p){k m:Nat}(hk:k+m<=147):((plnC p).drop k).take m=u8s ((p.L.drop k).take m):=by show((u8s p.L++_).drop k).take m=_;rw[List.drop_append_of_le_length (by rw[QcY,h.L];omega),List.take_append_of_le_length (by rw[Za3,QcY,h.L];omega)];simp[u8s,List.map_drop,List.map_take]
theorem Qu2(h:POk p){k:Nat}(hk:k+27<=147):((plnC p).drop k).take 27=.int .u8 ((p.L.getD k 0:Nat):Int)::.int .u8 ((p.L.getD (k+1) 0:Nat):Int)::u8s ((p.L.drop (k+2)).take 25):=by
 have a:=h.L;rw[Qm5 h hk];have e:(p.L.drop k).take 27=p.L.getD k 0::p.L.getD (k+1) 0::(p.L.drop (k+2)).take 25:=by rw[Zak,Zak,Zal (show k<p.L.length by omega),Zal (show k+1<p.L.length by omega)];rw[Zbf (show k<p.L.length by omega),Za7,Zbf (show k+1<p.L.length by omega),Za7];rfl
 rw[e];rfl
theorem L_lt(h:POk p)(k:Nat):p.L.getD k 0<256:=by rw[Zak];cases e:p.L[k]? with|none=>decide|some x=>exact h.L8 x (Zae e)
theorem X_lt(h:POk p)(k:Nat):p.X.getD k 0<256:=by rw[Zak];cases e:p.X[k]? with|none=>decide|some x=>exact h.X8 x (Zae e)
theorem pF_lt(h:POk p)(i:Nat):-128<=pF p i/\pF p i<128:=by
 unfold pF;split;·exact h.f0
 split;·exact h.f1
 exact h.f2
theorem QdA(h:POk p):(plnC p).all AV.one=true:=by show(u8s p.L++_).all AV.one=true;rw[Zb8,QoN];rfl
theorem Qd7:noRefs (plnC p)=true:=by show noRefs (u8s p.L++_)=true;rw[Qag,QaH];simp only[noRefs,noRef,QaH];rfl
theorem QtB(F:List Nat):AV.fsl (evP F 5) 5 5=evsV (fun i=>evOf (F.getD i 0)):=by congr 1
theorem Qri(e:Nat->Evt):noRef (evsV e)=true:=rfl
theorem Qbu{ch:UInt8}(l:List (Nat×Aut)):noRefs (l.flatMap (itC ch))=true:=Qa1 (fun x=>by simp only[itC,noRefs,noRef,Qad,Qaf];rfl) l
theorem QaC{ch:UInt8}(l:List (Nat×Aut)):noRef (its ch l)=true:=by simp only[noRef];exact Qbu l
theorem QtC{p:Pln}{i:Nat}:fltN (ST.bitsL (pAll p (pN p))) (SD.part 5 (p.L.getD (91+i) 0))=pW p i:=by unfold fltN pW;apply ZbF;intro x a;have:=partLt x a;show decide (x∈(List.range 5).filter _)=_;simp[this]
theorem Qbo(l:List (Nat×Nat)):noRefs (l.flatMap loC)=true:=Qa1 (fun _=>rfl) l
theorem Qcb(l:List (Nat×Nat)):noRef (los l)=true:=by simp only[noRef];exact Qbo l
theorem Qg2(l:List (Nat×Nat)):(l.flatMap loC).length=l.length*2:=Qa9 (k:=2) (fun _=>rfl) l
theorem Qbi(l:List (Nat×List (Nat×Nat))):noRefs (l.flatMap exC)=true:=Qa1 (fun x=>by simp only[exC,noRefs,noRef,Qbo];rfl) l
theorem Qbz(l:List (Nat×List (Nat×Nat))):noRef (exs l)=true:=by simp only[noRef];exact Qbi l
theorem QeJ(l:List (Nat×List (Nat×Nat))):(l.flatMap exC).length=l.length*2:=Qa9 (k:=2) (fun _=>rfl) l
theorem QcC(l:List (Nat×Int)):noRef (tes l)=true:=by simp only[noRef];exact QaO l
theorem QcZ(l:List (List (Nat×Int)×Int)):noRefs (l.flatMap coC)=true:=Qa1 (fun x=>by simp only[coC,noRefs,noRef,QaO];rfl) l
theorem Qlc(l:List (List (Nat×Int)×Int)):noRef (cos l)=true:=by simp only[noRef];exact QcZ l
theorem Qcq{ch:UInt8}{l:List (Nat×Aut)}{i:Nat}{x:Nat×Aut}(h:l[i]?=some x):(l.flatMap (itC ch)).drop (i*5)=.str [ch,UInt8.ofNat (48+x.1)]::sliN x.2.al::.int .i64 (x.2.n:Int)::sliN x.2.ms::egsN x.2.es::(l.drop (i+1)).flatMap (itC ch):=Qa7 (f:=itC ch) (k:=5) (fun _=>rfl) h
theorem QtD{X:List Nat}{i:Nat}(h:i*4+4<=X.length):((u8s X).drop (i*4)).take 4=[.int .u8 ((X.getD (i*4) 0:Nat):Int),.int .u8 ((X.getD (i*4+1) 0:Nat):Int),.int .u8 ((X.getD (i*4+2) 0:Nat):Int),.int .u8 ((X.getD (i*4+3) 0:Nat):Int)]:=by
 have g:∀k,k<4->X.getD (i*4+k) 0=X[i*4+k]!:=fun k hk=>by rw[Zak,List.getElem!_eq_getElem?_getD];rfl
 apply ZbA;intro j;by_cases a:j<4
 ·rw[List.getElem?_take_of_lt a,ZbH,Qrh (by omega)];have:j=0\/j=1\/j=2\/j=3:=by omega
  rcases this with rfl|rfl|rfl|rfl<;>rfl
 rw[ZaD (by rw[Zav];omega),ZaD (by simp;omega)]
theorem QaM(c:Cel):noRef (celV c)=true:=by rw[celV,noRef,noRefs,noRefs,noRefs,noRefs,noRefs,Qri,QaC,QaC,Qbz,Qlc];rfl
theorem Qd8{s:List UInt8}{a:Aut}:noRefs [.str s,sliN a.al,.int .i64 (a.n:Int),sliN a.ms,egsN a.es]=true:=by simp only[noRefs,noRef,Qad,Qaf];rfl
theorem Qav{x y:List AV}(a:noRefs x=true)(b:noRefs y=true):noRefs (x++y)=true:=by rw[Qag,a,b];rfl
theorem Qrj{ch:UInt8}{i:Nat}{a:Aut}:List.flatMap (itC ch) [(i,a)]=[.str [ch,UInt8.ofNat (48+i)],sliN a.al,.int .i64 (a.n:Int),sliN a.ms,egsN a.es]:=rfl
theorem QdX{ch:UInt8}(l:List (Nat×Aut)):(l.flatMap (itC ch)).length=l.length*5:=Qa9 (k:=5) (fun _=>rfl) l
theorem Qsv{i:Nat}:pCs p (i+1)=pCs p i++[(i,pA p i)]:=by unfold pCs;rw[ZaO,ZaK];rfl
theorem Qsw{i:Nat}:pRs p (i+1)=pRs p i++[(i,pR p i)]:=by unfold pRs;rw[ZaO,ZaK];rfl
theorem QjV{i:Nat}:(pCs p i).length=i:=by simp[pCs]
theorem QoO{i:Nat}:(pRs p i).length=i:=by simp[pRs]
theorem QoP:∀{i:Nat},pAll p i<32|0=>by show 0<32;decide|i+1=>Nat.or_lt_two_pow (n:=5) QoP (Zch _ (by decide))
end
theorem QpE(a:Nat):(ST.allV a).cells=[ST.allV a]:=by unfold ST.allV;split<;>rfl
theorem Qsx(a:Nat):(ST.allV a).one=true:=by unfold ST.allV;split<;>rfl
theorem QnS(a:Nat):noRefs [ST.allV a]=true:=by
 unfold ST.allV;split;·rfl
 simp only[noRefs,noRef,Qad];rfl
theorem Make26(p:Pln)(h:POk p):Pq 88 [plnV p] (celV (mkC p)):=by
 refine Zct 40 ok88 rfl (by simp only[noRefs,noRef,Qd7];rfl) (QaM _) ?_;have hlen:=Qdz h;have L:=QdA h;have b:=@Qd7 p;have h5:(plnC p).take 5=u8s (p.L.take 5):=by simpa using Qm5 h (k:=0) (m:=5) (by omega)
 have E:=events88 (p.L.take 5) (by rw[Zav,h.L];rfl) (fun i=>by rw[Zak];cases e:(p.L.take 5)[i]? with|none=>decide|some x=>exact h.L8 x (ZaQ (Zae e)));rw[QtB]at E;have o:∀{k},k<147->(plnC p)[k]?=some (.int .u8 ((p.L.getD k 0:Nat):Int)):=fun hk=>Qu1 h hk;have a5:=o (k:=5) (by omega);have a90:=o (k:=90) (by omega);have U:(plnC p)[147]?=some (.fsl (u8s p.X) p.xn 4):=Qfo h (k:=0);have aF:∀i,i<3->(plnC p)[148+i]?=some (.int .i8 (pF p i)):=by
  intro i hi;have:i=0\/i=1\/i=2:=by omega
  rcases this with rfl|rfl|rfl;·exact Qfo h (k:=1)
  ·exact Qfo h (k:=2)
  exact Qfo h (k:=3)
 have T:(plnC p)[151]?=some (.int .i8 p.bd):=Qfo h (k:=4);have I:∀{k},k+27<=147->((plnC p).drop k).take 27=_:=fun hk=>Qu2 h hk;show wS _ _ _ _ _ (argT 0 [.agg (plnC p)]) _ _;generalize plnC p=C at*;have htm:((p.L.getD 5 0:Nat):Int).tmod 3=((p.L.getD 5 0%3:Nat):Int):=by rw[Zbt (Zbp _)];norm_cast
 have hn:(1:Int)+((p.L.getD 5 0%3:Nat):Int)=(pN p:Int):=by unfold pN;omega
 have hn3:=@pN_le p;unfold s88;refine ZcU (Zc2 hlen L h5) ?_;refine cp E ?_;refine ZcU (Zc2 a5 htm hn) ?_;refine Qaq 100 (fun i:Nat=>[(1,.ptr 50 0 0),(2,.ptr 51 0 0),(3,.ptr 52 0 0),(4,.ptr 75 0 0),(5,.int .i64 (pN p:Int)),(26,.int .i64 (pN p:Int)),(27,.int .i64 i)]) (fun i=>[(50,.cells 0 C),(51,.cells 0 [.nilsl,.nilsl,.nilsl,.nilsl,.nilsl]),(52,.cells 0 [evsV (fun i=>evOf ((p.L.take 5).getD i 0)),.sl 76 0 0 (pCs p i).length 5,.nilsl,.nilsl,.nilsl]),(75,.cells 0 [ST.allV (pAll p i)]),(76,.cells 0 ((pCs p i).flatMap (itC 99)))]) (fun i=>i<=pN p) (fun i=>pN p-i) 0 0 200 (fun _:Unit=>[(1,.ptr 50 0 0),(2,.ptr 51 0 0),(3,.ptr 52 0 0),(4,.ptr 75 0 0),(5,.int .i64 (pN p:Int))]) (fun _=>[(50,.cells 0 C),(51,.cells 0 [.nilsl,.nilsl,.nilsl,.nilsl,.nilsl]),(52,.cells 0 [evsV (fun i=>evOf ((p.L.take 5).getD i 0)),its 99 (pCs p (pN p)),.nilsl,.nilsl,.nilsl]),(75,.cells 0 [sliN (ST.bitsL (pAll p (pN p)))])]) (fun _=>True) ?_ (Zah _) ?_ ?_;·refine⟨[(50,.blk 40 0),(51,.blk 41 0),(52,.blk 46 0),(75,.blk 48 0),(76,.nil)],rfl,au0,?_,au17⟩;exact ZcB rfl rfl gg (Zcr b) (ZcB rfl rfl gg (Zcr rfl) (ZcB rfl rfl gg (ZcH (Zcq rfl) (ZcH (Rn.x4 rfl rfl) (Zcr rfl))) (ZcB rfl rfl gg (Zcr rfl) (ZcC rfl rfl ZcA))))
 ·rintro i hi;by_cases c:i<pN p
  ·have f:(i:Int)<3:=by omega
   have a6:=o (k:=6+i) (by omega);have hE:=events16 (p.L.getD (6+i) 0) (L_lt h _);have hU:=ST.union90 (a:=pAll p i) (b:=p.L.getD (6+i) 0) QoP;have hg:=I (k:=9+i*27) (by omega);have M:=graph91 (SD.part 5 (p.L.getD (6+i) 0)) (p.L.getD (9+i*27) 0) (p.L.getD (9+i*27+1) 0) ((p.L.drop (9+i*27+2)).take 25) (QdH _ _) partLt (L_lt h _) (L_lt h _) (by rw[Zav,Za3,h.L];omega) (fun x hx=>h.L8 x (List.mem_of_mem_drop (ZaQ hx)));have hA:mkA (SD.part 5 (p.L.getD (6+i) 0)) (p.L.getD (9+i*27) 0%3) (p.L.getD (9+i*27+1) 0) ((p.L.drop (9+i*27+2)).take 25)=pA p i:=rfl;rw[hA]at M;have hB:pAll p i|||p.L.getD (6+i) 0%32=pAll p (i+1):=rfl;rw[hB]at hU;have a:=@Qsv p i;have l:=@QdX 99 (pCs p i);have d:=@QjV p i;refine ZcU (Zc3 c f a6 hlen) ?_;refine cp hE ?_;refine ZcT ?_;refine cp hU ?_;have y:=Qf0 (i:=i) (by omega);have m:9+i*27+27<=152:=by omega
   refine ZcU (Zc8 c f hlen y @Qex @QpE @Qsx m hg) ?_;refine cp M ?_;refine ZcU (Zc1 l d) ?_;refine⟨i+1,by omega,by omega,?_⟩;rw[a,Zaq,Zaf,d,Qrj];refine⟨[(50,.blk 50 0),(51,.blk 51 0),(52,.blk 52 0),(75,.blk 75 0),(76,.blk 76 1)],rfl,au0,?_,au17⟩;exact ZcB rfl rfl gg (Zcr b) (ZcB rfl rfl gg (Zcr rfl) (ZcB rfl rfl gg (ZcH (Zcq rfl) (ZcH (Rn.x1 rfl rfl) (Zcr rfl))) (ZcB rfl rfl gg (Zcr (QnS _)) (ZcB rfl rfl gg (Zcr (Qav (Qbu _) Qd8)) ZcA))))
  have e:i=pN p:=by omega
  subst e;have l:=@QdX 99 (pCs p (pN p));have d:=@QjV p (pN p);refine ZcU c ?_;refine⟨(),?_⟩;refine⟨[(50,.blk 50 0),(51,.blk 51 0),(52,.blk 52 0),(75,.blk 75 0)],rfl,au0,?_,au17⟩;refine ZcB rfl rfl gg (Zcr b) (ZcB rfl rfl gg (Zcr rfl) (ZcB rfl rfl gg (ZcH (Zcq rfl) (ZcH (ZcI rfl rfl rfl rfl (QdX _) (Zcr (Qbu _))) (Zcr rfl))) (ZcB rfl rfl gg (ZcH ?_ ZcG) ZcA)));unfold ST.allV;split;·rename_i g;rw[g];exact Rn.nilK
  exact Zcq (Qae _)
 rintro _ _;have v:((p.L.getD 90 0:Nat):Int).tmod 3=(pM p:Int):=by rw[Zbt (Zbp _)];unfold pM;norm_cast
 have hm2:=@pM_le p;refine ZcU (Zc1 a90 v) ?_;refine Qaq 100 (fun i:Nat=>[(1,.ptr 50 0 0),(2,.ptr 51 0 0),(3,.ptr 52 0 0),(4,.ptr 75 0 0),(5,.int .i64 (pN p:Int)),(59,.int .i64 (pM p:Int)),(60,.int .i64 i)]) (fun i=>[(50,.cells 0 C),(51,.cells 0 [.nilsl,.nilsl,.nilsl,.nilsl,.nilsl]),(52,.cells 0 [evsV (fun i=>evOf ((p.L.take 5).getD i 0)),its 99 (pCs p (pN p)),.sl 77 0 0 (pRs p i).length 5,.nilsl,.nilsl]),(75,.cells 0 [sliN (ST.bitsL (pAll p (pN p)))]),(77,.cells 0 ((pRs p i).flatMap (itC 114)))]) (fun i=>i<=pM p) (fun i=>pM p-i) 0 2 200 (fun _:Unit=>[(1,.ptr 50 0 0),(2,.ptr 51 0 0),(3,.ptr 52 0 0),(5,.int .i64 (pN p:Int))]) (fun _=>[(50,.cells 0 C),(51,.cells 0 [.nilsl,.nilsl,.nilsl,.nilsl,.nilsl]),(52,.cells 0 [evsV (fun i=>evOf ((p.L.take 5).getD i 0)),its 99 (pCs p (pN p)),its 114 (pRs p (pM p)),.nilsl,.nilsl])]) (fun _=>True) ?_ (Zah _) ?_ ?_;·refine⟨[(50,.blk 50 0),(51,.blk 51 0),(52,.blk 52 0),(75,.blk 75 0),(77,.nil)],rfl,au0,?_,au17⟩;exact ZcB rfl rfl gg (Zcr b) (ZcB rfl rfl gg (Zcr rfl) (ZcB rfl rfl gg (ZcH (Zcq rfl) (ZcH (Zcq (QaC _)) (ZcH (Rn.x4 rfl rfl) (Zcr rfl)))) (ZcB rfl rfl gg (ZcH (Zcq (Qae _)) ZcG) (ZcC rfl rfl ZcA))))
 ·rintro i hi;by_cases c:i<pM p
  ·have f:(i:Int)<2:=by omega
   have a6:=o (k:=91+i) (by omega);have hE:=events89 (p.L.getD (91+i) 0) (L_lt h _);have hg:=I (k:=93+i*27) (by omega);have M:=graph91 (pW p i) (p.L.getD (93+i*27) 0) (p.L.getD (93+i*27+1) 0) ((p.L.drop (93+i*27+2)).take 25) (Qk9 _) (pW_lt _) (L_lt h _) (L_lt h _) (by rw[Zav,Za3,h.L];omega) (fun x hx=>h.L8 x (List.mem_of_mem_drop (ZaQ hx)));have hA:mkA (pW p i) (p.L.getD (93+i*27) 0%3) (p.L.getD (93+i*27+1) 0) ((p.L.drop (93+i*27+2)).take 25)=pR p i:=rfl;rw[hA]at M;have a:=@Qsw p i;have l:=@QdX 114 (pRs p i);have d:=@QoO p i;have y:=Qf0 (i:=i) (by omega);have m:93+i*27+27<=152:=by omega
   have hW:fltN (ST.bitsL (pAll p (pN p))) (SD.part 5 (p.L.getD (91+i) 0))=pW p i:=QtC;have Z:(ST.bitsL (pAll p (pN p))).length<=1000000:=Zaw (Qdv (i:=5)) (by decide);have P:(SD.part 5 (p.L.getD (91+i) 0)).length<=1000000:=Zaw (Qdv (i:=5)) (by decide);generalize ST.bitsL (pAll p (pN p))=A at*;refine ZcU (Zc3 c f a6 hlen) ?_;refine ch (HSpec.of_O (b:=98) (by(try simp only[noRefs,Qad,QaH,noRef,noRefs,Qae,QaO,Zad,Zac])<;>rfl) hE (by repeat(first|exact Fresh.e|exact Fresh.le (by assumption) (by omega)|refine Fresh.set ?_ (by omega) (by omega))) rfl) ?_;refine ZcT ?_;refine chc (del40F Z P gg gg) ?_;rw[hW];refine ZcU (Zc5 c f hlen y m hg) ?_;refine cp M ?_;refine ZcU (Zc1 l d) ?_;refine⟨i+1,by omega,by omega,?_⟩;rw[a,Zaq,Zaf,d,Qrj];refine⟨[(50,.blk 50 0),(51,.blk 51 0),(52,.blk 52 0),(75,.blk 75 0),(77,.blk 77 1)],rfl,au0,?_,au17⟩;exact ZcB rfl rfl gg (Zcr b) (ZcB rfl rfl gg (Zcr rfl) (ZcB rfl rfl gg (ZcH (Zcq rfl) (ZcH (Zcq (QaC _)) (ZcH (Rn.x1 rfl rfl) (Zcr rfl)))) (ZcB rfl rfl gg (ZcH (Zcq (Qae _)) ZcG) (ZcB rfl rfl gg (Zcr (Qav (Qbu _) Qd8)) ZcA))))
  have e:i=pM p:=by omega
  subst e;have l:=@QdX 114 (pRs p (pM p));have d:=@QoO p (pM p);refine ZcU c ?_;refine⟨(),?_⟩;refine⟨[(50,.blk 50 0),(51,.blk 51 0),(52,.blk 52 0)],rfl,au0,?_,au17⟩;exact ZcB rfl rfl gg (Zcr b) (ZcB rfl rfl gg (Zcr rfl) (ZcB rfl rfl gg (ZcH (Zcq rfl) (ZcH (Zcq (QaC _)) (ZcH (ZcI rfl rfl rfl rfl (QdX _) (Zcr (Qbu _))) (Zcr rfl)))) ZcA))
 rintro _ _;refine ZcU U ?_;refine Qaq 100 (fun i:Nat=>[(1,.ptr 50 0 0),(2,.ptr 51 0 0),(3,.ptr 52 0 0),(5,.int .i64 (pN p:Int)),(89,.fsl (u8s p.X) p.xn 4),(90,.int .i64 (p.xn:Int)),(91,.int .i64 i)]) (fun i=>[(50,.cells 0 C),(51,.cells 0 [.nilsl,.nilsl,.nilsl,.nilsl,.nilsl]),(52,.cells 0 [evsV (fun i=>evOf ((p.L.take 5).getD i 0)),its 99 (pCs p (pN p)),its 114 (pRs p (pM p)),.sl 78 0 0 (pXs p i).length 2,.nilsl]),(78,.cells 0 ((pXs p i).flatMap exC))]) (fun i=>i<=p.xn/\i<=2) (fun i=>p.xn-i) 0 4 200 (fun _:Unit=>[(1,.ptr 50 0 0),(2,.ptr 51 0 0),(3,.ptr 52 0 0),(5,.int .i64 (pN p:Int))]) (fun _=>[(50,.cells 0 C),(51,.cells 0 [.nilsl,.nilsl,.nilsl,.nilsl,.nilsl]),(52,.cells 0 [evsV (fun i=>evOf ((p.L.take 5).getD i 0)),its 99 (pCs p (pN p)),its 114 (pRs p (pM p)),exs (pXs p (min p.xn 2)),.nilsl])]) (fun _=>True) ?_ ⟨Zah _,Zah _⟩ ?_ ?_;·refine⟨[(50,.blk 50 0),(51,.blk 51 0),(52,.blk 52 0),(78,.nil)],rfl,au0,?_,au17⟩;exact ZcB rfl rfl gg (Zcr b) (ZcB rfl rfl gg (Zcr rfl) (ZcB rfl rfl gg (ZcH (Zcq rfl) (ZcH (Zcq (QaC _)) (ZcH (Zcq (QaC _)) (ZcH (Rn.x4 rfl rfl) (Zcr rfl))))) (ZcC rfl rfl ZcA)))
 ·rintro i⟨hi,hi2⟩;have B:=@QeJ (pXs p i);have hxx:=@QjS p i;by_cases c:i<p.xn
  ·have hX:=h.X;have h4:=QtD (X:=p.X) (i:=i) (by omega);have hul:i*4+4<=(u8s p.X).length:=by rw[QcY,hX];omega
   have R:4<=((u8s p.X).drop (i*4)).length:=by rw[Za3];omega
   by_cases h2:i=2
   ·subst h2;have H:(2:Int)<(p.xn:Int):=by omega
    refine ZcU (Zc3 c h4 R H) ?_;refine⟨(),?_⟩;rw[show min p.xn 2=2 by omega];refine⟨[(50,.blk 50 0),(51,.blk 51 0),(52,.blk 52 0)],rfl,au0,?_,au17⟩;exact ZcB rfl rfl gg (Zcr b) (ZcB rfl rfl gg (Zcr rfl) (ZcB rfl rfl gg (ZcH (Zcq rfl) (ZcH (Zcq (QaC _)) (ZcH (Zcq (QaC _)) (ZcH (ZcI rfl rfl rfl rfl (QeJ _) (Zcr (Qbi _))) (Zcr rfl))))) ZcA))
   have X:¬(i:Int)=2:=by omega
   have y:=Qf0 (i:=i) (by omega);refine ZcU (Zc4 c h4 R X y) ?_;obtain⟨Y,w⟩:∃Y,Y=[AV.int .u8 ((p.X.getD (i*4) 0:Nat):Int),.int .u8 ((p.X.getD (i*4+1) 0:Nat):Int),.int .u8 ((p.X.getD (i*4+2) 0:Nat):Int),.int .u8 ((p.X.getD (i*4+3) 0:Nat):Int)]:=⟨_,rfl⟩;have u:noRefs Y=true:=by rw[w];rfl
   have hYk:∀k,k<3->Y[k]?=some (.int .u8 ((p.X.getD (i*4+k) 0:Nat):Int)):=by
    intro k hk;have:k=0\/k=1\/k=2:=by omega
    rcases this with rfl|rfl|rfl<;>rw[w]<;>rfl
   have d:=@QjV p (pN p);have hilC:=@QdX 99 (pCs p (pN p));rw[<-w,d];refine Qaq 220 (fun k:Nat=>[(1,.ptr 50 0 0),(2,.ptr 51 0 0),(3,.ptr 52 0 0),(5,.int .i64 (pN p:Int)),(11,.ptr 60 0 0),(12,.ptr 61 0 0),(89,.fsl (u8s p.X) p.xn 4),(90,.int .i64 (p.xn:Int)),(91,.int .i64 i),(106,.int .i64 (pN p:Int)),(107,.int .i64 k)]) (fun k=>[(50,.cells 0 C),(51,.cells 0 [.nilsl,.nilsl,.nilsl,.nilsl,.nilsl]),(52,.cells 0 [evsV (fun i=>evOf ((p.L.take 5).getD i 0)),its 99 (pCs p (pN p)),its 114 (pRs p (pM p)),.sl 78 0 0 (pXs p i).length 2,.nilsl]),(60,.cells 0 Y),(61,.cells 0 [.str [101,UInt8.ofNat (48+i)],.sl 79 0 0 (pLo p i k).length 2]),(78,.cells 0 ((pXs p i).flatMap exC)),(79,.cells 0 ((pLo p i k).flatMap loC))]) (fun k=>k<=pN p) (fun k=>pN p-k) 0 6 300 (fun _:Unit=>[(1,.ptr 50 0 0),(2,.ptr 51 0 0),(3,.ptr 52 0 0),(5,.int .i64 (pN p:Int)),(12,.ptr 61 0 0),(89,.fsl (u8s p.X) p.xn 4),(90,.int .i64 (p.xn:Int)),(91,.int .i64 i)]) (fun _=>[(50,.cells 0 C),(51,.cells 0 [.nilsl,.nilsl,.nilsl,.nilsl,.nilsl]),(52,.cells 0 [evsV (fun i=>evOf ((p.L.take 5).getD i 0)),its 99 (pCs p (pN p)),its 114 (pRs p (pM p)),.sl 78 0 0 (pXs p i).length 2,.nilsl]),(61,.cells 0 [.str [101,UInt8.ofNat (48+i)],los (pLo p i (pN p))]),(78,.cells 0 ((pXs p i).flatMap exC))]) (fun _=>True) ?_ (Zah _) ?_ ?_;·refine⟨[(50,.blk 50 0),(51,.blk 51 0),(52,.blk 52 0),(60,.blk 104 0),(61,.blk 115 0),(78,.blk 78 0),(79,.nil)],rfl,au0,?_,au17⟩;exact ZcB rfl rfl gg (Zcr b) (ZcB rfl rfl gg (Zcr rfl) (ZcB rfl rfl gg (ZcH (Zcq rfl) (ZcH (Zcq (QaC _)) (ZcH (Zcq (QaC _)) (ZcH (Rn.x1 rfl rfl) (Zcr rfl))))) (ZcB rfl rfl gg (Zcr u) (ZcB rfl rfl gg (ZcH (Zcq rfl) (ZcH (Rn.x4 rfl rfl) ZcG)) (ZcB rfl rfl gg (Zcr (Qbi _)) (ZcC rfl rfl ZcA))))))
   ·rintro k hk;have G:=@Qg2 (pLo p i k);have hlx:=@QjT p i k;by_cases q:k<pN p
    ·have S:(k:Int)<4:=by omega
     have hck:=Qq8 (p:=p) q;have s:=Qcq (ch:=99) hck;have r:5<=(((pCs p (pN p)).flatMap (itC 99)).drop (k*5)).length:=by rw[s];simp
     have hy:=hYk k (by omega);have hx8:=X_lt h (i*4+k);have hn5:(pA p k).n<=3:=(pA_wf k).n3;have N:((p.X.getD (i*4+k) 0:Nat):Int).tmod (((pA p k).n:Int)+2)=((p.X.getD (i*4+k) 0%((pA p k).n+2):Nat):Int):=by rw[Zbt (Zbp _)];norm_cast
     have J:¬((pA p k).n:Int)+2=0:=by omega
     have hxm:p.X.getD (i*4+k) 0%((pA p k).n+2)<=10:=by have:=Zch (p.X.getD (i*4+k) 0) (show 0<(pA p k).n+2 by omega);omega
     have a:pLo p i (k+1)=if p.X.getD (i*4+k) 0%((pA p k).n+2)<(pA p k).n then pLo p i k++[(k,p.X.getD (i*4+k) 0%((pA p k).n+2))]else pLo p i k:=rfl;by_cases V:p.X.getD (i*4+k) 0%((pA p k).n+2)<(pA p k).n;·rw[if_pos V]at a;have z:List.flatMap loC [(k,p.X.getD (i*4+k) 0%((pA p k).n+2))]=[.int .i64 (k:Int),.int .i64 ((p.X.getD (i*4+k) 0%((pA p k).n+2):Nat):Int)]:=rfl;refine ZcU (Zc8 q S s r hy N J V G) ?_;refine⟨k+1,by omega,by omega,?_⟩;rw[a,Zaq,Zaf,z];refine⟨[(50,.blk 50 0),(51,.blk 51 0),(52,.blk 52 0),(60,.blk 60 0),(61,.blk 61 0),(78,.blk 78 0),(79,.blk 79 1)],rfl,au0,?_,au17⟩;exact ZcB rfl rfl gg (Zcr b) (ZcB rfl rfl gg (Zcr rfl) (ZcB rfl rfl gg (ZcH (Zcq rfl) (ZcH (Zcq (QaC _)) (ZcH (Zcq (QaC _)) (ZcH (Rn.x1 rfl rfl) (Zcr rfl))))) (ZcB rfl rfl gg (Zcr u) (ZcB rfl rfl gg (ZcH (Zcq rfl) (ZcH (Rn.x1 rfl rfl) ZcG)) (ZcB rfl rfl gg (Zcr (Qbi _)) (ZcB rfl rfl gg (Zcr (Qav (Qbo _) rfl)) ZcA))))))
     rw[if_neg V]at a;refine ZcU (Zc8 q S s r hy N J V G) ?_;refine⟨k+1,by omega,by omega,?_⟩;rw[a];refine⟨[(50,.blk 50 0),(51,.blk 51 0),(52,.blk 52 0),(60,.blk 60 0),(61,.blk 61 0),(78,.blk 78 0),(79,.blk 79 0)],rfl,au0,?_,au17⟩;exact ZcB rfl rfl gg (Zcr b) (ZcB rfl rfl gg (Zcr rfl) (ZcB rfl rfl gg (ZcH (Zcq rfl) (ZcH (Zcq (QaC _)) (ZcH (Zcq (QaC _)) (ZcH (Rn.x1 rfl rfl) (Zcr rfl))))) (ZcB rfl rfl gg (Zcr u) (ZcB rfl rfl gg (ZcH (Zcq rfl) (ZcH (Rn.x1 rfl rfl) ZcG)) (ZcB rfl rfl gg (Zcr (Qbi _)) (ZcB rfl rfl gg (Zcr (Qbo _)) ZcA))))))
    have e:k=pN p:=by omega
    subst e;refine ZcU q ?_;refine⟨(),?_⟩;refine⟨[(50,.blk 50 0),(51,.blk 51 0),(52,.blk 52 0),(61,.blk 61 0),(78,.blk 78 0)],rfl,au0,?_,au17⟩;exact ZcB rfl rfl gg (Zcr b) (ZcB rfl rfl gg (Zcr rfl) (ZcB rfl rfl gg (ZcH (Zcq rfl) (ZcH (Zcq (QaC _)) (ZcH (Zcq (QaC _)) (ZcH (Rn.x1 rfl rfl) (Zcr rfl))))) (ZcB rfl rfl gg (ZcH (Zcq rfl) (ZcH (ZcI rfl rfl rfl rfl (Qg2 _) (Zcr (Qbo _))) ZcG)) (ZcB rfl rfl gg (Zcr (Qbi _)) ZcA))))
   rintro _ _;have a:pXs p (i+1)=if 0<(pLo p i (pN p)).length then pXs p i++[(i,pLo p i (pN p))]else pXs p i:=rfl;have hlx:=@QjT p i (pN p);by_cases g:0<(pLo p i (pN p)).length;·rw[if_pos g]at a;have K:List.flatMap exC [(i,pLo p i (pN p))]=[.str [101,UInt8.ofNat (48+i)],los (pLo p i (pN p))]:=rfl;refine ZcU (Zc1 g B) ?_;refine⟨i+1,by omega,⟨by omega,by omega⟩,?_⟩;rw[a,Zaq,Zaf,K];refine⟨[(50,.blk 50 0),(51,.blk 51 0),(52,.blk 52 0),(78,.blk 78 1)],rfl,au0,?_,au17⟩;exact ZcB rfl rfl gg (Zcr b) (ZcB rfl rfl gg (Zcr rfl) (ZcB rfl rfl gg (ZcH (Zcq rfl) (ZcH (Zcq (QaC _)) (ZcH (Zcq (QaC _)) (ZcH (Rn.x1 rfl rfl) (Zcr rfl))))) (ZcB rfl rfl gg (Zcr (Qav (Qbi _) (by simp only[noRefs,noRef,Qbo];rfl))) ZcA)))
   rw[if_neg g]at a;refine ZcU (Zc1 g B) ?_;refine⟨i+1,by omega,⟨by omega,by omega⟩,?_⟩;rw[a];refine⟨[(50,.blk 50 0),(51,.blk 51 0),(52,.blk 52 0),(78,.blk 78 0)],rfl,au0,?_,au17⟩;exact ZcB rfl rfl gg (Zcr b) (ZcB rfl rfl gg (Zcr rfl) (ZcB rfl rfl gg (ZcH (Zcq rfl) (ZcH (Zcq (QaC _)) (ZcH (Zcq (QaC _)) (ZcH (Rn.x1 rfl rfl) (Zcr rfl))))) (ZcB rfl rfl gg (Zcr (Qbi _)) ZcA)))
  have e:i=p.xn:=by omega
  subst e;refine ZcU c ?_;refine⟨(),?_⟩;rw[show min p.xn 2=p.xn by omega];refine⟨[(50,.blk 50 0),(51,.blk 51 0),(52,.blk 52 0)],rfl,au0,?_,au17⟩;exact ZcB rfl rfl gg (Zcr b) (ZcB rfl rfl gg (Zcr rfl) (ZcB rfl rfl gg (ZcH (Zcq rfl) (ZcH (Zcq (QaC _)) (ZcH (Zcq (QaC _)) (ZcH (ZcI rfl rfl rfl rfl (QeJ _) (Zcr (Qbi _))) (Zcr rfl))))) ZcA))
 rintro _ _;have hb1:=Int.lt_tmod_of_pos p.bd (show(0:Int)<8 by decide);have hb2:=Int.tmod_lt_of_pos p.bd (show(0:Int)<8 by decide);have hbd:=h.bd;have hf0:=h.f0;have hf1:=h.f1;have hf2:=h.f2;refine ZcU T ?_;refine Qaq 240 (fun i:Nat=>[(1,.ptr 50 0 0),(2,.ptr 51 0 0),(3,.ptr 52 0 0),(15,.ptr 62 0 0),(157,.int .i64 (pN p:Int)),(158,.int .i64 i)]) (fun i=>[(50,.cells 0 C),(51,.cells 0 [.nilsl,.nilsl,.nilsl,.nilsl,.nilsl]),(52,.cells 0 [evsV (fun i=>evOf ((p.L.take 5).getD i 0)),its 99 (pCs p (pN p)),its 114 (pRs p (pM p)),exs (pXs p (min p.xn 2)),.nilsl]),(62,.cells 0 [.str [107],.sl 97 0 0 (pT p i).length 2,.int .i64 (p.bd.tmod 8)]),(97,.cells 0 ((pT p i).flatMap teC))]) (fun i=>i<=pN p) (fun i=>pN p-i) 0 8 300 (fun _:Unit=>[(2,.ptr 51 0 0),(3,.ptr 52 0 0),(15,.ptr 62 0 0)]) (fun _=>[(51,.cells 0 [.nilsl,.nilsl,.nilsl,.nilsl,.nilsl]),(52,.cells 0 [evsV (fun i=>evOf ((p.L.take 5).getD i 0)),its 99 (pCs p (pN p)),its 114 (pRs p (pM p)),exs (pXs p (min p.xn 2)),.nilsl]),(62,.cells 0 [.str [107],.sl 97 0 0 (pT p (pN p)).length 2,.int .i64 (p.bd.tmod 8)]),(97,.cells 0 ((pT p (pN p)).flatMap teC))]) (fun _=>True) ?_ (Zah _) ?_ ?_;·refine⟨[(50,.blk 50 0),(51,.blk 51 0),(52,.blk 52 0),(62,.blk 205 0),(97,.nil)],rfl,au0,?_,au17⟩;exact ZcB rfl rfl gg (Zcr b) (ZcB rfl rfl gg (Zcr rfl) (ZcB rfl rfl gg (ZcH (Zcq rfl) (ZcH (Zcq (QaC _)) (ZcH (Zcq (QaC _)) (ZcH (Zcq (Qbz _)) (Zcr rfl))))) (ZcB rfl rfl gg (ZcH (Zcq rfl) (ZcH (Rn.x4 rfl rfl) (Zcr rfl))) (ZcC rfl rfl ZcA))))
 ·rintro i hi;have htl:=@Qdc (pT p i);have htx:=@QmY p i;by_cases c:i<pN p
  ·have f:(i:Int)<3:=by omega
   have ha:=aF i (by omega);have hFb:-128<=pF p i/\pF p i<128:=pF_lt h i;have a:pT p (i+1)=if pF p i=0 then pT p i else pT p i++[(i,(pF p i).tmod 4)]:=rfl;by_cases g:pF p i=0;·rw[if_pos g]at a;refine ZcU (Zc4 c f hlen ha g) ?_;refine⟨i+1,by omega,by omega,?_⟩;rw[a];refine⟨[(50,.blk 50 0),(51,.blk 51 0),(52,.blk 52 0),(62,.blk 62 0),(97,.blk 97 0)],rfl,au0,?_,au17⟩;exact ZcB rfl rfl gg (Zcr b) (ZcB rfl rfl gg (Zcr rfl) (ZcB rfl rfl gg (ZcH (Zcq rfl) (ZcH (Zcq (QaC _)) (ZcH (Zcq (QaC _)) (ZcH (Zcq (Qbz _)) (Zcr rfl))))) (ZcB rfl rfl gg (ZcH (Zcq rfl) (ZcH (Rn.x1 rfl rfl) (Zcr rfl))) (ZcB rfl rfl gg (Zcr (QaO _)) ZcA))))
   rw[if_neg g]at a;have Q:List.flatMap teC [(i,(pF p i).tmod 4)]=[.int .i64 (i:Int),.int .i64 ((pF p i).tmod 4)]:=rfl;refine ZcU (Zc5 c f hlen ha g htl) ?_;refine⟨i+1,by omega,by omega,?_⟩;rw[a,Zaq,Zaf,Q];refine⟨[(50,.blk 50 0),(51,.blk 51 0),(52,.blk 52 0),(62,.blk 62 0),(97,.blk 97 1)],rfl,au0,?_,au17⟩;exact ZcB rfl rfl gg (Zcr b) (ZcB rfl rfl gg (Zcr rfl) (ZcB rfl rfl gg (ZcH (Zcq rfl) (ZcH (Zcq (QaC _)) (ZcH (Zcq (QaC _)) (ZcH (Zcq (Qbz _)) (Zcr rfl))))) (ZcB rfl rfl gg (ZcH (Zcq rfl) (ZcH (Rn.x1 rfl rfl) (Zcr rfl))) (ZcB rfl rfl gg (Zcr (Qav (QaO _) rfl)) ZcA))))
  have e:i=pN p:=by omega
  subst e;refine ZcU c ?_;refine⟨(),?_⟩;refine⟨[(51,.blk 51 0),(52,.blk 52 0),(62,.blk 62 0),(97,.blk 97 0)],rfl,au0,?_,au17⟩;exact ZcB rfl rfl gg (Zcr rfl) (ZcB rfl rfl gg (ZcH (Zcq rfl) (ZcH (Zcq (QaC _)) (ZcH (Zcq (QaC _)) (ZcH (Zcq (Qbz _)) (Zcr rfl))))) (ZcB rfl rfl gg (ZcH (Zcq rfl) (ZcH (Rn.x1 rfl rfl) (Zcr rfl))) (ZcB rfl rfl gg (Zcr (QaO _)) ZcA)))
 rintro _ _;have hT0:flt0 (pT p (pN p))=pT0 p:=rfl;have hpt:=@QmY p (pN p);refine ZcT ?_;refine chc (del93F (l:=pT p (pN p)) (by omega) gg) ?_;rw[hT0];have htl0:(pT0 p).length<=3:=Zaw (ZaI _ _) (by omega);by_cases g:0<(pT0 p).length;·have t:pKs p=[(pT0 p,p.bd.tmod 8)]:=if_pos g;refine ZcU g ?_;refine⟨.inr trivial,_,rfl,?_⟩;refine Rn.agg (ZcH (Zcq rfl) (ZcH (Zcq (QaC _)) (ZcH (Zcq (QaC _)) (ZcH (Zcq (Qbz _)) (ZcH ?_ ZcG)))));show Rn 0 π0 _ (cos (pKs p)) _;rw[t];exact Rn.fz0 (b:=310) rfl rfl (ZcH (Zcq rfl) (ZcH (Zcq (QcC _)) (ZcH (Zcq rfl) ZcG)))
 have t:pKs p=[]:=if_neg g;refine ZcU g ?_;refine⟨.inr trivial,_,rfl,?_⟩;refine Rn.agg (ZcH (Zcq rfl) (ZcH (Zcq (QaC _)) (ZcH (Zcq (QaC _)) (ZcH (Zcq (Qbz _)) (ZcH ?_ ZcG)))));show Rn 0 π0 _ (cos (pKs p)) _;rw[t];exact Rn.nilK
end Go.AM.SU
namespace Go.AM.SN
open Go.Proofs Go.AM.SD Go.AM.SE Go.AM.SO
noncomputable section
def is0:AV->Bool|.int .i64 n=>decide (n=0)|_=>false
theorem Qu3:∀u,is0 u=true->u=.int .i64 0:=by intro u h;unfold is0 at h;grind
def nameR(s:List UInt8)(f:Nat)(X K:AV)(i:Int):Bool:=callR ansB noOrc SK.ft.get (exR ansB noOrc SK.ft.get 1000) (.c .pure) 135 [.str s,.fn f [] [.fptr [.any,X,K],.fptr [.int .i64 i]]] .e 64 (fun u _ _=>is0 u)
theorem Qsy{s:List UInt8}{f:Nat}{X K:AV}{i:Int}(h:nameR s f X K i=true):Pq 135 [.str s,.fn f [] [.fptr [.any,X,K],.fptr [.int .i64 i]]] (.int .i64 0):=Qcj (t:=SK.ft) SK.ft_ok QeF (d:=1000) is0 Qu3 h
theorem e0_1:nameR [101,48] 134 (.fsl [.str [101,48],.any] 1 2) .any 0=true:=by kernel_rfl
theorem e1_1:nameR [101,49] 134 (.fsl [.str [101,49],.any] 1 2) .any 0=true:=by kernel_rfl
theorem e0_2:nameR [101,48] 134 (.fsl [.str [101,48],.any,.str [101,49],.any] 2 2) .any 0=true:=by kernel_rfl
theorem e1_2a:nameR [101,49] 134 (.fsl [.str [101,48],.fsl [.any,.any] 1 2,.str [101,49],.any] 2 2) .any 1=true:=by kernel_rfl
theorem e1_2b:nameR [101,49] 134 (.fsl [.str [101,48],.fsl [.any,.any,.any,.any] 2 2,.str [101,49],.any] 2 2) .any 1=true:=by kernel_rfl
theorem e1_2c:nameR [101,49] 134 (.fsl [.str [101,48],.fsl [.any,.any,.any,.any,.any,.any] 3 2,.str [101,49],.any] 2 2) .any 1=true:=by kernel_rfl
theorem k_1:nameR [107] 137 .any (.fsl [.str [107],.any,.any] 1 3) 0=true:=by kernel_rfl
def Wk(x y:AV):Prop:=∀(ok:Okc)(c:Ctx ok)(w:World)(v:Value),VRel c w x v->VRel c w y v
def WkL:List AV->List AV->Prop|[],[]=>True|x::xs,y::a=>Wk x y/\WkL xs a|_,_=>False
theorem Wk.refl(x:AV):Wk x x:=fun _ _ _ _ h=>h
theorem Wk.any{x:AV}:Wk x .any:=fun _ _ _ _ _=>by simp[VRel]
theorem WkL.rels{ok:Okc}{c:Ctx ok}{w:World}:∀{xs ys:List AV}{vs:List Value},WkL xs ys->VRels c w xs vs->VRels c w ys vs|[],[],_,_,a=>a|[],_::_,_,h,_=>h.elim|_::_,[],_,h,_=>h.elim|x::xs,y::ys,vs,h,a=>by simp only[VRels]at a⊢;obtain⟨v,b,rfl,h1,d⟩:=a;exact⟨v,b,rfl,h.1 _ c w v h1,WkL.rels h.2 d⟩
theorem WkL.pre{ok:Okc}{c:Ctx ok}{w:World}:∀{xs ys:List AV}{vs:List Value},WkL xs ys->VPre c w xs vs->VPre c w ys vs|[],[],_,_,a=>a|[],_::_,_,h,_=>h.elim|_::_,[],_,h,_=>h.elim|x::xs,y::ys,vs,h,a=>by simp only[VPre]at a⊢;obtain⟨v,b,rfl,h1,d⟩:=a;exact⟨v,b,rfl,h.1 _ c w v h1,WkL.pre h.2 d⟩
theorem WkL.length:∀{xs ys:List AV},WkL xs ys->xs.length=ys.length|[],[],_=>rfl|[],_::_,h=>h.elim|_::_,[],h=>h.elim|x::xs,y::ys,h=>by simp[WkL.length h.2]
theorem Wk.fsl{cs ds:List AV}{len sz:Nat}(h:WkL cs ds):Wk (.fsl cs len sz) (.fsl ds len sz):=fun _ c w v b=>by
 simp only[VRel]at b⊢;have m:=h.length;rcases b with⟨h1,rfl,a⟩|⟨k,off,cap,C,e,g,h1,a,l,f,d,i⟩;·grind
 exact .inr ⟨k,off,cap,C,e,g,h1,a,by omega,f,d,h.pre i⟩
theorem Wk.fptr{cs ds:List AV}(h:WkL cs ds):Wk (.fptr cs) (.fptr ds):=fun _ c w v a=>by simp only[VRel]at a⊢;obtain⟨d,off,C,e,b,h1,i,f,g⟩:=a;exact⟨d,off,C,e,b,h1,i,f,h.pre g⟩
theorem Wk.fn{f:Nat}{xs ys us vs:List AV}(h1:WkL xs ys)(g:WkL us vs):Wk (.fn f xs us) (.fn f ys vs):=fun _ c w v a=>by simp only[VRel]at a⊢;obtain⟨d,b,rfl,g1,g2⟩:=a;exact⟨d,b,rfl,h1.rels g1,g.rels g2⟩
theorem PSpec.wk{f:Nat}{args bs:List AV}{v:AV}(a:WkL args bs)(b:noRefs args=true)(hp:Pq f bs v):Pq f args v:=SE.PSpec.weak (fun _ c w d _ h=>a.rels h) b hp
theorem nameW{s:List UInt8}{f:Nat}{S X K X' K':AV}{i:Int}(h:nameR s f X' K' i=true)(b:Wk X X')(a:Wk K K')(c:noRefs [S,X,K]=true):Pq 135 [.str s,.fn f [] [.fptr [S,X,K],.fptr [.int .i64 i]]] (.int .i64 0):=by refine PSpec.wk (bs:=[.str s,.fn f [] [.fptr [.any,X',K'],.fptr [.int .i64 i]]]) ⟨Wk.refl _,Wk.fn trivial ⟨Wk.fptr ⟨Wk.any,b,a,trivial⟩,Wk.refl _,trivial⟩,trivial⟩ ?_ (Qsy h);simp_all[noRefs,noRef]
theorem nameX{S K:AV}{xs:List (Nat×List (Nat×Nat))}{i:Nat}{x:Nat×List (Nat×Nat)}(c:xs[i]?=some x)(m:xs.length<=2)(t:(xs.map (·.1)).Pairwise (·<·))(k:∀x∈xs,x.1<2)(g:∀x∈xs,x.2≠[]/\x.2.length<=3)(d:noRefs [S,exs xs,K]=true):Pq 135 [.str [101,UInt8.ofNat (48+x.1)],.fn 134 [] [.fptr [S,exs xs,K],.fptr [.int .i64 (i:Int)]]] (.int .i64 0):=by match xs,m with
 |[],_=>simp at c|[(a,f)],_=>
  have hi:i=0:=by grind
  subst hi;simp at c;subst c;have l:=k (a,f) (by simp);have:a=0\/a=1:=by omega
  rcases this with rfl|rfl;·exact nameW e0_1 (Wk.fsl ⟨Wk.refl _,Wk.any,trivial⟩) Wk.any d
  ·exact nameW e1_1 (Wk.fsl ⟨Wk.refl _,Wk.any,trivial⟩) Wk.any d|[(a,f),(b,s)],_=>
  have l:=k (a,f) (by simp);have v:=k (b,s) (by simp);have o:a<b:=by simpa using t
  dsimp only at l v;obtain rfl:a=0:=by omega
  obtain rfl:b=1:=by omega
  have hi:i=0\/i=1:=by grind
  rcases hi with rfl|rfl;·simp at c;subst c;exact nameW e0_2 (Wk.fsl ⟨Wk.refl _,Wk.any,Wk.refl _,Wk.any,trivial⟩) Wk.any d
  ·simp at c;subst c;obtain⟨w,u⟩:=g (0,f) (by simp);match f,w,u with|[],h,_=>exact absurd rfl h|[p],_,_=>exact nameW e1_2a (Wk.fsl ⟨Wk.refl _,Wk.fsl ⟨Wk.any,Wk.any,trivial⟩,Wk.refl _,Wk.any,trivial⟩) Wk.any d|[p,q],_,_=>exact nameW e1_2b (Wk.fsl ⟨Wk.refl _,Wk.fsl ⟨Wk.any,Wk.any,Wk.any,Wk.any,trivial⟩,Wk.refl _,Wk.any,trivial⟩) Wk.any d|[p,q,r],_,_=>exact nameW e1_2c (Wk.fsl ⟨Wk.refl _,Wk.fsl ⟨Wk.any,Wk.any,Wk.any,Wk.any,Wk.any,Wk.any,trivial⟩,Wk.refl _,Wk.any,trivial⟩) Wk.any d
theorem nameK{S X:AV}{ks:List (List (Nat×Int)×Int)}{x:List (Nat×Int)×Int}(b:ks=[x])(a:noRefs [S,X,cos ks]=true):Pq 135 [.str [107],.fn 137 [] [.fptr [S,X,cos ks],.fptr [.int .i64 0]]] (.int .i64 0):=by subst b;exact nameW k_1 Wk.any (Wk.fsl ⟨Wk.refl _,Wk.any,Wk.any,trivial⟩) a
end
end Go.AM.SN
namespace Go.AM.SO
open Go.Proofs Go.AM.SD Go.AM.SE
theorem great190(n:Int)(h1:-65536<=n)(a:n<=65536):Pq 216 [.int .i64 n] (.bool false):=by
 refine Zcu 64 ok216 rfl rfl rfl ?_;have g1:¬n< -65536:=by omega
 have g2:¬65536<n:=by omega
 unfold s216;refine ZcS (Zc1 g1 g2) ?_;exact⟨.inr trivial,_,rfl,rfl⟩
abbrev cdC(S:List Nat)(xs:List (Nat×List (Nat×Nat)))(ks:List (List (Nat×Int)×Int)):List AV:=[sliN S,exs xs,cos ks]
abbrev cdV(S:List Nat)(xs:List (Nat×List (Nat×Nat)))(ks:List (List (Nat×Int)×Int)):AV:=.agg (cdC S xs ks)
theorem QbU{S:List Nat}{xs:List (Nat×List (Nat×Nat))}{ks:List (List (Nat×Int)×Int)}:noRefs (cdC S xs ks)=true:=by rw[cdC,noRefs,noRefs,noRefs,Qae,SU.Qbz,SU.Qlc];rfl
theorem QjW{l:List (Nat×Nat)}{i:Nat}{x:Nat×Nat}(h:l[i]?=some x):(l.flatMap loC).drop (i*2)=.int .i64 (x.1:Int)::.int .i64 (x.2:Int)::(l.drop (i+1)).flatMap loC:=Qa7 (f:=loC) (k:=2) (fun _=>rfl) h
theorem pw_at{l:List Nat}(h:l.Pairwise (·<·)){i:Nat}{x y:Nat}(b:l[i]?=some x)(a:l[i+1]?=some y):x<y:=by
 have hi:i+1<l.length:=by
  rcases ZbE (i+1) l.length with h|h;·exact h
  rw[ZaD h]at a;cases a
 rw[Zal (by omega)]at b;rw[Zal hi]at a;cases b;cases a;exact Zbe.1 h i (i+1) (by omega) hi (Nat.lt_succ_self _)
theorem _root_.Go.AM.au18{p:Prop}(h:p:=by repeat(first|exact Zcy|(refine Zcz ?_ ?_;·(first|exact Rn.any|exact Rn.x1 rfl rfl|exact Rn.x2 rfl rfl|exact Rn.x3 rfl rfl|exact Rn.x4 rfl rfl|exact Rn.x5 rfl|exact Rn.x6 rfl|exact Rn.x7 rfl|(refine Rn.slot ?_ ?_;(first|rfl|(rw[ZaS];rfl));(first|rfl|(simp only[noRef,noRefs,Qag,Zad,Zac,Zai,Qad,Qan,Qae,SU.Qbo,SU.QaO,SU.Qbu,SU.Qbi,SU.QcZ];done)))|(refine Rn.fn ?_ ?_<;>(repeat'(first|exact ZcG|refine ZcH ?_ ?_|exact Zcq rfl|exact Rn.x6 rfl|exact Rn.x2 rfl rfl|exact Rn.x5 rfl|exact Rn.x1 rfl rfl))))))):p:=h
theorem excl103(S:List Nat)(xs:List (Nat×List (Nat×Nat)))(ks:List (List (Nat×Int)×Int))(x:Nat×List (Nat×Nat))(hS:S.length<=8)(A:∀s∈S,s<=4096)(T:x.2.length<=1000)(r:x.2≠[])(hp:(x.2.map (·.1)).Pairwise (·<·))(I:∀l∈x.2,∃n,S[l.1]?=some n/\l.2<n):Pq 136 [cdV S xs ks,.agg (exC x)] (.int .i64 0):=by
 obtain⟨t,l⟩:=x;dsimp only at T r hp I;have hex:exC (t,l)=[.str [101,UInt8.ofNat (48+t)],los l]:=rfl;rw[hex];have a:=@QbU S xs ks;have b:noRefs [.str [101,UInt8.ofNat (48+t)],los l]=true:=by rw[noRefs,noRefs,SU.Qcb];rfl
 refine Zcu 64 ok136 rfl (by rw[noRefs,noRefs,noRef,noRef,a,b];rfl) rfl ?_;have u:¬(l.length:Int)=0:=by have:=List.length_pos_iff.2 r;omega
 have L:=SU.Qg2 l;unfold s136;refine ZcS u ?_;refine QaL 100 (fun i:Nat=>[(2,.ptr 50 0 0),(3,.ptr 51 0 0),(12,los l),(13,.int .i64 l.length),(14,.int .i64 i)]) (fun _=>[(50,.cells 0 (cdC S xs ks)),(51,.cells 0 [.str [101,UInt8.ofNat (48+t)],los l])]) (fun i=>i<=l.length) (fun i=>l.length-i) 0 ⟨[(50,.blk 64 0),(51,.blk 65 0)],rfl,au0,?_,au18⟩ (Zah _) ?_;·exact ZcB rfl rfl gg (Zcr a) (ZcB rfl rfl gg (Zcr b) ZcA)
 rintro i hi;by_cases d:i<l.length
 ·obtain⟨⟨c,s⟩,g⟩:=Qap d;obtain⟨n,m,B⟩:=I _ (Zae g);dsimp only at m B;have o:c<S.length:=by
   rcases ZbE c S.length with h|h;·exact h
   rw[ZaD h]at m;cases m
  have N:=A n (Zae m);have k:=QjW g;have p:2<=((l.flatMap loC).drop (i*2)).length:=by rw[k];simp
  have h1:¬(c:Int)<0:=by omega
  have G:¬(S.length:Int)<=(c:Int):=by omega
  have H:¬(s:Int)<0:=by omega
  have E:¬(n:Int)<=(s:Int):=by omega
  cases i with|zero=>
   have w:¬(0:Int)<((0:Nat):Int):=by omega
   refine ZcS (Zc9 d k p w h1 G H E (Qaz m) o) ?_;refine⟨1,by omega,by omega,?_⟩;refine⟨[(50,.blk 50 0),(51,.blk 51 0)],rfl,au0,?_,au18⟩;exact ZcB rfl rfl gg (Zcr a) (ZcB rfl rfl gg (Zcr b) ZcA)|succ j=>
   obtain⟨⟨C,U⟩,f⟩:=Qap (l:=l) (i:=j) (by omega);have q:=QjW f;have R:C<c:=pw_at hp (i:=j) (by rw[ZaB,f];rfl) (by rw[ZaB,g];rfl);have w:(0:Int)<((j+1:Nat):Int):=by omega
   have P:¬(c:Int)<=(C:Int):=by omega
   have K:((j+1:Nat):Int)-1=(j:Int):=by omega
   have Q:j<l.length:=by omega
   have hle:((j+1:Nat):Int)<(l.length:Int):=by omega
   have v:((j+1:Nat):Int).toNat=j+1:=by omega
   have y:0<=((j+1:Nat):Int):=by omega
   generalize M:((j+1:Nat):Int)=J at*;simp(disch:=first|omega|(simp only[lenW]<;>omega))only[d,hle,v,y,k,q,p,w,h1,G,H,E,P,K,Q,Qaz m,o,wV,simprocAttr];refine⟨j+2,by omega,by omega,?_⟩;have z:J+1=((j+2:Nat):Int):=by omega
   rw[z];refine⟨[(50,.blk 50 0),(51,.blk 51 0)],rfl,au0,?_,au18⟩;exact ZcB rfl rfl gg (Zcr a) (ZcB rfl rfl gg (Zcr b) ZcA)
 refine ZcS d ?_;exact⟨.inr trivial,_,rfl,rfl⟩
theorem cons105(S:List Nat)(xs:List (Nat×List (Nat×Nat)))(ks:List (List (Nat×Int)×Int))(x:List (Nat×Int)×Int)(hS:S.length<=8)(R:x.1.length<=1000)(m:x.1≠[])(hp:(x.1.map (·.1)).Pairwise (·<·))(G:∀l∈x.1,l.1<S.length/\l.2≠0/\-65536<=l.2/\l.2<=65536)(E:-65536<=x.2/\x.2<=65536):Pq 138 [cdV S xs ks,.agg (coC x)] (.int .i64 0):=by
 obtain⟨l,p⟩:=x;dsimp only at R m hp G E;have hex:coC (l,p)=[.str [107],tes l,.int .i64 p]:=rfl;rw[hex];have a:=@QbU S xs ks;have b:noRefs [.str [107],tes l,.int .i64 p]=true:=by rw[noRefs,noRefs,SU.QcC];rfl
 refine Zcu 64 ok138 rfl (by rw[noRefs,noRefs,noRef,noRef,a,b];rfl) rfl ?_;have A:¬(l.length:Int)=0:=by have:=List.length_pos_iff.2 m;omega
 have M:=SU.Qdc l;have v:=great190 p E.1 E.2;unfold s138;refine ZcS A ?_;refine QaL 100 (fun i:Nat=>[(2,.ptr 50 0 0),(3,.ptr 51 0 0),(12,tes l),(13,.int .i64 l.length),(14,.int .i64 i)]) (fun _=>[(50,.cells 0 (cdC S xs ks)),(51,.cells 0 [.str [107],tes l,.int .i64 p])]) (fun i=>i<=l.length) (fun i=>l.length-i) 0 ⟨[(50,.blk 64 0),(51,.blk 65 0)],rfl,au0,?_,au18⟩ (Zah _) ?_;·exact ZcB rfl rfl gg (Zcr a) (ZcB rfl rfl gg (Zcr b) ZcA)
 rintro i hi;by_cases d:i<l.length
 ·obtain⟨⟨c,s⟩,h⟩:=Qap d;obtain⟨B,g,t,q⟩:=G _ (Zae h);dsimp only at B g t q;have k:=SU.Qdy h;have r:2<=((l.flatMap teC).drop (i*2)).length:=by rw[k];simp
  have h1:¬(c:Int)<0:=by omega
  have I:¬(S.length:Int)<=(c:Int):=by omega
  have u:=great190 s t q;cases i with|zero=>
   have w:¬(0:Int)<((0:Nat):Int):=by omega
   refine ZcS (Zc6 d k r w h1 I g) ?_;refine cp u ?_;refine ZcR ?_;refine⟨1,by omega,by omega,?_⟩;refine⟨[(50,.blk 50 0),(51,.blk 51 0)],rfl,au0,?_,au18⟩;exact ZcB rfl rfl gg (Zcr a) (ZcB rfl rfl gg (Zcr b) ZcA)|succ j=>
   obtain⟨⟨H,T⟩,f⟩:=Qap (l:=l) (i:=j) (by omega);have o:=SU.Qdy f;have L:H<c:=pw_at hp (i:=j) (by rw[ZaB,f];rfl) (by rw[ZaB,h];rfl);have w:(0:Int)<((j+1:Nat):Int):=by omega
   have K:¬(c:Int)<=(H:Int):=by omega
   have N:((j+1:Nat):Int)-1=(j:Int):=by omega
   have P:j<l.length:=by omega
   have hle:((j+1:Nat):Int)<(l.length:Int):=by omega
   have C:((j+1:Nat):Int).toNat=j+1:=by omega
   have y:0<=((j+1:Nat):Int):=by omega
   generalize Q:((j+1:Nat):Int)=J at*;refine ZcS (Zdd d hle C y k o r w h1 I g K N P) ?_;refine cp u ?_;refine ZcR ?_;refine⟨j+2,by omega,by omega,?_⟩;have z:J+1=((j+2:Nat):Int):=by omega
   rw[z];refine⟨[(50,.blk 50 0),(51,.blk 51 0)],rfl,au0,?_,au18⟩;exact ZcB rfl rfl gg (Zcr a) (ZcB rfl rfl gg (Zcr b) ZcA)
 refine ZcS d ?_;refine cp v ?_;refine ZcR ?_;exact⟨.inr trivial,_,rfl,rfl⟩
end Go.AM.SO
namespace Go.AM.SQ
open Go.Proofs
set_option maxHeartbeats 4000000
noncomputable section
def cf:YA.Cf:={most:=.pure,always:=[135].map fun k=>(k,.heap)}
def s76:SFn:=by
 refine(?f:YA.Yt Tryz.prog cf 76 [[0,2],[15,16,17],[1,18],[2,18,19],[],[23,24,25],[4,26,27,28],[1,20,21,22,30,29,41,40,39,38,31],[2,31,32],[20,21,22,30,29,41,40,39,38,33,34,35,36,37],[1,42],[2,42,43],[],[47,48,49,50],[5,51],[7,52,53,54,55],[56],[1,44,45,46,6,8,57,58],[2,6,8,57,59,60,61],[62],[1,44,45,46,9,63,64],[2,9,63,65],[44,45,46,66],[],[70,71,72,73],[10,74],[12,75,76,77,78],[79],[1,67,68,69,11,13,80,81],[2,11,13,80,82,83,84],[85],[1,67,68,69,14,86,87],[2,14,86,88],[1,67,68,69]]) ?s ?h;case h=>exact YA.rr
 exact fun s _=>s
theorem ok76:Kq 76 s76=true:=by kernel_rfl
end
end Go.AM.SQ
