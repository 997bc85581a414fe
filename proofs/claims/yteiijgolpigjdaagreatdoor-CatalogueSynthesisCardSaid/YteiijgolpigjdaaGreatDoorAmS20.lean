/- A part of the proof of CatalogueSynthesisCardSaid: lemmas on the way (AnZqc, AnZi, AnZj, AnZk, AnZl, AnZr). Conditions: none of ours. -/
import Derived.Test.YteiijgolpigjdaaGreatDoorAmS19
set_option linter.unusedSectionVars false
set_option maxHeartbeats 32000000
set_option maxRecDepth 100000
set_option linter.unusedVariables false
set_option linter.unusedSimpArgs false
namespace Go.AM.KN
open Go.Proofs
theorem QsU:runK 3 2=true:=by kernel_rfl
theorem QsV:runC 3 2=true:=by kernel_rfl
theorem QsW:runK 3 3=true:=by kernel_rfl
theorem QsX:runC 3 3=true:=by kernel_rfl
theorem QsY:runK 3 4=true:=by kernel_rfl
theorem QsZ:runC 3 4=true:=by kernel_rfl
theorem Qs0:runK 5 2=true:=by kernel_rfl
theorem Qs1:runC 5 2=true:=by kernel_rfl
theorem Qs2:runK 5 3=true:=by kernel_rfl
theorem Qs3:runC 5 3=true:=by kernel_rfl
theorem Qs4:runK 5 4=true:=by kernel_rfl
theorem Qs5:runC 5 4=true:=by kernel_rfl
theorem Qs6:runK 5 5=true:=by kernel_rfl
theorem Qs7:runC 5 5=true:=by kernel_rfl
theorem Qs8:runK 5 6=true:=by kernel_rfl
theorem Qs9:runC 5 6=true:=by kernel_rfl
end Go.AM.KN
namespace Go.AM.SO
open Go.Proofs Go.AM.SD Go.AM.SE
noncomputable section
def fN{α:Type}(x:Nat)(k:Nat->α):α:=Nat.rec (k 0) (fun n _=>k (n+1)) x
theorem fN_eq{α:Type}(x:Nat)(k:Nat->α):fN x k=k x:=by cases x<;>rfl
def fB{α:Type}(x:Bool)(k:Bool->α):α:=Bool.rec (k false) (k true) x
theorem fB_eq{α:Type}(x:Bool)(k:Bool->α):fB x k=k x:=by cases x<;>rfl
def fL{α β:Type}(f:β->(β->α)->α)(l:List β)(k:List β->α):α:=List.rec (motive:=fun _=>(List β->α)->α) (fun k=>k []) (fun x _ a k=>f x fun x=>a fun l=>k (x::l)) l k
theorem fL_eq{α β:Type}{f:β->(β->α)->α}(hf:∀x k,f x k=k x):∀(l:List β)(k:List β->α),fL f l k=k l|[],k=>rfl|x::l,k=>by show f x (fun x=>fL f l fun l=>k (x::l))=_;rw[hf,fL_eq hf l]
def fE{α:Type}(x:Ed)(k:Ed->α):α:=fN x.1 fun a=>fN x.2.1 fun b=>fN x.2.2 fun c=>k (a,b,c)
theorem fE_eq{α:Type}(x:Ed)(k:Ed->α):fE x k=k x:=by unfold fE;rw[fN_eq,fN_eq,fN_eq]
def fA{α:Type}(x:Aut)(k:Aut->α):α:=fL fN x.al fun a=>fN x.n fun n=>fL fN x.ms fun m=>fL fE x.es fun e=>k ⟨a,n,m,e⟩
theorem fA_eq{α:Type}(x:Aut)(k:Aut->α):fA x k=k x:=by unfold fA;rw[fL_eq fN_eq,fN_eq,fL_eq fN_eq,fL_eq fE_eq]
def fS{α:Type}(x:List (List Nat)×List Ed)(k:List (List Nat)×List Ed->α):α:=fL (fL fN) x.1 fun t=>fL fE x.2 fun e=>k (t,e)
theorem fS_eq{α:Type}(x:List (List Nat)×List Ed)(k:List (List Nat)×List Ed->α):fS x k=k x:=by unfold fS;rw[fL_eq (fL_eq fN_eq),fL_eq fE_eq]
def synF(l:List Aut)(s:List (List Nat)×List Ed):Aut:=⟨evA l,s.1.length,(List.range s.1.length).filter fun i=>mkdT l (s.1.getD i []),s.2⟩
theorem Qnr(l:List Aut):synF l (sync0 l)=syncA l:=rfl
def gysF(c:CelA)(p:Aut)(k:Nat)(r:List Nat):List (Nat×Int):=(evO p k).filterMap (gyE c r)
def grsF(c:CelA)(p:Aut)(P:List (List Nat))(i:Nat)(t:List Nat):Option (Nat×Int×Int×Int):=if(vioG (t.take c.cs.length) c.ks).2.2=true then some (i,(vioG (t.take c.cs.length) c.ks).1,(vioG (t.take c.cs.length) c.ks).2.1,-1)else((gysF c p (ixT P (t.take c.cs.length)) (t.drop c.cs.length)).find? fun y=>!(c.ev.getD y.1 ev0).c).map fun y=>(i,3,y.2,(y.1:Int))
def gforbF(c:CelA)(p:Aut)(P T:List (List Nat))(n:Nat):List (Nat×Int×Int×Int):=(List.range n).flatMap fun i=>(grsF c p P i (T.getD i [])).toList
theorem QpP(c:CelA)(n:Nat):gforbF c (syncA (auN c.cs)) (sync0 (auN c.cs)).1 (sync0 (allN c)).1 n=gforb c n:=rfl
def ansG{α:Type}(c:CelA)(k:Aut->Aut->List Nat->LB->Aut->α):α:=fS (sync0 (auN c.cs)) fun s=>fA (synF (auN c.cs) s) fun p=>fS (sync0 (allN c)) fun t=>fA (synF (allN c) t) fun q=>fL fN (fbs (gforbF c p s.1 t.1 t.1.length)) fun F=>fL fN (uncG c.ev c.ev.length) fun u=>fL fB (fin q.n q.es q.ms F u true).1 fun L=>fA (restr q (lf L)) fun R=>k p q F L R
theorem QrK{α:Type}(c:CelA)(k:Aut->Aut->List Nat->LB->Aut->α):ansG c k=k (syncA (auN c.cs)) (syncA (allN c)) (gfbd c) (fin (syncA (allN c)).n (syncA (allN c)).es (syncA (allN c)).ms (gfbd c) (uncG c.ev c.ev.length) true).1 (resG c).sup:=by unfold ansG;rw[fS_eq,fA_eq,fS_eq,fA_eq,fL_eq fN_eq,fL_eq fN_eq,fL_eq fB_eq,fA_eq,Qnr,Qnr,QpP];rfl
def chkC(c:CelA)(f:Fct):Bool:=ansG c fun p q F L R=>q.n==f.sp&&(F.length==f.fb&&((kept q.n L).length==f.kp&&(R.n==f.su&&f.bn.all fun b=>gen R b.1&&(!gen R (b.1++[b.2])&&gen p (b.1++[b.2])))))
end
end Go.AM.SO
namespace Go.AM.SO
open Go.Proofs Go.AM.SD Go.AM.SE
noncomputable section
def eqb(a:List Nat):List Nat->Bool:=List.rec (motive:=fun _=>List Nat->Bool) (fun b=>List.rec true (fun _ _ _=>false) b) (fun x _ c b=>List.rec false (fun y d _=>Bool.rec false (c d) (Nat.beq x y)) b) a
theorem QiN:∀{a b:List Nat},eqb a b=true↔a=b|[],[]=>⟨fun _=>rfl,fun _=>rfl⟩|[],_::_=>⟨fun h=>(by cases h),fun h=>(by cases h)⟩|_::_,[]=>⟨fun h=>(by cases h),fun h=>(by cases h)⟩|x::a,y::b=>by have e:eqb (x::a) (y::b)=Bool.rec false (eqb a b) (Nat.beq x y):=rfl;rw[e];cases h:Nat.beq x y with|false=>have:=Nat.ne_of_beq_eq_false h;exact⟨fun h=>(by cases h),fun h=>absurd (List.cons.inj h).1 this⟩|true=>have:=Nat.eq_of_beq_eq_true h;subst this;show eqb a b=true↔_;rw[QiN];simp
def posF(n:List Nat)(T:List (List Nat×Nat)):Option Nat:=List.rec none (fun x _ a=>Bool.rec a (some x.2) (eqb x.1 n)) T
theorem Qns{n:List Nat}:∀{T:List (List Nat)}{o j:Nat},posF n (T.zipIdx o)=some j->j=o+T.findIdx (·==n)/\T.findIdx (·==n)<T.length|[],o,j,h=>by cases h|t::T,o,j,h=>by have e:posF n ((t::T).zipIdx o)=Bool.rec (posF n (T.zipIdx (o+1))) (some o) (eqb t n):=rfl;rw[e]at h;cases a:eqb t n with|true=>rw[a]at h;have b:=QiN.1 a;cases h;simp[List.findIdx_cons,b]|false=>
 rw[a]at h;have b:t≠n:=fun h=>by rw[QiN.2 h]at a;cases a
 obtain⟨h1,d⟩:=Qns (T:=T) h;have c:(t==n)=false:=by simpa using b
 rw[List.findIdx_cons,c];simp only[cond_false,List.length_cons];omega
def memF(e:Nat)(l:List Nat):Bool:=List.rec false (fun y _ a=>Bool.rec a true (Nat.beq y e)) l
theorem QhB{e:Nat}:∀{l:List Nat},memF e l=true↔e∈l|[]=>⟨fun h=>(by cases h),fun h=>(by cases h)⟩|y::l=>by have a:memF e (y::l)=Bool.rec (memF e l) true (Nat.beq y e):=rfl;rw[a];cases h:Nat.beq y e with|true=>have:=Nat.eq_of_beq_eq_true h;simp[this]|false=>have:=Nat.ne_of_beq_eq_false h;show memF e l=true↔_;rw[QhB,List.mem_cons];exact⟨.inr,fun h=>h.resolve_left fun h=>this h.symm⟩
def stpF(es:List Ed)(x e:Nat):Option Nat:=List.rec none (fun d _ a=>Bool.rec a (Bool.rec a (some d.2.2) (Nat.beq d.2.1 e)) (Nat.beq d.1 x)) es
theorem Qnt(x y:Nat):(x==y)=Nat.beq x y:=by cases h:Nat.beq x y with|true=>simp[Nat.eq_of_beq_eq_true h]|false=>simp[Nat.ne_of_beq_eq_false h]
theorem Qnu{x e:Nat}:∀{es:List Ed},stpF es x e=stepA es x e
 |[]=>rfl|d::es=>by
  have a:stpF (d::es) x e=Bool.rec (stpF es x e) (Bool.rec (stpF es x e) (some d.2.2) (Nat.beq d.2.1 e)) (Nat.beq d.1 x):=rfl;have b:stepA (d::es) x e=bif(Nat.beq d.1 x&&Nat.beq d.2.1 e)then some d.2.2 else stepA es x e:=by unfold stepA;rw[List.find?_cons,Qnt,Qnt];cases Nat.beq d.1 x&&Nat.beq d.2.1 e<;>rfl
  rw[a,b,Qnu];cases Nat.beq d.1 x<;>cases Nat.beq d.2.1 e<;>rfl
def stepF(e:Nat)(l:List Aut):List Nat->Option (List Nat):=List.rec (motive:=fun _=>List Nat->Option (List Nat)) (fun t=>some t) (fun a _ b t=>List.rec none (fun x t _=>Bool.rec ((b t).map (x::·)) (Option.rec none (fun y=>(b t).map (y::·)) (stpF a.es x e)) (memF e a.al)) t) l
theorem Qn9(e:Nat)(a:Aut)(l:List Aut)(x:Nat)(t:List Nat):stepF e (a::l) (x::t)=Bool.rec ((stepF e l t).map (x::·)) (Option.rec none (fun y=>(stepF e l t).map (y::·)) (stpF a.es x e)) (memF e a.al):=rfl
theorem Qfp{e:Nat}:∀{l:List Aut}{t n:List Nat},t.length=l.length->(stepF e l t=some n↔n.length=t.length/\∀i a,l[i]?=some a->if e∈a.al then stepA a.es (t.getD i 0) e=n[i]? else n[i]?=t[i]?)
 |[],[],n,_=>by
  show some []=some n↔_;constructor;·intro h;cases h;simp
  rintro⟨h,_⟩;rw[List.eq_nil_of_length_eq_zero h]|[],_::_,_,h=>by cases h|_::_,[],_,h=>by cases h|a::l,x::t,n,h=>by
  have k:t.length=l.length:=by simpa using h
  have key:∀y:Nat,((stepF e l t).map (y::·)=some n↔∃m,n=y::m/\m.length=t.length/\∀i a,l[i]?=some a->if e∈a.al then stepA a.es (t.getD i 0) e=m[i]? else m[i]?=t[i]?):=by
   intro y;rw[Option.map_eq_some_iff];constructor;·rintro⟨m,h1,f⟩;exact⟨m,f.symm,(Qfp k).1 h1⟩
   rintro⟨m,h1,f⟩;exact⟨m,(Qfp k).2 f,h1.symm⟩
  have all:∀y:Nat,(if e∈a.al then stepA a.es x e=some y else y=x)->((stepF e l t).map (y::·)=some n↔n.length=(x::t).length/\∀i b,(a::l)[i]?=some b->if e∈b.al then stepA b.es ((x::t).getD i 0) e=n[i]? else n[i]?=(x::t)[i]?):=by
   intro y d;rw[key];constructor
   ·rintro⟨m,rfl,h1,f⟩;refine⟨by simp[h1],fun i b g=>?_⟩
    cases i with|zero=>
     simp only[List.getElem?_cons_zero,Option.some.injEq]at g;subst g;by_cases he:e∈a.al;·rw[if_pos he]at d⊢;simpa using d
     rw[if_neg he]at d⊢;simp[d]|succ i=>simp only[List.getElem?_cons_succ]at g;have:=f i b g;simpa using this
   rintro⟨h1,f⟩;cases n with|nil=>cases h1|cons z m=>
    have c:=f 0 a rfl;refine⟨m,?_,by simpa using h1,fun i b g=>?_⟩
    ·by_cases he:e∈a.al;·rw[if_pos he]at d c;have c:stepA a.es x e=some z:=c;rw[d]at c;cases c;rfl
     rw[if_neg he]at d c;have c:some z=some x:=c;cases c;rw[d]
    have :=f (i+1) b (by simpa using g);simpa using this
  rw[Qn9];by_cases he:e∈a.al;·rw[QhB.2 he];show Option.rec none (fun y=>(stepF e l t).map (y::·)) (stpF a.es x e)=some n↔_;rw[Qnu];cases j:stepA a.es x e with|some y=>exact all y (by rw[if_pos he];exact j)|none=>refine⟨fun h=>(by cases h),fun h=>?_⟩;have c:=h.2 0 a rfl;rw[if_pos he]at c;have c:stepA a.es x e=n[0]?:=c;cases n with|nil=>exact absurd h.1 (by simp)|cons z m=>rw[j]at c;cases c
  have :memF e a.al=false:=by cases hm:memF e a.al with|false=>rfl|true=>exact absurd (QhB.1 hm) he
  rw[this];exact all x (by rw[if_neg he])
theorem QqP{e:Nat}{l:List Aut}{t:List Nat}(h:t.length=l.length):stepF e l t=stepT l t e:=by
 refine Option.ext fun n=>?_;show stepF e l t=some n↔stepT l t e=some n;rw[Qfp h,QdH (Nat.le_of_eq h.symm)];unfold Stp;constructor;·rintro⟨h1,c⟩;refine⟨h1,fun i hi=>?_,fun i a _ b=>c i a b⟩;rw[List.getElem?_eq_none (by omega),List.getElem?_eq_none (by omega)]
 rintro⟨h1,_,c⟩;exact⟨h1,fun i a b=>c i a (List.getElem?_eq_some_iff.1 b).1 b⟩
def rowK(l:List Aut)(TI:List (List Nat×Nat))(i:Nat)(t:List Nat)(ev:List Nat):Nat->List Ed->(Nat->List Ed->Bool)->Bool:=List.rec (motive:=fun _=>Nat->List Ed->(Nat->List Ed->Bool)->Bool) (fun c A k=>k c A) (fun e _ a c A k=>Option.rec (a c A k) (fun n=>fL fN n fun n=>Option.rec false (fun j=>fN j fun j=>Bool.rec (Bool.rec false (fN (c+1) fun c=>a c ((i,e,j)::A) k) (Nat.beq j c)) (a c ((i,e,j)::A) k) (Nat.ble (Nat.succ j) c)) (posF n TI)) (stepF e l t)) ev
theorem QqQ{T:List (List Nat)}{n:List Nat}{c:Nat}(h:T.findIdx (·==n)<c)(b:T.findIdx (·==n)<T.length):(T.take c).findIdx (·==n)=T.findIdx (·==n)/\n∈T.take c:=by
 have hm:(T.take c)[T.findIdx (·==n)]?=some n:=by rw[List.getElem?_take_of_lt h,List.getElem?_eq_getElem b];have:=List.findIdx_getElem (w:=b);simpa using this
 have a:=List.mem_of_getElem? hm;refine⟨?_,a⟩;have:T=T.take c++T.drop c:=(List.take_append_drop c T).symm;conv=>rhs;rw[this]
 rw[List.findIdx_append,if_pos];rw[List.findIdx_lt_length];exact⟨n,a,by simp⟩
theorem idx_new'{T:List (List Nat)}{n:List Nat}(b:T.findIdx (·==n)<T.length):n∉T.take (T.findIdx (·==n))/\T.take (T.findIdx (·==n)+1)=T.take (T.findIdx (·==n))++[n]:=by
 constructor
 ·intro hm;obtain⟨i,hi,he⟩:=List.mem_iff_getElem.1 hm;have a:i<T.findIdx (·==n):=by rw[List.length_take]at hi;omega
  have:=List.not_of_lt_findIdx a;rw[List.getElem_take]at he;simp[he]at this
 rw[List.take_add_one,List.getElem?_eq_getElem b];have:=List.findIdx_getElem (w:=b);simp only[beq_iff_eq]at this;rw[this];rfl
theorem Qgq{l:List Aut}{T:List (List Nat)}{i:Nat}{t:List Nat}(d:t.length=l.length){k:Nat->List Ed->Bool}:∀{ev:List Nat}{c:Nat}{A:List Ed},c<=T.length->rowK l T.zipIdx i t ev c A k=true->∃c' A',k c' A'=true/\c<=c'/\c'<=T.length/\ev.foldl (pEv l i t) (T.take c,A.reverse)=(T.take c',A'.reverse)|[],c,A,hc,h=>⟨c,A,h,Nat.le_refl _,hc,rfl⟩|e::ev,c,A,hc,h=>by rw[List.foldl_cons];have u:rowK l T.zipIdx i t (e::ev) c A k=Option.rec (rowK l T.zipIdx i t ev c A k) (fun n=>fL fN n fun n=>Option.rec false (fun j=>fN j fun j=>Bool.rec (Bool.rec false (fN (c+1) fun c=>rowK l T.zipIdx i t ev c ((i,e,j)::A) k) (Nat.beq j c)) (rowK l T.zipIdx i t ev c ((i,e,j)::A) k) (Nat.ble (Nat.succ j) c)) (posF n T.zipIdx)) (stepF e l t):=rfl;rw[u,QqP d]at h;unfold pEv;cases p:stepT l t e with|none=>rw[p]at h;exact Qgq d hc h|some n=>rw[p]at h;dsimp only at h⊢;rw[fL_eq fN_eq]at h;cases hp:posF n T.zipIdx with|none=>rw[hp]at h;cases h|some j=>rw[hp]at h;dsimp only at h;rw[fN_eq]at h;obtain⟨h1,q⟩:=Qns (o:=0) hp;rw[Nat.zero_add]at h1;cases m:Nat.ble (Nat.succ j) c with|true=>rw[m]at h;dsimp only at h;have o:j<c:=Nat.le_of_ble_eq_true m;obtain⟨a,b⟩:=QqQ (T:=T) (n:=n) (c:=c) (by omega) q;rw[if_pos b,a,<-h1];obtain⟨c',A',g1,g2,g3,g4⟩:=Qgq d hc h;rw[List.reverse_cons]at g4;exact⟨c',A',g1,g2,g3,g4⟩|false=>rw[m]at h;dsimp only at h;cases g:Nat.beq j c with|false=>rw[g]at h;cases h|true=>
 rw[g]at h;dsimp only at h;rw[fN_eq]at h;have o:=Nat.eq_of_beq_eq_true g;have f:c=T.findIdx (·==n):=by omega
 obtain⟨a,b⟩:=idx_new' (T:=T) (n:=n) q;rw[<-f]at a b;have r:(T.take c).findIdx (·==n)=j:=by
  rw[List.findIdx_eq_length_of_false];·rw[List.length_take];omega
  intro x s;have:x≠n:=fun h=>a (h▸s);simpa using this
 rw[if_neg a,r,<-b];obtain⟨c',A',g1,g2,g3,g4⟩:=Qgq d (by omega) h;rw[List.reverse_cons]at g4;exact⟨c',A',g1,by omega,g3,g4⟩
def rowsK(l:List Aut)(TI:List (List Nat×Nat))(ev:List Nat)(R:List (List Nat×Nat)):Nat->List Ed->(Nat->List Ed->Bool)->Bool:=List.rec (motive:=fun _=>Nat->List Ed->(Nat->List Ed->Bool)->Bool) (fun c A k=>k c A) (fun x _ a c A k=>Bool.rec false (rowK l TI x.2 x.1 ev c A fun c A=>a c A k) (Nat.ble (Nat.succ x.2) c)) R
theorem QlW{l:List Aut}{T:List (List Nat)}(m:∀t∈T,t.length=l.length){ev:List Nat}{k:Nat->List Ed->Bool}:∀{R:List (List Nat)}{i c f:Nat}{A:List Ed},T.drop i=R->c<=T.length->i<=T.length->R.length<=f->rowsK l T.zipIdx ev (R.zipIdx i) c A k=true->∃c' A',k c' A'=true/\c'<=T.length/\(c'=T.length->pQ l ev f i (T.take c,A.reverse)=(T,A'.reverse))
 |[],i,c,f,A,a,hc,hi,hf,h=>by refine⟨c,A,h,hc,fun he=>?_⟩;subst he;have:T.length<=i:=List.drop_eq_nil_iff.1 a;rw[List.take_length];cases f with|zero=>rfl|succ f=>unfold pQ;rw[List.getElem?_eq_none this]
 |t::R,i,c,f,A,a,hc,hi,hf,h=>by have o:rowsK l T.zipIdx ev ((t::R).zipIdx i) c A k=Bool.rec false (rowK l T.zipIdx i t ev c A fun c A=>rowsK l T.zipIdx ev (R.zipIdx (i+1)) c A k) (Nat.ble (Nat.succ i) c):=rfl;rw[o]at h;cases b:Nat.ble (Nat.succ i) c with|false=>rw[b]at h;cases h|true=>
  rw[b]at h;dsimp only at h;have d:i<c:=Nat.le_of_ble_eq_true b;have j:T[i]?=some t:=by have:=congrArg (·[0]?) a;simpa[List.getElem?_drop]using this
  have g:T.drop (i+1)=R:=by have:=congrArg List.tail a;simpa[List.tail_drop]using this
  obtain⟨c1,A1,g1,g2,g3,g4⟩:=Qgq (m t (List.mem_of_getElem? j)) hc h;cases f with|zero=>simp at hf|succ f=>obtain⟨c',A',p,q,r⟩:=QlW m g g3 (by omega) (by simpa using hf) g1;refine⟨c',A',p,q,fun he=>?_⟩;have:=r he;unfold pQ;rw[List.getElem?_take_of_lt d,j];dsimp only;unfold pRow;rw[g4];exact this
def synK(l:List Aut)(T:List (List Nat))(k:List Ed->Bool):Bool:=fL fA l fun l=>fL fN (evA l) fun ev=>fL (fun x k=>fL fN x.1 fun t=>fN x.2 fun i=>k (t,i)) T.zipIdx fun TI=>Bool.rec false (Bool.rec false (rowsK l TI ev TI 1 [] fun c A=>Bool.rec false (k A.reverse) (Nat.beq c T.length)) (Nat.ble T.length (box l+1))) (T.all fun t=>Nat.beq t.length l.length&&Nat.ble 1 T.length)
theorem QrL{l:List Aut}{T:List (List Nat)}{k:List Ed->Bool}(b:T[0]?=some (List.replicate l.length 0))(h:synK l T k=true):∃E,sync0 l=(T,E)/\k E=true:=by unfold synK at h;rw[fL_eq fA_eq,fL_eq fN_eq,fL_eq fun x k=>by rw[fL_eq fN_eq,fN_eq]]at h;cases d:(T.all fun t=>Nat.beq t.length l.length&&Nat.ble 1 T.length)with|false=>rw[d]at h;cases h|true=>rw[d]at h;dsimp only at h;cases a:Nat.ble T.length (box l+1)with|false=>rw[a]at h;cases h|true=>
 rw[a]at h;dsimp only at h;have i:∀t∈T,t.length=l.length:=fun t g=>by have:=List.all_eq_true.1 d t g;simp only[Bool.and_eq_true]at this;exact Nat.eq_of_beq_eq_true this.1
 have h1:1<=T.length:=by have:=(List.getElem?_eq_some_iff.1 b).1;omega
 obtain⟨f,A',g1,g2,g3⟩:=QlW (i:=0) (f:=box l+1) i rfl h1 (Nat.zero_le _) (Nat.le_of_ble_eq_true a) h;cases c:Nat.beq f T.length with|false=>rw[c]at g1;cases g1|true=>
  rw[c]at g1;refine⟨A'.reverse,?_,g1⟩;have:=g3 (Nat.eq_of_beq_eq_true c);unfold sync0;rw[<-this];congr 1;have:T.take 1=[List.replicate l.length 0]:=by cases T with|nil=>simp at h1|cons t T=>simp at b;simp[b]
  rw[this];rfl
end
end Go.AM.SO
namespace Go.AM.SO
open Go.Proofs Go.AM.SD Go.AM.SE
structure Knw(c:CelA)(f:Fct):Prop where
 sp:(syncA (allN c)).n=f.sp
 fb:(gfbd c).length=f.fb
 kp:(resG c).kept.length=f.kp
 su:(resG c).sup.n=f.su
 b1:∀b∈f.bn,gen (resG c).sup b.1=true
 b2:∀b∈f.bn,gen (resG c).sup (b.1++[b.2])=false
 b3:∀b∈f.bn,gen (syncA (auN c.cs)) (b.1++[b.2])=true
theorem Qby{c:CelA}{f:Fct}(h:chkC c f=true):Knw c f:=by unfold chkC at h;rw[QrK]at h;simp only[Bool.and_eq_true,beq_iff_eq,List.all_eq_true,Bool.not_eq_true']at h;obtain⟨h1,i,g,j,d⟩:=h;exact⟨h1,i,g,j,fun b a=>(d b a).1,fun b a=>(d b a).2.1,fun b a=>(d b a).2.2⟩
theorem Qoa{l:List Aut}(h:∀a∈l,WfJ a){j:Nat}{t:List Nat}(f:(sync0 l).1[j]?=some t):sOut (syncA l).es (fun _=>true) j=rowE l (evA l) (sync0 l).1 j t:=by
 have i:=Qer (fun a c=>(h a c).pos) (fun a c=>(h a c).wf.esn);have b:j<(sync0 l).1.length:=(List.getElem?_eq_some_iff.1 f).1;unfold sOut;show(sync0 l).2.filter _=_;rw[i.ed,List.filter_flatMap];have g:(sync0 l).1.getD j []=t:=by simp_all
 rw[<-g,<-Qil (R:=fun x=>rowE l (evA l) (sync0 l).1 x ((sync0 l).1.getD x [])) b];refine flatMap_congr' fun x k=>?_;by_cases e:x=j;·rw[if_pos e];refine List.filter_eq_self.2 fun y d=>?_;have:=(QdR d).1;simp[this,e]
 rw[if_neg e];refine List.filter_eq_nil_iff.2 fun y d=>?_;have:=(QdR d).1;simp[this,e]
theorem Qin{l:List Aut}(h:∀a∈l,WfJ a):∀{w:List Nat}{j:Nat}{t:List Nat},(sync0 l).1[j]?=some t->(∀x∈w,x∈evA l)->(runA (syncA l).es j w).isSome=(runT l t w).isSome|[],_,_,_,_=>rfl|x::w,j,t,c,hw=>by have d:j<(sync0 l).1.length:=(List.getElem?_eq_some_iff.1 c).1;have f:=hw x (List.mem_cons_self ..);rw[runA,runT,Qes,Qoa h c,QlU f];cases k:stepT l t x with|none=>rfl|some n=>have i:=(Qer (fun a b=>(h a b).pos) (fun a b=>(h a b).wf.esn)).cl j t d c x f n k;exact Qin h (QiH i) fun y g=>hw y (List.mem_cons_of_mem _ g)
theorem QpQ{l:List Aut}(h:∀a∈l,WfJ a){w:List Nat}(hw:∀x∈w,x∈evA l):gen (syncA l) w=(runT l (List.replicate l.length 0) w).isSome:=by refine Qin h ?_ hw;obtain⟨t,b⟩:=sync_pre (l:=l);rw[<-b];rfl
def vioT(c:CelA)(t:List Nat):Bool:=(vioG (t.take c.cs.length) c.ks).2.2
theorem QpR{c:CelA}(hc:∀y∈c.rs,∀e∈y.2.al,(c.ev.getD e ev0).c=true)(i:Nat):(grsO c i).map (·.1)=if vioT c ((sync0 (allN c)).1.getD i [])then[i]else[]:=by
 have hf:∀k r,((gys c k r).find? fun y=>!(c.ev.getD y.1 ev0).c)=none:=fun k r=>by
  refine List.find?_eq_none.2 fun y f=>?_;obtain⟨e,_,he⟩:=List.mem_filterMap.1 f;unfold gyE at he;split at he;·rename_i b;cases he;have b:decide (0<=idxQ (grQ c r e) (List.range c.rs.length))=true:=decide_eq_true b;rw[Qne,List.any_eq_true]at b;obtain⟨i,_,a⟩:=b;unfold grQ at a;cases d:c.rs[i]? with|none=>rw[d]at a;cases a|some z=>rw[d]at a;simp only[Bool.and_eq_true,List.contains_iff_mem]at a;have g:=hc z (List.mem_of_getElem? d) e a.1;show¬(!(c.ev.getD e ev0).c)=true;rw[g];decide
  cases he
 unfold grsO grs vioT;rw[hf];cases(vioG (((sync0 (allN c)).1.getD i []).take c.cs.length) c.ks).2.2<;>rfl
theorem QqR{c:CelA}(hc:∀y∈c.rs,∀e∈y.2.al,(c.ev.getD e ev0).c=true):gfbd c=(List.range (sync0 (allN c)).1.length).filter fun i=>vioT c ((sync0 (allN c)).1.getD i []):=by show fbs (gforb c _)=_;unfold fbs gforb;rw[List.map_flatMap];generalize(sync0 (allN c)).1.length=n;induction n with|zero=>rfl|succ n a=>rw[List.range_succ,List.flatMap_append,List.filter_append,a];congr 1;rw[List.flatMap_singleton,QpR hc,List.filter_cons];rfl
def tb(m x:Nat):Bool:=Nat.beq 1 (Nat.land 1 (Nat.shiftRight m x))
theorem tb_eq(m x:Nat):tb m x=m.testBit x:=by
 unfold tb Nat.testBit;have h:Nat.land 1 (Nat.shiftRight m x)=(1&&&m>>>x):=rfl;rw[h];have a:1&&&m>>>x<2:=by rw[Nat.one_and_eq_mod_two];omega
 generalize 1&&&m>>>x=y at*;have:y=0\/y=1:=by omega
 rcases this with rfl|rfl<;>rfl
noncomputable section
def put(m x:Nat):Nat:=Nat.lor m (Nat.shiftLeft 1 x)
theorem QpS{m x y:Nat}:tb (put m x) y=(tb m y||decide (x=y)):=by rw[tb_eq,tb_eq];show(m|||1<<<x).testBit y=_;rw[Nat.testBit_or,Nat.one_shiftLeft,Nat.testBit_two_pow]
def rkF(r x:Nat):Nat:=Nat.land (Nat.shiftRight r (Nat.mul 6 x)) 63
def edgK(S U r:Nat)(E:List Ed):Nat->Nat->(Nat->Nat->Bool)->Bool:=List.rec (motive:=fun _=>Nat->Nat->(Nat->Nat->Bool)->Bool) (fun g n k=>k g n) (fun d _ a g n k=>Bool.rec (a g n k) (Bool.rec (Bool.rec (a g n k) false (tb U d.2.1)) (fN (Bool.rec g (put g d.1) (Nat.blt (rkF r d.2.2) (rkF r d.1))) fun g=>fN (Bool.rec n (put n d.2.2) (Nat.blt d.1 d.2.2)) fun n=>a g n k) (tb S d.2.2)) (tb S d.1)) E
theorem QiO{S U r:Nat}{k:Nat->Nat->Bool}:∀{E:List Ed}{g n:Nat},edgK S U r E g n k=true->∃j n',k j n'=true/\(∀x,tb j x=true->tb g x=true\/∃d∈E,d.1=x/\tb S d.2.2=true/\rkF r d.2.2<rkF r d.1)/\(∀x,tb n' x=true->tb n x=true\/∃d∈E,d.2.2=x/\tb S d.1=true/\d.1<x)/\∀d∈E,tb S d.1=true->tb U d.2.1=true->tb S d.2.2=true
 |[],g,n,h=>⟨g,n,h,fun _ h=>.inl h,fun _ h=>.inl h,fun d t=>by cases t⟩|d::E,g,n,h=>by
  have w:edgK S U r (d::E) g n k=Bool.rec (edgK S U r E g n k) (Bool.rec (Bool.rec (edgK S U r E g n k) false (tb U d.2.1)) (fN (Bool.rec g (put g d.1) (Nat.blt (rkF r d.2.2) (rkF r d.1))) fun g=>fN (Bool.rec n (put n d.2.2) (Nat.blt d.1 d.2.2)) fun n=>edgK S U r E g n k) (tb S d.2.2)) (tb S d.1):=rfl;rw[w]at h;have skip:edgK S U r E g n k=true->(tb S d.1=true->tb U d.2.1=true->tb S d.2.2=true)->∃j n',k j n'=true/\(∀x,tb j x=true->tb g x=true\/∃f∈d::E,f.1=x/\tb S f.2.2=true/\rkF r f.2.2<rkF r f.1)/\(∀x,tb n' x=true->tb n x=true\/∃f∈d::E,f.2.2=x/\tb S f.1=true/\f.1<x)/\∀f∈d::E,tb S f.1=true->tb U f.2.1=true->tb S f.2.2=true:=fun h t=>by
   obtain⟨j,n',u,q,p,s⟩:=QiO h;refine⟨j,n',u,fun x m=>(q x m).imp_right fun⟨a,b,c⟩=>⟨a,List.mem_cons_of_mem _ b,c⟩,fun x m=>(p x m).imp_right fun⟨a,b,c⟩=>⟨a,List.mem_cons_of_mem _ b,c⟩,fun f i=>?_⟩;rcases List.mem_cons.1 i with rfl|i;·exact t
   exact s f i
  cases h1:tb S d.1 with|false=>rw[h1]at h;exact skip h fun h=>by rw[h1]at h;cases h|true=>rw[h1]at h;cases o:tb S d.2.2 with
   |false=>rw[o]at h;cases v:tb U d.2.1 with|true=>rw[v]at h;cases h|false=>rw[v]at h;exact skip h fun _ h=>by rw[v]at h;cases h
   |true=>
    rw[o]at h;dsimp only at h;rw[fN_eq,fN_eq]at h;obtain⟨j,n',u,q,p,s⟩:=QiO h;refine⟨j,n',u,fun x m=>?_,fun x m=>?_,fun f i=>?_⟩
    ·rcases q x m with h|⟨a,b,c⟩;·cases l:Nat.blt (rkF r d.2.2) (rkF r d.1)with|false=>rw[l]at h;exact .inl h|true=>
      rw[l]at h;dsimp only at h;rw[QpS,Bool.or_eq_true]at h;rcases h with h|h;·exact .inl h
      exact .inr ⟨d,List.mem_cons_self ..,of_decide_eq_true h,o,Nat.le_of_ble_eq_true l⟩
     exact .inr ⟨a,List.mem_cons_of_mem _ b,c⟩
    ·rcases p x m with h|⟨a,b,c⟩;·cases l:Nat.blt d.1 d.2.2 with|false=>rw[l]at h;exact .inl h|true=>
      rw[l]at h;dsimp only at h;rw[QpS,Bool.or_eq_true]at h;rcases h with h|h;·exact .inl h
      have :=of_decide_eq_true h;exact .inr ⟨d,List.mem_cons_self ..,this,h1,this▸Nat.le_of_ble_eq_true l⟩
     exact .inr ⟨a,List.mem_cons_of_mem _ b,c⟩
    rcases List.mem_cons.1 i with rfl|i;·exact fun _ _=>o
    exact s f i
end
theorem Qgg{α:Type}{p k:α->Bool}:∀{l:List α},l.Pairwise (fun x y=>¬(p x=true/\p y=true))->(l.filter k).find? p=(l.find? p).filter k
 |[],_=>rfl|a::l,h=>by
  obtain⟨h1,g⟩:=List.pairwise_cons.1 h;have b:=Qgg (k:=k) g;cases hp:p a
  ·rw[List.find?_cons_of_neg (by simp[hp]),List.filter_cons];split;·rw[List.find?_cons_of_neg (by simp[hp]),b]
   exact b
  have f:l.find? p=none:=List.find?_eq_none.2 fun x c d=>h1 x c ⟨hp,d⟩;rw[List.find?_cons_of_pos hp,List.filter_cons];split;·rename_i hk;rw[List.find?_cons_of_pos hp];simp[Option.filter,hk]
  rename_i hk;rw[b,f];simp[Option.filter,hk]
theorem Qob(es:List Ed)(left:Nat->Bool)(v:Nat):sOut es left v=(sOut es (fun _=>true) v).filter fun e=>left e.2.2:=by unfold sOut;rw[List.filter_filter];refine List.filter_congr fun x _=>?_;cases left x.2.2<;>simp
theorem QrM{a:Aut}(h:WfA a)(v ev:Nat):(sOut a.es (fun _=>true) v).Pairwise fun x y=>¬(decide (x.2.1=ev)=true/\decide (y.2.1=ev)=true):=by unfold sOut;refine(h.es.filter _).imp_of_mem fun{x y}d c f=>?_;have h1:=(List.mem_filter.1 d).2;have b:=(List.mem_filter.1 c).2;simp at h1 b⊢;omega
theorem QlX{a:Aut}{left:Nat->Bool}(h:WfA a){i v:Nat}(c:(sAll a left).1[i]?=some v)(ev:Nat):stepA (restr a left).es i ev=(stepA a.es v ev).bind fun t=>if left t then some (SD.idx (sAll a left).1 t)else none:=by rw[Qes,Qes,QnT h c,Qob,List.find?_map];have:=Qgg (k:=fun e:Ed=>left e.2.2) (QrM h v ev);have e:(fun x:Ed=>decide (x.2.1=ev))∘num (sAll a left).1 i=fun x:Ed=>decide (x.2.1=ev):=rfl;rw[e,this];cases(sOut a.es (fun _=>true) v).find? fun x=>decide (x.2.1=ev)with|none=>rfl|some x=>
 show((if left x.2.2=true then some x else none).map _).map _=_;cases b:left x.2.2;·simp[b]
 simp[b,num]
def runL(es:List Ed)(S:Nat):Nat->List Nat->Bool|_,[]=>true|s,x::w=>match stepA es s x with|some t=>tb S t&&runL es S t w|none=>false
theorem Qj0{a:Aut}(h:WfA a){left:Nat->Bool}{S:Nat}(hS:∀x,x<a.n->left x=tb S x):∀{w:List Nat}{i v:Nat},(sAll a left).1[i]?=some v->(runA (restr a left).es i w).isSome=runL a.es S v w|[],_,_,_=>rfl|x::w,i,v,g=>by unfold runA runL;rw[QlX h g];cases c:stepA a.es v x with|none=>rfl|some t=>
 obtain⟨e,he,k,l,f⟩:∃e∈a.es,e.1=v/\e.2.1=x/\e.2.2=t:=by unfold stepA at c;cases hf:a.es.find? fun e=>e.1==v&&e.2.1==x with|none=>rw[hf]at c;cases c|some e=>rw[hf]at c;have h1:=List.find?_some hf;simp at h1 c;exact⟨e,List.mem_of_find?_eq_some hf,h1.1,h1.2,c⟩
 have j:t<a.n:=f▸(h.esn e he).2;have d:=hS t j;dsimp only[Option.bind_some];cases b:tb S t with|false=>rw[d,b];rfl|true=>rw[d,b];have hm:=(Qgi (left:=left) h).1.cl i v (List.getElem?_eq_some_iff.1 g).1 g e (Qbk.2 ⟨he,k,by rw[f,d,b]⟩);rw[f]at hm;show(runA (restr a left).es (SD.idx (sAll a left).1 t) w).isSome=_;rw[Qj0 h hS (Qrd hm)];rfl
end Go.AM.SO
namespace Go.AM.SO
open Go.Proofs Go.AM.SD Go.AM.SE
noncomputable def chk2(c:CelA)(f:Fct)(T:List (List Nat))(S U r:Nat):Bool:=(c.rs.all fun y=>y.2.al.all fun e=>(c.ev.getD e ev0).c)&&((List.range c.ev.length).all (fun e=>(c.ev.getD e ev0).c||tb U e)&&synK (allN c) T fun E=>edgK S U r E 0 1 fun g n=>T.zipIdx.all (fun x=>(tb S x.2==!(vioT c x.1))&&(!(tb S x.2)||((tb g x.2||mkdT (allN c) x.1)&&tb n x.2)))&&(T.length==f.sp&&(((List.range f.sp).filter (tb S)).length==f.kp&&(f.fb+f.kp==f.sp&&(f.su==f.kp&&(tb S 0&&f.bn.all fun b=>runL E S 0 b.1&&(!(runL E S 0 (b.1++[b.2]))&&((runT (auN c.cs) (List.replicate (auN c.cs).length 0) (b.1++[b.2])).isSome&&(b.1++[b.2]).all fun x=>(evA (auN c.cs)).contains x))))))))
theorem Qdm{c:CelA}{f:Fct}{T:List (List Nat)}{S U r:Nat}(h:WfG c)(h0:T[0]?=some (List.replicate (allN c).length 0))(hk:chk2 c f T S U r=true):Knw c f:=by
 unfold chk2 at hk;obtain⟨hc1,hk⟩:=Bool.and_eq_true_iff.1 hk;obtain⟨hc2,hk⟩:=Bool.and_eq_true_iff.1 hk;have hc:∀y∈c.rs,∀e∈y.2.al,(c.ev.getD e ev0).c=true:=fun y hy e he=>List.all_eq_true.1 (List.all_eq_true.1 hc1 y hy) e he;obtain⟨E,hs,hk⟩:=QrL h0 hk;obtain⟨g,n,hk,hg,hn,hu⟩:=QiO hk;simp only[Bool.and_eq_true]at hk;obtain⟨ha,F,J,M,I,hk5,hk6⟩:=hk;have F:=eq_of_beq F;have J:=eq_of_beq J;have M:=eq_of_beq M;have I:=eq_of_beq I;have u:=wfAG c h;have V:(sync0 (allN c)).1=T:=by rw[hs]
 have p:(syncA (allN c)).n=T.length:=by show(sync0 (allN c)).1.length=_;rw[V]
 have q:(syncA (allN c)).es=E:=by show(sync0 (allN c)).2=_;rw[hs]
 have t:∀x,x<T.length->tb S x=!(vioT c (T.getD x []))/\(tb S x=true->(tb g x=true\/mkdT (allN c) (T.getD x [])=true)/\tb n x=true):=fun x l=>by
  have hm:(T.getD x [],x)∈T.zipIdx:=by rw[List.mem_zipIdx_iff_getElem?,List.getD_eq_getElem?_getD,List.getElem?_eq_getElem l];rfl
  have G:=List.all_eq_true.1 ha _ hm;simp only[Bool.and_eq_true]at G;refine⟨eq_of_beq G.1,fun s=>?_⟩;have h8:=G.2;rw[s]at h8;simpa using h8
 have Y:=QqR hc;rw[V]at Y;have R:∀x,x<T.length->(x∈gfbd c↔tb S x=false):=fun x l=>by rw[Y,List.mem_filter,List.mem_range];rw[(t x l).1];cases vioT c (T.getD x [])<;>simp[l]
 have X:∀k x,rkF r x<=k->x<T.length->tb S x=true->∃d,Rch E (syncA (allN c)).ms (fun x=>decide (x<T.length)&&tb S x) d x:=by intro k;induction k with|zero=>
  intro x hr l s;rcases((t x l).2 s).1 with h1|h1
  ·rcases hg x h1 with o|⟨d,L,o,C,v⟩;·rw[tb_eq,Nat.zero_testBit]at o;cases o
   subst o;omega
  refine⟨0,by simp[l,s],?_⟩;show x∈(List.range (sync0 (allN c)).1.length).filter fun i=>mkdT (allN c) ((sync0 (allN c)).1.getD i []);rw[V];exact List.mem_filter.2 ⟨List.mem_range.2 l,h1⟩|succ k ih=>
  intro x hr l s;rcases((t x l).2 s).1 with h1|h1
  ·rcases hg x h1 with o|⟨d,L,o,C,v⟩;·rw[tb_eq,Nat.zero_testBit]at o;cases o
   subst o;have A:=(u.esn d (q▸L)).2;rw[p]at A;obtain⟨m,hm⟩:=ih d.2.2 (by omega) A C;exact⟨m+1,.inr ⟨by simp[l,s],d,L,rfl,hm⟩⟩
  refine⟨0,by simp[l,s],?_⟩;show x∈(List.range (sync0 (allN c)).1.length).filter fun i=>mkdT (allN c) ((sync0 (allN c)).1.getD i []);rw[V];exact List.mem_filter.2 ⟨List.mem_range.2 l,h1⟩
 have hR:Rgt (syncA (allN c)).n (syncA (allN c)).es (syncA (allN c)).ms (gfbd c) (uncG c.ev c.ev.length) fun x=>decide (x<T.length)&&tb S x:=by
  refine⟨fun x l=>?_,fun x l hf=>?_,fun e he h1 o=>?_,fun x l=>?_⟩;·simp only[Bool.and_eq_true,decide_eq_true_eq]at l;rw[p];exact l.1
  ·simp only[Bool.and_eq_true,decide_eq_true_eq]at l;have:=(R x l.1).1 hf;rw[l.2]at this;cases this
  ·simp only[Bool.and_eq_true,decide_eq_true_eq]at h1⊢;have A:=(u.esn e he).2;rw[p]at A;refine⟨A,hu e (q▸he) h1.2 ?_⟩;have C:=List.mem_filter.1 o;have v:=List.all_eq_true.1 hc2 _ C.1;have h5:(!(c.ev.getD e.2.1 ev0).c)=true:=C.2;simp only[Bool.or_eq_true]at v;rcases v with v|v;·rw[v]at h5;cases h5
   exact v
  simp only[Bool.and_eq_true,decide_eq_true_eq]at l;rw[q];exact X _ x (Nat.le_refl _) l.1 l.2
 have Z:=Qrc (forb:=gfbd c) (unc:=uncG c.ev c.ev.length) u.inN u.nd u.srt;have hfg:=fun x l=>Qlh (all:=true) u.inN u.nd u.srt hR (x:=x) l;have N:∀x,x<(syncA (allN c)).n->lf (fin (syncA (allN c)).n (syncA (allN c)).es (syncA (allN c)).ms (gfbd c) (uncG c.ev c.ev.length) true).1 x=tb S x:=fun x l=>by
  rw[p]at l;rw[Bool.eq_iff_iff];constructor;·intro A;have:=Z.forb x A;rw[R x l]at this;simpa using this
  intro A;exact hfg x (by simp[l,A])
 have hkp:(resG c).kept=(List.range T.length).filter (tb S):=by
  show(List.range (syncA (allN c)).n).filter (lf (fin (syncA (allN c)).n (syncA (allN c)).es (syncA (allN c)).ms (gfbd c) (uncG c.ev c.ev.length) true).1)=_;have e9:List.range (syncA (allN c)).n=List.range T.length:=by rw[p]
  rw[e9];exact List.filter_congr fun x l=>N x (by rw[p];exact List.mem_range.1 l)
 obtain⟨B,tl,htl⟩:=Qgi (left:=lf (fin (syncA (allN c)).n (syncA (allN c)).es (syncA (allN c)).ms (gfbd c) (uncG c.ev c.ev.length) true).1) u;have O:0<T.length:=(List.getElem?_eq_some_iff.1 h0).1;have hz:(sAll (syncA (allN c)) (lf (fin (syncA (allN c)).n (syncA (allN c)).es (syncA (allN c)).ms (gfbd c) (uncG c.ev c.ev.length) true).1)).1[0]?=some 0:=by rw[htl,N 0 (by rw[p];exact O),hk5,if_pos (by simp[p,O])];rfl
 have hin:∀k x,x<=k->x<T.length->tb S x=true->x∈(sAll (syncA (allN c)) (lf (fin (syncA (allN c)).n (syncA (allN c)).es (syncA (allN c)).ms (gfbd c) (uncG c.ev c.ev.length) true).1)).1:=by
  intro k;induction k with|zero=>
   intro x l _ _;have:x=0:=by omega
   subst this;exact List.mem_of_getElem? hz|succ k ih=>
   intro x l P s;rcases hn x ((t x P).2 s).2 with o|⟨d,L,o,C,v⟩
   ·have :x=0:=by rw[tb_eq]at o;have o:Nat.testBit (2^0) x=true:=o;rw[Nat.testBit_two_pow]at o;exact(of_decide_eq_true o).symm
    subst this;exact List.mem_of_getElem? hz
   have Q:=(u.esn d (q▸L)).1;rw[p]at Q;have hm:=ih d.1 (by omega) Q C;obtain⟨j,hj⟩:=List.getElem?_of_mem hm;have:=B.cl j d.1 (List.getElem?_eq_some_iff.1 hj).1 hj d (Qbk.2 ⟨q▸L,rfl,by rw[o,N x (by rw[p];exact P)];exact s⟩);rwa[o]at this
 have hsu:(resG c).sup.n=((List.range T.length).filter (tb S)).length:=by
  show(sAll (syncA (allN c)) (lf (fin (syncA (allN c)).n (syncA (allN c)).es (syncA (allN c)).ms (gfbd c) (uncG c.ev c.ev.length) true).1)).1.length=_;refine((List.perm_ext_iff_of_nodup B.fi.nd (List.nodup_range.sublist List.filter_sublist)).2 fun x=>?_).length_eq;rw[List.mem_filter,List.mem_range];constructor;·intro l;have h1:=B.fi.lt x l;have o:=B.lft x l;rw[N x h1]at o;rw[p]at h1;exact⟨h1,o⟩
  rintro⟨h1,o⟩;exact hin x x (Nat.le_refl _) h1 o
 have H:∀w,gen (resG c).sup w=runL E S 0 w:=fun w=>by have G:gen (resG c).sup w=runL (syncA (allN c)).es S 0 w:=Qj0 u N (w:=w) hz;rw[G,q]
 have K:((List.range T.length).filter (tb S)).length=f.kp:=by rw[F];exact J
 refine⟨by rw[p,F],?_,by rw[hkp,K],by rw[hsu,K,I],fun b hb=>?_,fun b hb=>?_,fun b hb=>?_⟩
 ·have h1:=List.length_eq_countP_add_countP (tb S) (l:=List.range T.length);rw[List.length_range,List.countP_eq_length_filter,List.countP_eq_length_filter,K]at h1;have o:gfbd c=(List.range T.length).filter fun a=>!(tb S a):=by rw[Y];refine List.filter_congr fun x l=>?_;rw[(t x (List.mem_range.1 l)).1,Bool.not_not]
  have C:(List.range T.length).filter (fun a=>decide ¬tb S a=true)=(List.range T.length).filter fun a=>!(tb S a):=List.filter_congr fun x _=>by cases tb S x<;>rfl
  rw[C]at h1;rw[o];omega
 all_goals have G:=List.all_eq_true.1 hk6 b hb;simp only[Bool.and_eq_true,Bool.not_eq_true']at G;obtain⟨a1,a2,a3,a4⟩:=G
 ·rw[H];exact a1
 ·rw[H];exact a2
 rw[QpQ h.cj fun x l=>by simpa using List.all_eq_true.1 a4 x l];exact a3
end Go.AM.SO
namespace Go.AM.SO
open Go.Proofs Go.AM.SD Go.AM.SE
def okA(a:Aut):Bool:=decide (a.al.Pairwise (·<·))&&(decide (∀x∈a.al,x<32)&&(decide (a.ms.Pairwise (·<·))&&(decide (∀x∈a.ms,x<a.n)&&(decide (a.es.Pairwise fun x y=>x.1<y.1\/(x.1=y.1/\x.2.1<y.2.1))&&(decide (∀e∈a.es,e.1<a.n/\e.2.2<a.n)&&(decide (∀e∈a.es,e.2.1∈a.al)&&(decide (0<a.n)&&decide (a.n<=10))))))))
theorem Qta{a:Aut}(h:okA a=true):WfJ a:=by simp only[okA,Bool.and_eq_true,decide_eq_true_eq]at h;obtain⟨h1,j,c,i,b,f,k,g,d⟩:=h;exact⟨⟨h1,j,by omega,c,i,b,f,k⟩,g,d⟩
def okI(x:List UInt8×Aut):Bool:=decide (x.1.length<=100)&&(decide (x.2.al.length<=100)&&(decide (x.2.ms.length<=100)&&(decide (x.2.es.length<=100)&&okA x.2)))
theorem Qio{x:List UInt8×Aut}(h:okI x=true):ItOk (zIt x)/\WfJ x.2:=by
 simp only[okI,Bool.and_eq_true,decide_eq_true_eq]at h;obtain⟨h1,g,f,d,b⟩:=h;have a:=Qta b;have c:=a.n10;refine⟨⟨by show x.1.length<=_;omega,?_,?_,?_,?_⟩,a⟩;·show(nz x.2.al).length<=_;simp[nz];omega
 ·show(nz x.2.ms).length<=_;simp[nz];omega
 ·show(x.2.es.map eg).length<=_;simp;omega
 show((x.2.n:Nat):Int)<=1000;omega
def wfB(c:CelA):Bool:=decide (c.ev.length<=100)&&(decide (∀x∈c.ev,x.nm.length<=100)&&(decide (c.ks.length<=100)&&(decide (∀x∈c.ks,x.1.length<=100)&&(c.cs.all okI&&(c.rs.all okI&&(decide (celErr c.z=0)&&(decide (0<c.cs.length)&&(decide (c.cs.length+c.rs.length<=12)&&(decide (box (auN c.cs)<=4096)&&(decide (box (allN c)<=4096)&&(decide (∀a∈allN c,∀e∈a.al,e<c.ev.length)&&(decide (∀x∈c.rs,∀e∈x.2.al,∃y∈c.cs,e∈y.2.al)&&decide (∀k∈c.ks,k.2.1.length<=1000/\∀x∈k.2.1,(0<=x.1/\x.1<(c.cs.length:Int))/\-4<x.2/\x.2<4)))))))))))))
theorem Qbd{c:CelA}(h:wfB c=true):WfG c:=by
 simp only[wfB,Bool.and_eq_true,decide_eq_true_eq,List.all_eq_true]at h;obtain⟨h1,s,A,w,q,r,v,t,u,o,m,p,l,j⟩:=h;have f:∀a∈auN c.cs,WfJ a:=fun a d=>by obtain⟨x,b,rfl⟩:=List.mem_map.1 d;exact(Qio (q x b)).2
 have i:∀a∈auN c.rs,WfJ a:=fun a d=>by obtain⟨x,b,rfl⟩:=List.mem_map.1 d;exact(Qio (r x b)).2
 have g:∀a∈allN c,WfJ a:=fun a d=>(List.mem_append.1 d).elim (f a) (i a);refine⟨⟨?_,?_,?_,?_,?_,?_,?_,?_,?_,?_⟩,v,f,i,t,u,?_,?_,p,l,j⟩;·show c.ev.length<=_;omega
 ·exact fun x b=>by have:=s x b;omega
 ·show(c.cs.map zIt).length<=_;rw[List.length_map];omega
 ·show(c.rs.map zIt).length<=_;rw[List.length_map];omega
 ·show([]:List Exn).length<=_;simp
 ·show c.ks.length<=_;omega
 ·intro x b;obtain⟨y,k,rfl⟩:=List.mem_map.1 (show x∈c.cs.map zIt from b);exact(Qio (q y k)).1
 ·intro x b;obtain⟨y,k,rfl⟩:=List.mem_map.1 (show x∈c.rs.map zIt from b);exact(Qio (r y k)).1
 ·intro x b;cases b
 ·exact fun x b=>by have:=w x b;have:=(j x b).1;omega
 ·exact Nat.le_trans (Qly (fun a d=>(f a d).pos) fun a d=>(f a d).wf.esn) o
 exact Nat.le_trans (Qly (fun a d=>(g a d).pos) fun a d=>(g a d).wf.esn) m
end Go.AM.SO
