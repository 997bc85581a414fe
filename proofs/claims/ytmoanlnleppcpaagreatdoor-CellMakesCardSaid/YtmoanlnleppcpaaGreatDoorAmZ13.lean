/- A part of the proof of CellMakesCardSaid: lemmas on the way (AmTm, AmCzj, AmCzc, AmCzf, AmCzk). Conditions: none of ours. -/
import Derived.KernelRfl
import Derived.Test.YtmoanlnleppcpaaGreatDoorAmZ12
set_option linter.unusedSectionVars false
set_option maxHeartbeats 32000000
set_option maxRecDepth 100000
set_option linter.unusedVariables false
set_option linter.unusedSimpArgs false
namespace Go.AM
variable {P:Program}
def tight (i:Nat) (f:FP):Prop:=f.all=false/\∀b,b∈f.R\/b∈f.W->b∈[i]
def wpRS (P:Program) (z:Nat):Nat->List SOper->Tmps->Heap->(Tmps->Heap->Nat->Prop)->Prop
 |n,[],T,h,K=>K T h n
 |n,s::r,T,h,K=>∃v h1 f,StepV P n s T h v h1 f/\(n=z->tight n f)/\wpRS P z (n+1) r (putD T s.dst v) h1 K
theorem QhO {z:Nat}:∀{r:List SOper} {n:Nat} {T:Tmps} {h:Heap} {K:Tmps->Heap->Nat->Prop},z<n->wpR P n r T h K->wpRS P z n r T h K
 |[],n,T,h,K,_,hk=>hk
 |s::r,n,T,h,K,hz,⟨v,h1,f,hs,hr⟩=>⟨v,h1,f,hs,fun e=>by omega,QhO (by omega) hr⟩
theorem QnZ {s:SOper} {K:Tmps->Heap->Nat->Prop}:∀(k:Nat) (r:List SOper) (n:Nat) (T:Tmps) (h:Heap),r[k]?=some s->
  wpR P n (r.take k) T h (fun T1 h1 n1=>∃v h2 f,StepV P n1 s T1 h1 v h2 f/\tight n1 f/\wpR P (n1+1) (r.drop (k+1)) (putD T1 s.dst v) h2 K)->wpRS P (n+k) n r T h K:=by
 intro k
 induction k with
 | zero =>
  intro r n T h e hw
  cases r with
  |nil=>cases e
  |cons t r=>
   rw[List.getElem?_cons_zero,Option.some.injEq]at e
   subst e
   rw[List.take_zero]at hw
   simp only[wpR]at hw
   obtain⟨v,h2,f,h3,h4,h5⟩:=hw
   rw[List.drop_succ_cons,List.drop_zero]at h5
   exact⟨v,h2,f,h3,fun _=>h4,QhO (by omega) h5⟩
 | succ k ih =>
  intro r n T h e hw
  cases r with
  |nil=>cases e
  |cons t r=>
   rw[List.take_succ_cons]at hw
   simp only[wpR]at hw
   obtain⟨v,h1,f,h3,h4⟩:=hw
   refine⟨v,h1,f,h3,fun e=>by omega,?_⟩
   rw[show n+(k+1)=n+1+k by omega]
   exact ih r (n+1) _ _ (by simpa using e) h4
theorem Qjf {z:Nat}:∀{r:List SOper} {n:Nat} {T:Tmps} {h:Heap} {K:Tmps->Heap->Nat->Prop},wpRS P z n r T h K->∃T' h' n',K T' h' n'/\∀d,(∀s∈r,s.dst≠some d)->lk T' d=lk T d
 |[],n,T,h,K,hk=>⟨T,h,n,hk,fun _ _=>rfl⟩
 |s::r,n,T,h,K,⟨v,h1,f,hs,_,hr⟩=>by
  obtain⟨T',h',n',hk,he⟩:=Qjf hr
  refine⟨T',h',n',hk,fun d hd=>?_⟩
  rw[he d fun s' hs'=>hd s' (by simp[hs'])]
  have:=hd s (by simp)
  rw[QaZ,if_neg this]
def touch3 (z i:Nat) (ax:Opd->Option (List Nat)) (s:SOp):Option (List Nat):=bif Nat.beq i z then some [i]else touch2 i ax s
def touchesN (z:Nat) (C:Claims) (n:Nat) (T:Tmps):List SOper->Abs->List (Option (List Nat))
 |[],_=>[]
 |s::r,A=>touch3 z n (absO T A) s.op::touchesN z C (n+1) T r (match s.dst with|some d=>(d,absH C d (s.op.absV n (absO T A)))::A|none=>A)
theorem Qjg {T0:Tmps} {C:Claims} {z:Nat}:∀{r:List SOper} {n:Nat} {A:Abs} {T:Tmps} {h:Heap} {K:Tmps->Heap->Nat->Prop} (hA:AbsOK T0 A T) (K':List FP->Tmps->Heap->Nat->Prop)
  (hC:∀T h n,K T h n->∀d bs,clm C d=some bs->Pts (lk T d) bs) (hssa:ssa C r=true),
  (∀fs T h n',fs.length=r.length->(∀(j:Nat) ts,(touchesN z C n T0 r A).getD j none=some ts->(fs.getD j ⟨false,[],[]⟩).all=false/\∀b,b∈(fs.getD j ⟨false,[],[]⟩).R\/b∈(fs.getD j ⟨false,[],[]⟩).W->b∈ts)->K T h n'->K' fs T h n')->
  wpRS P z n r T h K->wpRF P n r T h K'
 |[],n,A,T,h,K,hA,K',hC,hssa,hK,hw=>hK [] T h n rfl (fun j ts hj=>by simp[touchesN]at hj) hw
 | s :: r, n, A, T, h, K, hA, K', hC, hssa, hK, hw => by
  obtain⟨v,h1,f,hs,hz,hr⟩:=hw
  simp only[ssa,Bool.and_eq_true]at hssa
  obtain⟨hs1,hs2⟩:=hssa
  refine⟨v,h1,f,hs,?_⟩
  have hA2:AbsOK T0 (match s.dst with|some d=>(d,absH C d (s.op.absV n (absO T0 A)))::A|none=>A) (putD T s.dst v):=by
   cases e:s.dst with
   |none=>exact hA
   | some d =>
    refine AbsOK.up hA fun bs hb=>?_
    unfold absH at hb
    split at hb
    ·rename_i bs' hc
     cases hb
     obtain⟨T',h',n',hk,he⟩:=Qjf hr
     have h3:=hC T' h' n' hk d _ hc
     rw[he d ?_,QaZ,if_pos e]at h3
     ·exact h3
     ·intro s' hs'
      rw[e]at hs1
      simp only[hc,Option.isNone_some,Bool.false_or,List.all_eq_true]at hs1
      have:=hs1 s' hs'
      intro e2
      rw[e2]at this
      simp at this
    ·exact Qd7 hA.opd hb hs
  refine Qjg hA2 (fun fs T h n=>K' (f::fs) T h n) hC hs2 (fun fs T h n' hl hf hk=>?_) hr
  refine hK (f::fs) T h n' (by simp[hl]) (fun j ts hj=>?_) hk
  cases j with
  | zero =>
   simp only[touchesN,List.getD_cons_zero]at hj⊢
   unfold touch3 at hj
   cases e:Nat.beq n z with
   |true=>
    rw[e]at hj
    simp only[cond_true,Option.some.injEq]at hj
    subst hj
    exact hz (by simpa using e)
   |false=>
    rw[e]at hj
    exact QeK hA.opd hj hs
  |succ j=>
   simp only[touchesN,List.getD_cons_succ]at hj⊢
   exact hf j ts hj
def NewAt (P:Program) (N:NM) (x:Opd) (ag:List Opd) (d:Option Nat) (r:List SOper) (n:Nat) (T:Tmps) (h:Heap) (Q:QC):Prop:=
 ∃f ys len sz,ev T x= .fn f [] []/\NSpec P f (evs T ag) ys len sz/\noRefs ys=true/\n<lim/\h.get n=none/\wR P N r [] [] (n+1) (putD T d (.sl n 0 0 len sz)) (h.set n (.cells 0 ys)) Q
theorem Qk9 (C:Claims) (k:Nat) {x:Opd} {ag:List Opd} {d:Option Nat} {N:NM} {ops:List SOper} {p:Nat×Nat} {ps:List (Nat×Nat)} {dead:List Nat} {fs:List Fr} {n:Nat} {T:Tmps} {h:Heap} {Q:QC} {af:List Nat} (hk:ops[k]?=some ⟨d,.call .heap x ag,af,none⟩) (hssa:ssa C ops=true) (hp:pairsOK (touchesN (n+k) C n T ops []) (p::ps)=true)
  (hw:wR P N (ops.take k) [] [] n T h fun e T h n=>NewAt P N x ag d (ops.drop (k+1)) n T h fun e T h n=>Clms T C/\wX P N .normal fs n (rm T dead) h Q):wS P N (.region ops (p::ps) dead) fs n T h Q:=by
 have rm0:∀T:Tmps,rm T []=T:=by
  intro T
  induction T with
  |nil=>rfl
  |cons p T ih=>obtain⟨j,v⟩:=p;simp[rm,ih]
 refine Qjg (C:=C) (z:=n+k) (K:=fun T h n=>Clms T C/\wX P N .normal fs n (rm T dead) h Q) AbsOK.nil _ (fun T h n hk d bs hc=>hk.1.get d bs hc) hssa (fun fs' T h n' hl hf hk=>⟨?_,hk.2⟩) ?_
 ·rw [List.all_eq_true]
  intro q hq
  have:=List.all_eq_true.1 hp q hq
  split at this
  ·rename_i a b ha hb
   obtain⟨f1,f2⟩:=hf _ _ ha
   obtain⟨g1,g2⟩:=hf _ _ hb
   have hd:∀x y,x∈a->y∈b->x≠y:=by
    rintro x y hx hy rfl
    have:=List.all_eq_true.1 this x hx
    simp[hy]at this
   have dj:∀xs ys:List Nat,(∀x∈xs,∀y∈ys,x≠y)->disj xs ys=true:=by
    intro xs ys hh
    unfold disj
    rw[List.all_eq_true]
    intro x hx
    simp only[Bool.not_eq_true',List.contains_eq_mem,decide_eq_false_iff_not]
    intro hy
    exact hh x hx x hy rfl
   unfold FP.apart
   rw[f1,g1]
   simp only[Bool.and_eq_true]
   refine⟨⟨dj _ _ fun x hx y hy=>?_,dj _ _ fun x hx y hy=>?_⟩,dj _ _ fun x hx y hy=>?_⟩
   ·first|exact hd x y (f2 x (.inr hx)) (g2 y (.inl hy))|exact fun e=>hd y x (f2 y (.inl hy)) (g2 x (.inr hx)) e.symm
   ·first|exact hd x y (f2 x (.inr hx)) (g2 y (.inr hy))|exact fun e=>hd y x (f2 y (.inr hy)) (g2 x (.inr hx)) e.symm
   ·first|exact fun e=>hd y x (f2 y (.inl hy)) (g2 x (.inr hx)) e.symm|exact fun e=>hd y x (f2 y (.inr hy)) (g2 x (.inl hx)) e.symm|exact hd x y (f2 x (.inl hx)) (g2 y (.inr hy))
  ·cases this
 ·refine QnZ k ops n T h hk ?_
  have hw':wpR P n (ops.take k) T h fun T h n=>NewAt P N x ag d (ops.drop (k+1)) n (rm T []) h fun e T h n=>Clms T C/\wX P N .normal fs n (rm T dead) h Q:=hw
  simp only[rm0]at hw'
  have mono:∀{r:List SOper} {n:Nat} {T:Tmps} {h:Heap} {K K':Tmps->Heap->Nat->Prop},(∀T h n,K T h n->K' T h n)->wpR P n r T h K->wpR P n r T h K':=by
   intro r
   induction r with
   |nil=>intro n T h K K' hi hw;exact hi _ _ _ hw
   |cons s r ih=>intro n T h K K' hi hw;obtain⟨v,h1,f,hs,hr⟩:=hw;exact⟨v,h1,f,hs,ih hi hr⟩
  refine mono (fun T1 h1 n1 hh=>?_) hw'
  obtain⟨f,ys,len,sz,e1,e2,e3,e4,e5,e6⟩:=hh
  refine⟨.sl n1 0 0 len sz,h1.set n1 (.cells 0 ys),⟨false,[n1],[n1]⟩,?_,⟨rfl,fun b hb=>?_⟩,?_⟩
  ·refine ⟨.call .heap f (evs T1 ag), h1, ?_, .inr (.inr (.inl ⟨evs T1 ag, [], .inl ⟨rfl, rfl⟩, .inl ⟨ys, len, sz, e2, .inr ⟨e3, rfl⟩, e4, e5, rfl, rfl, rfl⟩⟩))⟩
   simp only[aop,e1,aCall,HM.run,List.nil_append,List.append_nil]
  ·simpa using hb
  ·have e6' : wpR P (n1 + 1) (ops.drop (k + 1)) (putD T1 d (.sl n1 0 0 len sz)) (h1.set n1 (.cells 0 ys)) fun T h n => Clms (rm T []) C /\ wX P N .normal fs n (rm (rm T []) dead) h Q := e6
   simp only[rm0]at e6'
   exact e6'
end Go.AM
namespace Go.AM.SO
open Go.Proofs Go.AM.SD Go.AM.SE
theorem index52 {K : Nat} {cap : List AV} (q : (List UInt8 × Aut) -> Bool) (l : List (List UInt8 × Aut)) (hl : l.length <= 1000000) (hc : noRefs cap = true) (hk : ∀ x ∈ l, PSpec Tryz.prog K (itNV x :: cap) (.bool (q x))) : PSpec Tryz.prog 52 [itsN l, .fn K [] cap] (.int .i64 (idxQ q l)) := by
  refine PSpec.Qaj 64 ok52 rfl (by rw[noRefs,noRefs,QcT hc,(Qbf _)];rfl) rfl ?_
  have hfn:=QcT (K:=K) hc
  have hln:=Qds l
  simp(disch:=first|omega|(simp only[lenW]<;>omega)) only[s52,wW,wV,simprocAttr]
  refine Qat 100 (fun i:Nat=>[(0,itsN l),(1,.fn K [] cap),(7,.int .i64 l.length),(8,.int .i64 i)]) (fun _=>[]) (fun i=>i<=l.length/\∀(j:Nat) y,j<i->l[j]?=some y->q y=false) (fun i=>l.length-i) 0 ?_ ⟨Nat.zero_le _,fun j y hj=>absurd hj (Nat.not_lt_zero _)⟩ ?_
  · exact⟨[],rfl,RO.zero,RB.nil,RT.cons (Rn.same (Qbf _)) (RT.cons (Rn.same hfn) (RT.cons (Rn.same rfl) (RT.cons (Rn.same rfl) RT.nil)))⟩
  rintro i ⟨hi,hb⟩
  by_cases hlt:i<l.length
  · obtain ⟨x, hx⟩ := Qak hlt
    have hn:=hk x (List.mem_of_getElem? hx)
    have hdr:=QeY hx
    have hdl:5<=(List.drop (i*5) (l.flatMap itN)).length:=by rw[List.length_drop,hln];omega
    cases hq:q x
    · rw [hq] at hn
      simp(disch:=first|omega|(simp only[lenW]<;>omega)) only[hlt,hdr,hdl,List.head?_cons,wW,wV,simprocAttr]
      refine⟨_,by simpa using hn,?_⟩
      simp(disch:=first|omega|(simp only[lenW]<;>omega)) only[wW,wV,simprocAttr]
      refine⟨i+1,by omega,⟨by omega,fun j y hj hy=>?_⟩,?_⟩
      · by_cases e : j = i
        · subst e;rw[hx]at hy;cases hy;exact hq
        · exact hb j y (by omega) hy
      · exact⟨[],rfl,RO.zero,RB.nil,RT.cons (Rn.same (Qbf _)) (RT.cons (Rn.same hfn) (RT.cons (Rn.same rfl) (RT.cons (Rn.same rfl) RT.nil)))⟩
    · rw [hq] at hn
      simp(disch:=first|omega|(simp only[lenW]<;>omega)) only[hlt,hdr,hdl,List.head?_cons,wW,wV,simprocAttr]
      refine⟨_,by simpa using hn,?_⟩
      simp(disch:=first|omega|(simp only[lenW]<;>omega)) only[wW,wV,simprocAttr]
      refine⟨.inr trivial,_,rfl,?_⟩
      rw[Qkz hx hq hb];rfl
  · simp (disch := first | omega | (simp only [lenW] <;> omega)) only [hlt, wW, wV, simprocAttr]
    refine⟨.inr trivial,_,rfl,?_⟩
    rw[QhN fun x hx=>by
      obtain⟨j,hj,hjl⟩:=List.getElem_of_mem hx
      exact hb j x (by omega) (by rw[List.getElem?_eq_getElem hj,hjl])];rfl
def isNm (s:List UInt8) (x:List UInt8×Aut):Bool:=decide (x.1=s)
theorem nmq53 (s:List UInt8) (x:List UInt8×Aut):PSpec Tryz.prog 53 [itNV x,.fptr [.str s]] (.bool (isNm s x)):=by
 refine PSpec.Qaj 64 ok53 rfl (by simp only[noRefs,noRef,Qaa,Qad];rfl) rfl ?_
 unfold isNm
 simp(disch:=first|omega|(simp only[lenW]<;>omega)) only[s53,Qa4,wW,wV,simprocAttr]
 exact⟨.inr trivial,_,rfl,rfl⟩
theorem nmq134 (s:List UInt8) (x:List UInt8×Aut):PSpec Tryz.prog 134 [itNV x,.fptr [.str s]] (.bool (isNm s x)):=by
 refine PSpec.Qaj 64 ok134 rfl (by simp only[noRefs,noRef,Qaa,Qad];rfl) rfl ?_
 unfold isNm
 simp(disch:=first|omega|(simp only[lenW]<;>omega)) only[s134,Qa4,wW,wV,simprocAttr]
 exact⟨.inr trivial,_,rfl,rfl⟩
theorem QhP {α:Type} {q:α->Bool} {A:List α} (ha:A.any q=true):A.findIdx q<A.length:=by
 obtain⟨x,hx,hq⟩:=List.any_eq_true.1 ha
 exact List.findIdx_lt_length_of_exists ⟨x,hx,hq⟩
theorem Qdt {α:Type} {q:α->Bool} {A:List α} (ha:A.any q=true):idxQ q A=(A.findIdx q:Int):=if_pos ha
theorem Qe0 {α:Type} {q:α->Bool} {A:List α} (ha:¬A.any q=true):idxQ q A= -1:=if_neg ha
theorem Qni {α:Type} {q:α->Bool} {A B:List α}:idxQ q (A++B)=if 0<=idxQ q A then idxQ q A else if 0<=idxQ q B then(A.length:Int)+idxQ q B else-1:=by
  by_cases ha:A.any q=true
  · have h3 := QhP ha
    rw[Qdt ha,Qdt (A:=A++B) (by rw[List.any_append,ha];rfl),List.findIdx_append,if_pos h3,if_pos (by omega)]
  · have hA : A.findIdx q = A.length := by
      rw[List.findIdx_eq_length]
      intro x hx
      cases hq:q x
      · rfl
      · exact absurd (List.any_eq_true.2 ⟨x,hx,hq⟩) ha
    have ha':A.any q=false:=by simpa using ha
    rw[Qe0 ha,if_neg (by omega)]
    by_cases hb:B.any q=true
    · rw [Qdt hb, Qdt (A := A ++ B) (by rw [List.any_append, hb, Bool.or_true]), List.findIdx_append, hA, if_neg (Nat.lt_irrefl _), if_pos (by omega)]
      omega
    · rw [Qe0 hb, if_neg (by omega), Qe0]
      rw[List.any_append,ha',Bool.false_or];exact hb
theorem Qe1 {α:Type} {q:α->Bool} {A:List α}: -1<=idxQ q A/\(0<=idxQ q A->idxQ q A<A.length):=by
 by_cases ha:A.any q=true
 ·have := QhP ha
  rw[Qdt ha]
  exact⟨by omega,fun _=>by omega⟩
 ·rw [Qe0 ha]
  exact⟨by omega,fun h=>by omega⟩
theorem QkE:∀x,(itN x).all AV.one=true:=fun _=>rfl
theorem clone114 (l:List (List UInt8×Aut)) (hl:l.length<=1000) (hne:l≠[]):HSpec Tryz.prog 114 [itsN l] .e (.sl 98 0 0 l.length 5) (hp [(98,.cells 0 (l.flatMap itN))]):=by
 refine HSpec.QeJ 100 ok114 rfl ?_
 have hq:aEqN false (itsN l)= .ret (.bool false):=by
  match l,hne with
  |x::l,_=>rfl
 have hone:(l.flatMap itN).all AV.one=true:=Qdr QkE l
 have hln:=Qds l
 simp(disch:=first|omega|(simp only[lenW]<;>omega)) only[s114,hq,hone,hln,wW,wV,simprocAttr]
 refine⟨.inr trivial,_,rfl,?_⟩
 refine⟨[(98,.blk 103 1)],rfl,au0,?_,au18⟩
 exact RB.cells rfl rfl gg (RnL.same (Qbj _)) RB.nil
theorem items43 (c:Cel) (h0:0<c.cs.length) (hc:c.cs.length<=1000) (hr:c.rs.length<=1000):PSpec Tryz.prog 43 [celV c] (itsN (nmL' 99 c.cs++nmL' 114 c.rs)):=by
 have hnr:=QcI c
 refine PSpec.of_rn 64 SW.ok43 rfl (by rw[noRefs,SU.Qba];rfl) (Qbf _) ?_
 have hcl:=clone114 (nmL' 99 c.cs) (by rw[Qbd];exact hc) (List.ne_nil_of_length_pos (by rw[Qbd];exact h0))
 have hl1:=Qds (nmL' 99 c.cs)
 have hl2:=Qds (nmL' 114 c.rs)
 have hn1:=@Qbd 99 c.cs
 have hn2:=@Qbd 114 c.rs
 have hone:((nmL' 114 c.rs).flatMap itN).all AV.one=true:=Qdr QkE _
 have e1:=@QcU 99 c.cs
 have e2:=@QcU 114 c.rs
 show wS _ _ _ _ _ (argT 0 [.agg [evsV c.ev,its 99 c.cs,its 114 c.rs,exs c.xs,cos c.ks]]) _ _
 rw[e1,e2]at hnr⊢
 generalize nmL' 99 c.cs=A at*
 generalize nmL' 114 c.rs=B at*
 have hA:A.length<=1000:=by omega
 have hB:B.length<=1000:=by omega
 simp(disch:=first|omega|(simp only[lenW]<;>omega)) only[SW.s43,wW,wV,simprocAttr]
 refine Qk9 [] 2 (x:= .f 114) (ag:=[.t 4]) (d:=some 5) rfl rfl rfl ?_
 simp(disch:=first|omega|(simp only[lenW]<;>omega)) only[wW,wV,simprocAttr]
 refine⟨114,A.flatMap itN,A.length,5,rfl,⟨hcl.1,by show noRefs [itsN A]=true;rw[noRefs,Qbf];rfl,98,0,0,_,_,rfl,Nat.zero_le _,gg,hcl⟩,Qbj _,by decide,gg,?_⟩
 simp(disch:=first|omega|(simp only[lenW]<;>omega)) only[hone,hl1,hl2,wW,wV,simprocAttr]
 refine⟨trivial,.inr trivial,_,rfl,?_⟩
 show Rn _ _ _ (.fsl ((A++B).flatMap itN) (A++B).length 5) _
 rw[List.flatMap_append,List.length_append]
 exact Rn.fz0 (b:=68) rfl (by rw[List.length_append,hl1,hl2];omega) (RnL.same (SU.Qa3 (Qbj _) (Qbj _)))
def fndV (q:List UInt8×Aut->Bool) (A B:List (List UInt8×Aut)):AV:=if 0<=idxQ q A then .tup [.int .i64 1,.int .i64 (idxQ q A),.bool true]else if 0<=idxQ q B then .tup [.int .i64 2,.int .i64 (idxQ q B),.bool true]else .tup [.int .i64 0,.int .i64 0,.bool false]
theorem Qn0 {q:List UInt8×Aut->Bool} {A B:List (List UInt8×Aut)}:noRef (fndV q A B)=true:=by
 unfold fndV;split
 ·rfl
 ·split<;>rfl
theorem find54 (c:Cel) (s:List UInt8) (hc:c.cs.length<=1000) (hr:c.rs.length<=1000):PSpec Tryz.prog 54 [celV c,.str s] (fndV (isNm s) (nmL' 99 c.cs) (nmL' 114 c.rs)):=by
  have hnr:=QcI c
  refine PSpec.of_rn 64 SW.ok54 rfl (by rw[noRefs,noRefs,SU.Qba];rfl) Qn0 ?_
  have hn1:=@Qbd 99 c.cs
  have hn2:=@Qbd 114 c.rs
  have e1:=@QcU 99 c.cs
  have e2:=@QcU 114 c.rs
  show wS _ _ _ _ _ (argT 0 [.agg [evsV c.ev,its 99 c.cs,its 114 c.rs,exs c.xs,cos c.ks],.str s]) _ _
  rw[e1,e2]at hnr⊢
  generalize nmL' 99 c.cs=A at*
  generalize nmL' 114 c.rs=B at*
  have hA:=index52 (K:=134) (cap:=[.fptr [.str s]]) (isNm s) A (by omega) rfl (fun x _=>nmq134 s x)
  have hB:=index52 (K:=134) (cap:=[.fptr [.str s]]) (isNm s) B (by omega) rfl (fun x _=>nmq134 s x)
  have la:=@Qe1 _ (isNm s) A
  have lb:=@Qe1 _ (isNm s) B
  unfold fndV
  generalize idxQ (isNm s) A=a at*
  generalize idxQ (isNm s) B=b at*
  have hnA:=Qbf A
  have hnB:=Qbf B
  have hq:noRefs [itsN A,itsN B]=true:=by rw[noRefs,noRefs,hnA,hnB];rfl
  have hoA:(itsN A).one=true:=rfl
  have hoB:(itsN B).one=true:=rfl
  have hxA:(itsN A).boxable=true:=rfl
  have hxB:(itsN B).boxable=true:=rfl
  have hcA:(itsN A).cells=[itsN A]:=rfl
  have hcB:(itsN B).cells=[itsN B]:=rfl
  generalize itsN A=VA at*
  generalize itsN B=VB at*
  simp(disch:=first|omega|(simp only[lenW]<;>omega)) only[SW.s54,hoA,hoB,hcA,hcB,hxA,hxB,wW,wV,simprocAttr]
  refine Qat 100 (fun i:Nat=>[(3,.ptr 51 0 0),(14,.sl 60 0 0 2 1),(15,.int .i64 2),(16,.int .i64 i)]) (fun _=>[(51,.cells 0 [.str s]),(60,.cells 0 [VA,VB])]) (fun i=>i<=2/\(1<=i->¬0<=a)/\(2<=i->¬0<=b)) (fun i=>2-i) 0 ?_ ⟨by omega,fun h=>absurd h (by omega),fun h=>absurd h (by omega)⟩ ?_
  · refine ⟨[(51, .blk 65 0), (60, .blk 73 0)], rfl, au0, ?_, au18⟩
    exact RB.cells rfl rfl gg (RnL.same rfl) (RB.cells rfl rfl gg (RnL.same hq) RB.nil)
  rintro i ⟨hi,hi1,hi2⟩
  obtain rfl|rfl|rfl:i=0\/i=1\/i=2:=by omega
  · simp (disch := first | omega | (simp only [lenW] <;> omega)) only [wW, wV, simprocAttr]
    refine SU.chc (HSpec.lend (FrzL.cons (FrzTo.same _) (FrzL.cons (FrzTo.fn FrzL.nil (FrzL.cons (FrzTo.ptr (g:=0) (cs:=[.str s]) gg (FrzL.same _)) FrzL.nil)) FrzL.nil)) hA rfl) ?_
    by_cases ha:0<=a
    · simp (disch := first | omega | (simp only [lenW] <;> omega)) only [ha, wW, wV, simprocAttr]
      exact⟨.inr trivial,_,rfl,Rn.same rfl⟩
    · simp (disch := first | omega | (simp only [lenW] <;> omega)) only [ha, wW, wV, simprocAttr]
      refine⟨1,by omega,⟨by omega,by intros;first|exact ha|trivial,fun h=>absurd h (by omega)⟩,?_⟩
      refine⟨[(51,.blk 51 0),(60,.blk 60 0)],rfl,au0,?_,au18⟩
      exact RB.cells rfl rfl gg (RnL.same rfl) (RB.cells rfl rfl gg (RnL.same hq) RB.nil)
  · have ha := hi1 (by omega)
    simp(disch:=first|omega|(simp only[lenW]<;>omega)) only[wW,wV,simprocAttr]
    refine SU.chc (HSpec.lend (FrzL.cons (FrzTo.same _) (FrzL.cons (FrzTo.fn FrzL.nil (FrzL.cons (FrzTo.ptr (g:=0) (cs:=[.str s]) gg (FrzL.same _)) FrzL.nil)) FrzL.nil)) hB rfl) ?_
    by_cases hb:0<=b
    · simp (disch := first | omega | (simp only [lenW] <;> omega)) only [hb, wW, wV, simprocAttr]
      refine⟨.inr trivial,_,rfl,?_⟩
      rw[if_neg ha]
      exact Rn.same rfl
    · simp (disch := first | omega | (simp only [lenW] <;> omega)) only [hb, wW, wV, simprocAttr]
      refine⟨2,by omega,⟨by omega,by intros;first|exact ha|trivial,by intros;first|exact hb|trivial⟩,?_⟩
      refine⟨[(51,.blk 51 0),(60,.blk 60 0)],rfl,au0,?_,au18⟩
      exact RB.cells rfl rfl gg (RnL.same rfl) (RB.cells rfl rfl gg (RnL.same hq) RB.nil)
  · have ha := hi1 (by omega)
    have hb:=hi2 (by omega)
    simp(disch:=first|omega|(simp only[lenW]<;>omega)) only[wW,wV,simprocAttr]
    refine⟨.inr trivial,_,rfl,?_⟩
    rw[if_neg ha,if_neg hb]
    exact Rn.same rfl
end Go.AM.SO
namespace Go.AM.SK
open Go.Proofs
noncomputable section
def isT:AV->Bool| .bool true=>true|_=>false
theorem QoO:∀u,isT u=true->u= .bool true:=by
 intro u h
 unfold isT at h
 split at h
 ·rfl
 ·cases h
theorem known15:PSpec Tryz.prog 15 [] (.bool true):=
 QbA (t:=ft) ft_ok Qdm (d:=100000) isT QoO (by kernel_rfl)
end
end Go.AM.SK
namespace Go.AM.SO
open Go.Proofs Go.AM.SD Go.AM.SE
theorem short25 (p:Pln) (h:POk p) (hx:p.xn<=9223372036854775807):PSpec Tryz.prog 25 [plnV p] (.bool (decide (p.xn<=4))):=by
 refine PSpec.Qaj 64 ok25 rfl (by simp only[noRefs,noRef,SU.Qef];rfl) rfl ?_
 have hlen:=SU.QeR h
 have hone:=SU.QeS h
 have a147:(plnC p)[147]?=some (.fsl (u8s p.X) p.xn 4):=SU.QdQ h (k:=0)
 show wS _ _ _ _ _ (argT 0 [.agg (plnC p)]) _ _
 generalize plnC p=C at*
 have e:decide ((p.xn:Int)<=4)=decide (p.xn<=4):=decide_eq_decide.2 (by omega)
 simp(disch:=first|omega|(simp only[lenW]<;>omega)) only[s25,hlen,hone,a147,e,wW,wV,simprocAttr]
 exact⟨.inr trivial,_,rfl,rfl⟩
end Go.AM.SO
namespace Go.AM.SO
open Go.Proofs Go.AM.SD Go.AM.SE
def strs (l:List (List UInt8)):List AV:=l.map AV.str
theorem QcJ:∀l:List (List UInt8),noRefs (strs l)=true
 |[]=>rfl
 |x::l=>by show(noRef (.str x)&&noRefs (strs l))=true;rw[QcJ l];rfl
theorem Qnj (l:List (List UInt8)):(strs l).length=l.length:=by simp[strs]
theorem QmD {l:List (List UInt8)} {i:Nat} {x:List UInt8} (h:l[i]?=some x):((strs l).drop i).head?=some (.str x):=by
 rw[List.head?_drop];simp[strs,h]
theorem _root_.Go.AM.au19 {p:Prop} (h:p:=by repeat (first|exact RT.nil|(refine RT.cons ?_ ?_; · (first|exact Rn.any|exact Rn.x1 rfl rfl|exact Rn.x2 rfl rfl|exact Rn.x3 rfl rfl|exact Rn.x4 rfl rfl|exact Rn.x5 rfl|exact Rn.x6 rfl|exact Rn.x7 rfl|(refine Rn.slot ?_ ?_;(first|rfl|(rw[Int.natCast_add];rfl));(first|rfl|(simp only[noRef,noRefs,Qah,Bool.and_self,Bool.and_true,Bool.true_and,QcJ,Qbf,Qaa,Qaw,Qac,SU.QaR,SU.Qay,SU.Qbi,SU.QaJ,SU.Qbo,Qbj,Qcp];done)))|(refine Rn.fn ?_ ?_<;>(repeat' (first|exact RnL.nil|refine RnL.cons ?_ ?_|exact Rn.same rfl|exact Rn.x6 rfl|exact Rn.x2 rfl rfl|exact Rn.x5 rfl|exact Rn.x1 rfl rfl))))))):p:=h
theorem law10 (p q : Pln) (hp : POk p) (hq : POk q) (hpx : p.xn <= 9223372036854775807) (hqx : q.xn <= 9223372036854775807) (s : List UInt8) (hsl : s.length <= 9223372036854775807) :
    W2 Tryz.prog ⟨SW.s10.n,0⟩ SW.s10.body (fun e B=>(e= .normal\/e= .ret)/\resV B.T B.h SW.s10.res=some [.bool true]) ⟨argT 0 [plnV p,plnV q,.str s],.e⟩:=by
  refine(wpC.toW (n:=40) (Q:=fun e T h _=>(e= .normal\/e= .ret)/\resV T h SW.s10.res=some [.bool true]) (show wS Tryz.prog ⟨SW.s10.n,0⟩ SW.s10.body [] 40 _ _ _ from ?_)).mono fun e B ⟨_,h⟩=>h
  have hl1:=SU.QeR hp
  have hl2:=SU.QeR hq
  have ho1:=SU.QeS hp
  have ho2:=SU.QeS hq
  have hS1:PSpec Tryz.prog 25 [.agg (plnC p)] (.bool (decide (p.xn<=4))):=short25 p hp hpx
  have hS2:PSpec Tryz.prog 25 [.agg (plnC q)] (.bool (decide (q.xn<=4))):=short25 q hq hqx
  have hM1:PSpec Tryz.prog 26 [.agg (plnC p)] (celV (mkC p)):=SU.Make26 p hp
  have hM2:PSpec Tryz.prog 26 [.agg (plnC q)] (celV (mkC q)):=SU.Make26 q hq
  have hw1:=@Qmq p
  have hw2:=@Qmq q
  have ht1:(plnC p).take 152=plnC p:=by rw[<-hl1,List.take_length]
  have ht2:(plnC q).take 152=plnC q:=by rw[<-hl2,List.take_length]
  show wS _ _ _ _ _ (argT 0 [.agg (plnC p),.agg (plnC q),.str s]) _ _
  generalize plnC p=C at*
  generalize plnC q=D at*
  generalize mkC p=c at*
  generalize mkC q=d at*
  have hK:=SK.known15
  by_cases h1:p.xn<=4
  · have e1 : decide (p.xn <= 4) = true := by simp [h1]
    rw[e1]at hS1
    by_cases h2:q.xn<=4
    · have e2 : decide (q.xn <= 4) = true := by simp [h2]
      rw[e2]at hS2
      by_cases h3:50<s.length
      · have h3' : (50 : Int) < (s.length : Int) := by omega
        simp(disch:=first|omega|(simp only[lenW]<;>omega)) only[SW.s10,hl1,hl2,ho1,ho2,ht1,ht2,wW,wV,simprocAttr]
        refine cp hK ?_
        simp(disch:=first|omega|(simp only[lenW]<;>omega)) only[hl1,ht1,wW,wV,simprocAttr]
        refine cp hS1 ?_
        simp(disch:=first|omega|(simp only[lenW]<;>omega)) only[hl2,ht2,wW,wV,simprocAttr]
        refine cp hS2 ?_
        simp(disch:=first|omega|(simp only[lenW]<;>omega)) only[h3',wW,wV,simprocAttr]
        refine cp hK ?_
        simp(disch:=first|omega|(simp only[lenW]<;>omega)) only[wW,wV,simprocAttr]
        exact⟨.inr trivial,rfl⟩
      · have h3' : ¬ (50 : Int) < (s.length : Int) := by omega
        simp(disch:=first|omega|(simp only[lenW]<;>omega)) only[SW.s10,hl1,hl2,ho1,ho2,ht1,ht2,wW,wV,simprocAttr]
        refine cp hK ?_
        simp(disch:=first|omega|(simp only[lenW]<;>omega)) only[hl1,ht1,wW,wV,simprocAttr]
        refine cp hS1 ?_
        simp(disch:=first|omega|(simp only[lenW]<;>omega)) only[hl2,ht2,wW,wV,simprocAttr]
        refine cp hS2 ?_
        simp(disch:=first|omega|(simp only[lenW]<;>omega)) only[h3',hl1,hl2,ht1,ht2,wW,wV,simprocAttr]
        have hchk:=check21 c hw1
        have hE1:=equal50 c c hw1.short hw1.short
        rw[QjH]at hE1
        have hE2:=equal50 c d hw1.short hw2.short
        have hE3:=equal51 c d hw1.short hw2.short
        generalize cellEq c d=b at*
        have hbq:aEq (.flat false [.b]) true (.bool b) (.bool b)=some (.bool false):=by cases b<;>rfl
        have hnc:=QcI c
        have hc3:=hw1.c3
        have hr2:=hw1.r2
        have hI:=items43 c hw1.c0 (by omega) (by omega)
        have hF:=fun x=>find54 c x (by omega) (by omega)
        have hA:=@Qbd 99 c.cs
        have hB:=@Qbd 114 c.rs
        generalize hAe:nmL' 99 c.cs=A at*
        generalize hBe:nmL' 114 c.rs=B at*
        have hL:(A++B).length<=5:=by rw[List.length_append];omega
        have hLn:=Qds (A++B)
        have hX:=fun x=>index52 (K:=53) (cap:=[.fptr [.str x]]) (isNm x) (A++B) (by omega) rfl (fun y _=>nmq53 x y)
        have hix:=fun x=>@Qni _ (isNm x) A B
        have hia:=fun x=>@Qe1 _ (isNm x) A
        have hib:=fun x=>@Qe1 _ (isNm x) B
        have hnL:=Qbf (A++B)
        have hLl:(A++B).length=A.length+B.length:=List.length_append
        generalize A++B=L at*
        refine Qk3 [] rfl rfl ?_
        simp(disch:=first|omega|(simp only[lenW]<;>omega)) only[hl1,ht1,wW,wV,simprocAttr]
        refine cp hM1 ?_
        simp(disch:=first|omega|(simp only[lenW]<;>omega)) only[hl2,ht2,wW,wV,simprocAttr]
        refine cp hM2 ?_
        simp(disch:=first|omega|(simp only[lenW]<;>omega)) only[wW,wV,simprocAttr]
        refine⟨trivial,?_⟩
        refine cp hchk ?_
        simp(disch:=first|omega|(simp only[lenW]<;>omega)) only[hl1,ht1,wW,wV,simprocAttr]
        refine cp hM1 ?_
        simp(disch:=first|omega|(simp only[lenW]<;>omega)) only[wW,wV,simprocAttr]
        refine cp hE1 ?_
        simp(disch:=first|omega|(simp only[lenW]<;>omega)) only[wW,wV,simprocAttr]
        refine cp hE2 ?_
        simp(disch:=first|omega|(simp only[lenW]<;>omega)) only[wW,wV,simprocAttr]
        refine cp hE3 ?_
        simp(disch:=first|omega|(simp only[lenW]<;>omega)) only[hbq,wW,wV,simprocAttr]
        refine cp hI ?_
        simp(disch:=first|omega|(simp only[lenW]<;>omega)) only[wW,wV,simprocAttr]
        refine Qax 140 (fun i:Nat=>[(7,.ptr 51 0 0),(9,.sl 60 0 0 (1+i) 1),(62,itsN L),(63,.int .i64 L.length),(64,.int .i64 i)]) (fun i=>[(51,.cells 0 [evsV c.ev,its 99 c.cs,its 114 c.rs,exs c.xs,cos c.ks]),(60,.cells 0 (strs (s::(L.take i).map (·.1))))]) (fun i=>i<=L.length) (fun i=>L.length-i) 0 0 200
          (fun _:Unit=>[(9,.fsl (strs (s::L.map (·.1))) (1+L.length) 1),(7,.ptr 51 0 0)]) (fun _=>[(51,.cells 0 [evsV c.ev,its 99 c.cs,its 114 c.rs,exs c.xs,cos c.ks])]) (fun _=>True) ?_ (Nat.zero_le _) ?_ ?_
        · refine ⟨[(51, .blk 64 0), (60, .blk 88 0)], rfl, au0, ?_, au19⟩
          exact RB.cells rfl rfl gg (RnL.same hnc) (RB.cells rfl rfl gg (RnL.same rfl) RB.nil)
        · rintro i hi
          by_cases hlt:i<L.length
          · obtain ⟨x, hx⟩ := Qak hlt
            have hdr:=QeY hx
            have hdl:5<=((L.flatMap itN).drop (i*5)).length:=by rw[hdr];simp
            have htk:L.take (i+1)=L.take i++[x]:=by rw[List.take_add_one,hx];rfl
            have hsl:(strs (s::(L.take i).map (·.1))).length=1+i:=by simp[strs];omega
            simp(disch:=first|omega|(simp only[lenW]<;>omega)) only[hlt,hdr,hdl,wW,wV,simprocAttr]
            refine⟨i+1,by omega,by omega,?_⟩
            have hst:strs (s::(L.take (i+1)).map (·.1))=strs (s::(L.take i).map (·.1))++[.str x.1]:=by rw[htk];simp[strs]
            rw[hst,<-Nat.add_assoc]
            refine⟨[(51,.blk 51 0),(60,.blk 60 1)],rfl,au0,?_,au19⟩
            exact RB.cells rfl rfl gg (RnL.same hnc) (RB.cells rfl rfl gg (RnL.same (SU.Qa3 (QcJ _) rfl)) RB.nil)
          · have e : i = L.length := by omega
            subst e
            simp(disch:=first|omega|(simp only[lenW]<;>omega)) only[hlt,wW,wV,simprocAttr]
            refine⟨(),?_⟩
            exact⟨[(51,.blk 51 0)],rfl,RO.zero,RB.cells rfl rfl gg (RnL.same hnc) RB.nil,RT.cons (Rn.fz (b:=60) (g:=0) gg rfl rfl (by simp[strs];omega) (RnL.same (QcJ _))) au19⟩
        rintro _ _
        generalize hN:s::L.map (·.1)=N
        have hNl:N.length=1+L.length:=by rw[<-hN];simp;omega
        rw[<-hNl]
        have hsl:=Qnj N
        simp(disch:=first|omega|(simp only[lenW]<;>omega)) only[wW,wV,simprocAttr]
        refine Qat 200 (fun i:Nat=>[(7,.ptr 51 0 0),(74,.fsl (strs N) N.length 1),(75,.int .i64 N.length),(76,.int .i64 i)]) (fun _=>[(51,.cells 0 [evsV c.ev,its 99 c.cs,its 114 c.rs,exs c.xs,cos c.ks])]) (fun i=>i<=N.length) (fun i=>N.length-i) 0 ?_ (Nat.zero_le _) ?_
        · refine ⟨[(51, .blk 51 0)], rfl, au0, ?_, au19⟩
          exact RB.cells rfl rfl gg (RnL.same hnc) RB.nil
        rintro i hi
        by_cases hlt:i<N.length
        · obtain ⟨x, hx⟩ := Qak hlt
          have hdr:=QmD hx
          have hFx:=hF x
          have hXx:=hX x
          have hla:=hia x
          have hlb:=hib x
          rw[hix x]at hXx
          unfold fndV at hFx
          generalize idxQ (isNm x) A=a at*
          generalize idxQ (isNm x) B=b' at*
          simp(disch:=first|omega|(simp only[lenW]<;>omega)) only[hlt,hdr,wW,wV,simprocAttr]
          refine cp hI ?_
          simp(disch:=first|omega|(simp only[lenW]<;>omega)) only[wW,wV,simprocAttr]
          refine SU.chc (HSpec.lend (FrzL.cons (FrzTo.same _) (FrzL.cons (FrzTo.fn FrzL.nil (FrzL.cons (FrzTo.ptr (g:=0) (cs:=[.str x]) gg (FrzL.same _)) FrzL.nil)) FrzL.nil)) hXx rfl) ?_
          by_cases ha:0<=a
          · rw [if_pos ha] at hFx ⊢
            have h1:¬a<0:=by omega
            have h2:a<(c.cs.length:Int):=by have:=hla.2 ha;omega
            simp(disch:=first|omega|(simp only[lenW]<;>omega)) only[wW,wV,simprocAttr]
            refine cp hFx ?_
            simp(disch:=first|omega|(simp only[lenW]<;>omega)) only[h1,h2,wW,wV,simprocAttr]
            refine⟨i+1,by omega,by omega,?_⟩
            refine⟨[(51,.blk 51 0)],rfl,au0,?_,au19⟩
            exact RB.cells rfl rfl gg (RnL.same hnc) RB.nil
          · rw [if_neg ha] at hFx ⊢
            by_cases hb:0<=b'
            · rw [if_pos hb] at hFx ⊢
              have h1:¬(A.length:Int)+b'<0:=by omega
              have h2:¬(A.length:Int)+b'<(c.cs.length:Int):=by omega
              have h3:(A.length:Int)+b'-(c.cs.length:Int)=b':=by omega
              simp(disch:=first|omega|(simp only[lenW]<;>omega)) only[wW,wV,simprocAttr]
              refine cp hFx ?_
              simp(disch:=first|omega|(simp only[lenW]<;>omega)) only[h1,h2,h3,wW,wV,simprocAttr]
              refine⟨i+1,by omega,by omega,?_⟩
              refine⟨[(51,.blk 51 0)],rfl,au0,?_,au19⟩
              exact RB.cells rfl rfl gg (RnL.same hnc) RB.nil
            · rw [if_neg hb] at hFx ⊢
              simp(disch:=first|omega|(simp only[lenW]<;>omega)) only[wW,wV,simprocAttr]
              refine cp hFx ?_
              simp(disch:=first|omega|(simp only[lenW]<;>omega)) only[wW,wV,simprocAttr]
              refine⟨i+1,by omega,by omega,?_⟩
              refine⟨[(51,.blk 51 0)],rfl,au0,?_,au19⟩
              exact RB.cells rfl rfl gg (RnL.same hnc) RB.nil
        · simp (disch := first | omega | (simp only [lenW] <;> omega)) only [hlt, wW, wV, simprocAttr]
          exact⟨.inr trivial,rfl⟩
    · have e2 : decide (q.xn <= 4) = false := by simp [h2]
      rw[e2]at hS2
      simp(disch:=first|omega|(simp only[lenW]<;>omega)) only[SW.s10,hl1,hl2,ho1,ho2,ht1,ht2,wW,wV,simprocAttr]
      refine cp hK ?_
      simp(disch:=first|omega|(simp only[lenW]<;>omega)) only[hl1,ht1,wW,wV,simprocAttr]
      refine cp hS1 ?_
      simp(disch:=first|omega|(simp only[lenW]<;>omega)) only[hl2,ht2,wW,wV,simprocAttr]
      refine cp hS2 ?_
      simp(disch:=first|omega|(simp only[lenW]<;>omega)) only[wW,wV,simprocAttr]
      refine cp hK ?_
      simp(disch:=first|omega|(simp only[lenW]<;>omega)) only[wW,wV,simprocAttr]
      exact⟨.inr trivial,rfl⟩
  · have e1 : decide (p.xn <= 4) = false := by simp [h1]
    rw[e1]at hS1
    simp(disch:=first|omega|(simp only[lenW]<;>omega)) only[SW.s10,hl1,hl2,ho1,ho2,ht1,ht2,wW,wV,simprocAttr]
    refine cp hK ?_
    simp(disch:=first|omega|(simp only[lenW]<;>omega)) only[hl1,ht1,wW,wV,simprocAttr]
    refine cp hS1 ?_
    simp(disch:=first|omega|(simp only[lenW]<;>omega)) only[wW,wV,simprocAttr]
    refine cp hK ?_
    simp(disch:=first|omega|(simp only[lenW]<;>omega)) only[wW,wV,simprocAttr]
    exact⟨.inr trivial,rfl⟩
theorem okm10:okFn Tryz.prog 10 SW.s10=true:=SW.ok10
theorem law10_in (d0 d1:tyPln.D) (d2:Ty.str.D) (h0:tyPln.wf d0) (h1:tyPln.wf d1) (h2:Ty.str.wf d2):
  W2 Tryz.prog ⟨SW.s10.n,0⟩ SW.s10.body (fun e B=>(e= .normal\/e= .ret)/\resV B.T B.h SW.s10.res=some [.bool true]) ⟨argT 0 [tyPln.val d0,tyPln.val d1,Ty.str.val d2],.e⟩:=by
 obtain⟨p,hp,hlp,e0⟩:=QmC h0
 obtain⟨q,hq,hlq,e1⟩:=QmC h1
 rw[e0,e1]
 exact law10 p q hp hq hlp hlq d2 (by simpa[Ty.wf]using h2)
end Go.AM.SO
