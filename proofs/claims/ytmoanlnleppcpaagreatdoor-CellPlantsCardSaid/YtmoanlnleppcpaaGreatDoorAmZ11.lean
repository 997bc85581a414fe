/- A part of the proof of CellPlantsCardSaid: lemmas on the way (AmS, AmSa, AmCzaa, AmCza, AmCe, AmCf, AmCg, AmCh, AmCm, AmCp, AmCs, AmCt, AmCu, AmCi, AmCk, AmCl). Conditions: none of ours. -/
import Derived.KernelRfl
import Derived.Test.YtmoanlnleppcpaaGreatDoorProg
import Derived.Test.YtmoanlnleppcpaaGreatDoorAmZ10
set_option linter.unusedSectionVars false
set_option maxHeartbeats 32000000
set_option maxRecDepth 100000
set_option linter.unusedVariables false
set_option linter.unusedSimpArgs false
namespace Go.AM
variable {P:Program}
noncomputable section
variable {α:Type}
inductive CM where
 |c (m:CallM)
 |rnd (g:Nat)
 |give (b g:Nat) (xs:List AV)
 |new
 |fr (hB:Heap)
abbrev CallerA (α:Type):=CM->Nat->List AV->Heap->Nat->(AV->Heap->Nat->α)->α
abbrev KcA (α:Type):=SX->Tmps->Heap->Nat->α
def evsK (T:Tmps) (xs:List Opd) (k:List AV->α):α:=
 @List.rec Opd (fun _=>(List AV->α)->α) (fun k=>k []) (fun x _ ih k=>evK T x fun v=>ih fun vs=>k (v::vs)) xs k
theorem QgR (T:Tmps) (xs:List Opd) (k:List AV->α):evsK T xs k=k (evs T xs):=by
 have:∀(xs:List Opd) (k:List AV->α),@List.rec Opd (fun _=>(List AV->α)->α) (fun k=>k []) (fun x _ ih k=>evK T x fun v=>ih fun vs=>k (v::vs)) xs k=k (evs T xs):=by
  intro xs
  induction xs with
  |nil=>intro k;rfl
  |cons x r ih=>
   intro k
   show evK T x (fun v=>@List.rec Opd (fun _=>(List AV->α)->α) (fun k=>k []) (fun x _ ih k=>evK T x fun v=>ih fun vs=>k (v::vs)) r fun vs=>k (v::vs))=_
   rw[QaX];exact ih _
 exact this xs k
def iaddrR (A:Ans α) (arr:Option Nat) (sz:Nat) (x i:AV) (k:AV->α):α:=
 match i with
 | .int _ (.ofNat j) => (match arr with
  |none=>(match x with
   | .sl b g off len s=>ifB (Nat.ble (Nat.succ j) len&&Nat.beq s sz) (fNat (Nat.add off (Nat.mul j sz)) fun o=>k (.ptr b g o)) A.bad
   | .fsl cs len s=>ifB (Nat.ble (Nat.succ j) len&&Nat.beq s sz) (fNat (Nat.mul j sz) fun o=>dropR cs o fun cs=>k (.fptr cs)) A.bad
   |_=>A.bad)
  |some m=>(match x with
   | .ptr b g off=>ifB (Nat.ble (Nat.succ j) m) (fNat (Nat.add off (Nat.mul j sz)) fun o=>k (.ptr b g o)) A.bad
   | .fptr cs=>ifB (Nat.ble (Nat.succ j) m) (fNat (Nat.mul j sz) fun o=>dropR cs o fun cs=>k (.fptr cs)) A.bad
   |_=>A.bad))
 |_=>A.bad
theorem Qmz (A:Ans α) (arr:Option Nat) (sz:Nat) (x i:AV) (k:AV->α):iaddrR A arr sz x i k=A.bad\/∃v,aIAddr arr sz x i=some v/\iaddrR A arr sz x i k=k v:=by
 unfold iaddrR
 split
 ·rename_i kd j
  have cond2:∀(len s:Nat),(Nat.ble (Nat.succ j) len&&Nat.beq s sz)=true->((0:Int)<=Int.ofNat j/\Int.ofNat j<(len:Int)/\s=sz):=by
   intro len s h
   simp only[Bool.and_eq_true]at h
   refine⟨Int.natCast_nonneg j,Int.ofNat_lt.2 (Nat.le_of_ble_eq_true h.1),by simpa using h.2⟩
  have cond1:∀(len:Nat),Nat.ble (Nat.succ j) len=true->((0:Int)<=Int.ofNat j/\Int.ofNat j<(len:Int)):=by
   intro len h
   exact⟨Int.natCast_nonneg j,Int.ofNat_lt.2 (Nat.le_of_ble_eq_true h)⟩
  split
  ·split
   ·rw [Qaq]; split
    ·rename_i h
     right
     refine⟨_,by simp only[aIAddr];rw[if_pos (cond2 _ _ h)],?_⟩
     rw[Qa5];rfl
    ·exact .inl rfl
   ·rw [Qaq]; split
    ·rename_i h
     right
     refine⟨_,by simp only[aIAddr];rw[if_pos (cond2 _ _ h)],?_⟩
     rw[Qa5,QfR];rfl
    ·exact .inl rfl
   ·exact .inl rfl
  ·split
   ·rw [Qaq]; split
    ·rename_i h
     right
     refine⟨_,by simp only[aIAddr];rw[if_pos (cond1 _ h)],?_⟩
     rw[Qa5];rfl
    ·exact .inl rfl
   ·rw [Qaq]; split
    ·rename_i h
     right
     refine⟨_,by simp only[aIAddr];rw[if_pos (cond1 _ h)],?_⟩
     rw[Qa5,QfR];rfl
    ·exact .inl rfl
   ·exact .inl rfl
 ·exact .inl rfl
def convR (A:Ans α) (kd:IntKind) (x:AV) (k:AV->α):α:=
 match x with
 | .int _ (.ofNat m)=>ifB (Nat.ble m (hiN kd)) (k (.int kd (.ofNat m))) (optR A (aConv kd x) k)
 |_=>optR A (aConv kd x) k
theorem Qnx (A:Ans α) (kd:IntKind) (x:AV) (k:AV->α):convR A kd x k=match aConv kd x with|some v=>k v|none=>A.bad:=by
 refine Eq.trans (b:=optR A (aConv kd x) k) ?_ (by cases aConv kd x with|none=>rfl|some v=>exact Qco v k)
 unfold convR
 split
 ·rw [Qaq]
  split
  ·rename_i h
   rw[QeH,Qgy (Nat.le_of_ble_eq_true h),QaN]
  ·rfl
 ·rfl
def opR (A:Ans α) (call:CallerA α) (i:Nat) (s:SOp) (T:Tmps) (h:Heap) (n:Nat) (k:AV->Heap->Nat->α):α:=
 match s with
 | .mov x=>evK T x fun v=>k v h n
 | .bin op x y=>evK T x fun a=>evK T y fun b=>binR A op a b fun v=>k v h n
 | .load m x=>evK T x fun a=>loadR A m a h fun v=>k v h n
 | .store m x v=>evK T x fun a=>evK T v fun v=>storeR A m a v h fun u h=>k u h n
 | .iaddr arr sz x j=>evK T x fun a=>evK T j fun j=>iaddrR A arr sz a j fun v=>k v h n
 | .faddr off x=>evK T x fun a=>optR A (aFAddr off a) fun v=>k v h n
 | .conv kd x=>evK T x fun a=>convR A kd a fun v=>k v h n
 | .extract j x=>evK T x fun a=>(match a with
  | .tup vs=>nthR A vs j fun v=>k v h n
  |_=>A.bad)
 | .pick c a b=>evK T c fun c=>(match c with
  | .bool t=>ifB t (evK T a fun v=>k v h n) (evK T b fun v=>k v h n)
  |_=>A.bad)
 | .un .not x=>evK T x fun a=>(match a with
  | .bool t=>ifB t (k (.bool false) h n) (k (.bool true) h n)
  |_=>A.bad)
 | .len 1 x => evK T x fun a => (match a with
  | .sl _ _ _ len _=>k (.int .i64 (.ofNat len)) h n
  | .fsl _ len _=>k (.int .i64 (.ofNat len)) h n
  | .nilsl=>k (.int .i64 (.ofNat 0)) h n
  |_=>runR A (aop i T s) h fun out h2=>(match out with
   | .val v=>fAV v fun v=>k v h2 n
   |_=>A.bad))
 | .call m x args => evK T x fun f => (match f with
  | .fn f first captured=>evsK T args fun asg=>(match m with
   | .heap=>fList (first++asg++captured) fun asg=>call (.c .heap) f asg h n k
   | .pure=>fList (first++asg++captured) fun asg=>call (.c .pure) f asg h n fun v _ n=>k v h n
   | .borrow=>runR A (mapH (frzH 4) (first++asg++captured)) h fun asg h2=>call (.c .borrow) f asg h2 n fun v _ n=>ifB (flatV v) (k v h2 n) A.bad)
  | .yld b g=>(match m with
   | .heap=>evsK T args fun asg=>fList asg fun asg=>call (.rnd g) b asg h n k
   |_=>A.bad)
  |_=>A.bad)
 |s=>runR A (aop i T s) h fun out h2=>(match out with
  | .val v=>fAV v fun v=>k v h2 n
  |_=>A.bad)
theorem Qlo {m:Option Nat} {x v:AV} {h h':Heap} (hm:(aLoad m x).run h=some (v,h')):h'=h:=by
 cases x with
 | ptr b g off =>
  simp only[aLoad]at hm
  obtain⟨cs,_,hm⟩:=QaZ hm
  cases m with
  |none=>
   cases hc:cs[off]? with
   |none=>simp[hc,HM.opt,HM.run]at hm
   |some u=>simp only[hc,HM.opt,HM.run,Option.some.injEq,Prod.mk.injEq]at hm;exact hm.2.symm
  |some m=>
   simp only at hm
   split at hm
   ·simp only[HM.run,Option.some.injEq,Prod.mk.injEq]at hm;exact hm.2.symm
   ·simp[HM.run]at hm
 | fptr cs =>
  simp only[aLoad]at hm
  cases m with
  |none=>
   cases cs with
   |nil=>simp[HM.opt,HM.run]at hm
   |cons u cs=>simp only[HM.opt,List.head?_cons,HM.run,Option.some.injEq,Prod.mk.injEq]at hm;exact hm.2.symm
  |some m=>
   simp only at hm
   split at hm
   ·simp only[HM.run,Option.some.injEq,Prod.mk.injEq]at hm;exact hm.2.symm
   ·simp[HM.run]at hm
 |_=>simp[aLoad,HM.run]at hm
def stepFP (i:Nat) (s:SOp) (T:Tmps) (h:Heap):FP:=
 match s with
 | .call .heap _ _=>⟨true,[],[]⟩
 |s=>fpOf ((aop i T s).fp h)
def CallOKA (P:Program) (A:Ans α) (call:CallerA α):Prop:=∀(m:CallM) (f:Nat) (args:List AV) (h:Heap) (n:Nat) (k:AV->Heap->Nat->α),A.holds (call (.c m) f args h n k)->
 ∃v h' n',A.holds (k v h' n')/\(m= .heap->HSpec P f args h v h')/\(m≠ .heap->PSpec P f args v)
def RndOK (P:Program) (A:Ans α) (call:CallerA α):Prop:=∀(g b:Nat) (args:List AV) (h:Heap) (n:Nat) (k:AV->Heap->Nat->α),A.holds (call (.rnd g) b args h n k)->
 ∃v h' n',A.holds (k v h' n')/\RSpec P b g args h v h'
section
variable {A:Ans α} (hA:A.OK) {call:CallerA α} (hc:CallOKA P A call) (hrn:RndOK P A call)
include hA hc hrn
theorem QhX {i : Nat} {s : SOp} {T : Tmps} {h : Heap} {n : Nat} {k : AV -> Heap -> Nat -> α} (hx : A.holds (opR A call i s T h n k)) :
  ∃v h1 n',A.holds (k v h1 n')/\StepX P i s T h v h1 (stepFP i s T h):=by
 have lft:∀{s:SOp} {o:Option AV} {v:AV},(∀m x a,s≠ .call m x a)->aop i T s=lift o->o=some v->StepX P i s T h v h (stepFP i s T h):=by
  intro s o v hs e ho
  refine⟨.val v,h,by rw[e,ho];rfl,rfl,rfl,?_⟩
  cases s<;>first|rfl|(exact absurd rfl (hs _ _ _))
 have hvl:∀{s:SOp} {m:HM AV} {v:AV} {h1:Heap},(∀m x a,s≠ .call m x a)->aop i T s=hval m->m.run h=some (v,h1)->StepX P i s T h v h1 (stepFP i s T h):=by
  intro s m v h1 hs e hm
  refine⟨.val v,h1,by rw[e];exact run_hval' m h hm,rfl,rfl,?_⟩
  cases s<;>first|rfl|(exact absurd rfl (hs _ _ _))
 have dflt:∀{s:SOp},(∀m x a,s≠ .call m x a)->A.holds (runR A (aop i T s) h fun out h2=>(match out with
   | .val v=>fAV v fun v=>k v h2 n
   |_=>A.bad))->∃v h1 n',A.holds (k v h1 n')/\StepX P i s T h v h1 (stepFP i s T h):=by
  intro s hs hx
  rw[Qce]at hx
  cases hr:(aop i T s).run h with
  |none=>rw[hr]at hx;exact absurd hx hA.bad
  | some r =>
   obtain⟨out,h2⟩:=r
   rw[hr]at hx
   cases out with
   |call m f asg=>exact absurd hx hA.bad
   |round b g asg=>exact absurd hx hA.bad
   |val v=>
    simp only[Qco]at hx
    refine⟨v,h2,n,hx,.val v,h2,hr,rfl,rfl,?_⟩
    cases s<;>first|rfl|(exact absurd rfl (hs _ _ _))
 unfold opR at hx
 split at hx
 ·rw [QaX] at hx
  exact⟨_,h,n,hx,lft (by simp) (o:=some _) rfl rfl⟩
 ·rw [QaX, QaX, Qn9] at hx
  split at hx
  ·rename_i hv;exact⟨_,h,n,hx,lft (by simp) rfl hv⟩
  ·exact absurd hx hA.bad
 ·rw [QaX, Qjg] at hx
  split at hx
  ·rename_i v h' hv
   have:h'=h:=Qlo hv
   subst this
   exact⟨v,h',n,hx,hvl (by simp) rfl hv⟩
  ·exact absurd hx hA.bad
 ·rw [QaX, QaX, Qmy] at hx
  split at hx
  ·rename_i hv;exact⟨_,_,n,hx,hvl (by simp) rfl hv⟩
  ·exact absurd hx hA.bad
 ·rw [QaX, QaX] at hx
  rcases Qmz A _ _ _ _ (fun v=>k v h n)with e|⟨v,hv,e⟩
  ·rw[e]at hx;exact absurd hx hA.bad
  ·rw[e]at hx;exact⟨v,h,n,hx,lft (by simp) rfl hv⟩
 ·rw [QaX, QaN] at hx
  split at hx
  ·rename_i hv;exact⟨_,h,n,hx,lft (by simp) rfl hv⟩
  ·exact absurd hx hA.bad
 ·rw [QaX, Qnx] at hx
  split at hx
  ·rename_i hv;exact⟨_,h,n,hx,lft (by simp) rfl hv⟩
  ·exact absurd hx hA.bad
 ·rw [QaX] at hx
  split at hx
  ·rename_i vs hv
   rw[QkJ]at hx
   split at hx
   ·rename_i hj
    exact⟨_,h,n,hx,lft (by simp) rfl (by rw[hv];exact hj)⟩
   ·exact absurd hx hA.bad
  ·exact absurd hx hA.bad
 ·rw [QaX] at hx
  split at hx
  ·rename_i t hv
   rw[Qaq,QaX,QaX]at hx
   split at hx
   ·rename_i ht;exact⟨_,h,n,hx,lft (by simp) rfl (by rw[hv,ht];rfl)⟩
   ·rename_i ht;exact⟨_,h,n,hx,lft (by simp) rfl (by rw[hv];simp at ht;rw[ht];rfl)⟩
  ·exact absurd hx hA.bad
 ·rw [QaX] at hx
  split at hx
  ·rename_i t hv
   rw[Qaq]at hx
   split at hx
   ·rename_i ht;exact⟨_,h,n,hx,lft (by simp) rfl (by rw[hv,ht];rfl)⟩
   ·rename_i ht;exact⟨_,h,n,hx,lft (by simp) rfl (by rw[hv];simp at ht;rw[ht];rfl)⟩
  ·exact absurd hx hA.bad
 ·rw [QaX] at hx
  split at hx
  ·rename_i hv;exact⟨_,h,n,hx,hvl (m:= .ret _) (by simp) (by show hval (aLenC 1 (ev T _))=_;rw[hv];rfl) rfl⟩
  ·rename_i hv;exact⟨_,h,n,hx,hvl (m:= .ret _) (by simp) (by show hval (aLenC 1 (ev T _))=_;rw[hv];rfl) rfl⟩
  ·rename_i hv;exact⟨_,h,n,hx,hvl (m:= .ret _) (by simp) (by show hval (aLenC 1 (ev T _))=_;rw[hv];rfl) rfl⟩
  ·exact dflt (by simp) hx
 ·rename_i m x args
  rw[QaX]at hx
  split at hx
  ·rename_i f first captured hv
   rw[QgR]at hx
   have e:aop i T (.call m x args)=aCall m (.fn f first captured) (evs T args):=by rw[<-hv];rfl
   cases m with
   |heap=>
    simp only[Qb3]at hx
    obtain⟨v,h1,n',hk,hs,_⟩:=hc _ _ _ _ _ _ hx
    exact⟨v,h1,n',hk,.call .heap f (first++evs T args++captured),h,by rw[e];rfl,.inl ⟨hs rfl,rfl⟩⟩
   |pure=>
    simp only[Qb3]at hx
    obtain⟨v,h1,n',hk,_,hs⟩:=hc _ _ _ _ _ _ hx
    exact⟨v,h,n',hk,.call .pure f (first++evs T args++captured),h,by rw[e];rfl,hs (by simp),rfl,rfl⟩
   | borrow =>
    simp only[Qce]at hx
    split at hx
    ·rename_i asg h2 hm
     obtain⟨v,h1,n',hk,_,hs⟩:=hc _ _ _ _ _ _ hx
     rw[Qaq]at hk
     split at hk
     ·rename_i hf
      refine⟨v,h2,n',hk,.call .borrow f asg,h2,?_,hs (by simp),hf,rfl,rfl⟩
      rw[e]
      have:∀(m:HM (List AV)) (h:Heap) (k:List AV->AOut),m.run h=some (asg,h2)->(m.bind fun asg=> .ret (k asg)).run h=some (k asg,h2):=by
       intro m
       induction m with
       |ret a=>intro h k hm;simp only[HM.run,Option.some.injEq,Prod.mk.injEq]at hm;obtain⟨rfl,rfl⟩:=hm;rfl
       |fail=>intro h k hm;simp[HM.run]at hm
       |look b k' ih=>intro h k hm;exact ih _ h k hm
       |put b x k' ih=>
        intro h k hm
        obtain⟨hl,hm⟩:=QaF hm
        have:=ih _ k hm
        simp only[HM.bind,HM.run]
        have hl':Nat.blt b lim=true:=by simp[Nat.blt];omega
        rw[hl'];exact this
      exact this _ h (fun asg=> .call .borrow f asg) hm
     ·exact absurd hk hA.bad
    ·exact absurd hx hA.bad
  ·rename_i b g hv
   cases m with
   |heap=>
    rw[QgR]at hx
    simp only[Qb3]at hx
    have e:aop i T (.call .heap x args)=aCall .heap (.yld b g) (evs T args):=by rw[<-hv];rfl
    obtain⟨v,h1,n',hk,hs⟩:=hrn _ _ _ _ _ _ hx
    exact⟨v,h1,n',hk,.round b g (evs T args),h,by rw[e];rfl,hs,rfl⟩
   |pure=>exact absurd hx hA.bad
   |borrow=>exact absurd hx hA.bad
  ·exact absurd hx hA.bad
 ·rename_i hs
  exact dflt (fun m x a e=>hs _ _ _ e) hx
end
def operR (A:Ans α) (call:CallerA α) (i:Nat) (s:SOper) (T:Tmps) (h:Heap) (n:Nat) (k:AV->Heap->Nat->α):α:=
 match s.guard with
 |none=>opR A call i s.op T h n k
 |some (g,want)=>lkK T g fun x=>(match x with
  | .bool b=>ifB want (ifB b (opR A call i s.op T h n k) (k (.tup []) h n)) (ifB b (k (.tup []) h n) (opR A call i s.op T h n k))
  | .tup []=>k (.tup []) h n
  |_=>A.bad)
def operFP (i:Nat) (s:SOper) (T:Tmps) (h:Heap):FP:=
 match s.guard with
 |none=>stepFP i s.op T h
 |some (g,want)=>match wantedA (lk T g) want with
  |some true=>stepFP i s.op T h
  |_=>⟨false,[],[]⟩
section
variable {A:Ans α} (hA:A.OK) {call:CallerA α} (hc:CallOKA P A call) (hrn:RndOK P A call)
include hA hc hrn
theorem Qfu {i:Nat} {s:SOper} {T:Tmps} {h:Heap} {n:Nat} {k:AV->Heap->Nat->α} (hx:A.holds (operR A call i s T h n k)):
  ∃v h1 n',A.holds (k v h1 n')/\StepV P i s T h v h1 (operFP i s T h):=by
 unfold operR at hx
 unfold StepV operFP
 cases hg:s.guard with
 |none=>
  rw[hg]at hx
  obtain⟨v,h1,n',hk,hs⟩:=QhX hA hc hrn hx
  exact⟨v,h1,n',hk,hs⟩
 | some p =>
  obtain⟨g,want⟩:=p
  rw[hg]at hx
  simp only[QdT]at hx⊢
  split at hx
  ·rename_i b hb
   rw[hb]
   have run:A.holds (opR A call i s.op T h n k)->b=want->∃v h1 n',A.holds (k v h1 n')/\∃b',wantedA (.bool b) want=some b'/\if b'=true then StepX P i s.op T h v h1 (match wantedA (.bool b) want with|some true=>stepFP i s.op T h|_=>⟨false,[],[]⟩)else(v= .tup []/\h1=h/\(match wantedA (.bool b) want with|some true=>stepFP i s.op T h|_=>⟨false,[],[]⟩)=⟨false,[],[]⟩):=by
    intro hx2 e
    obtain⟨v,h1,n',hk,hs⟩:=QhX hA hc hrn hx2
    subst e
    exact⟨v,h1,n',hk,true,by simp[wantedA],by simp[wantedA];exact hs⟩
   have skip:A.holds (k (.tup []) h n)->b≠want->∃v h1 n',A.holds (k v h1 n')/\∃b',wantedA (.bool b) want=some b'/\if b'=true then StepX P i s.op T h v h1 (match wantedA (.bool b) want with|some true=>stepFP i s.op T h|_=>⟨false,[],[]⟩)else(v= .tup []/\h1=h/\(match wantedA (.bool b) want with|some true=>stepFP i s.op T h|_=>⟨false,[],[]⟩)=⟨false,[],[]⟩):=by
    intro hx2 e
    have e':(b==want)=false:=by simpa using e
    exact⟨.tup [],h,n,hx2,false,by simp[wantedA,e'],by simp[wantedA,e']⟩
   simp only[Qaq]at hx
   cases want<;>cases b<;>simp only[Bool.false_eq_true,if_true,if_false]at hx
   ·exact run hx rfl
   ·exact skip hx (by simp)
   ·exact skip hx (by simp)
   ·exact run hx rfl
  ·rename_i hb
   rw[hb]
   exact⟨.tup [],h,n,hx,false,by simp[wantedA],by simp[wantedA]⟩
  ·exact absurd hx hA.bad
end
def ownArg:List AV->Option (Nat×Nat)
 |[]=>none
 | .sl b g _ _ _::_=>some (b,g)
 |_::xs=>ownArg xs
def newR (A:Ans α) (call:CallerA α) (f:Nat) (args asg:List AV) (same:Bool) (R:List Nat) (i:Nat) (h:Heap) (n:Nat) (k:AV->Heap->Nat->FP->α):α:=
 ifB (noRefs asg) (call .new f asg h n fun v h' _ => (match v with
  | .sl b g off len sz=>getR h' b fun o=>(match o with
   | some (.cells g' cs) => ifB (Nat.beq g' g && Nat.ble off cs.length && Nat.ble (Nat.succ i) lim) (dropR cs off fun ys => ifB (flatVs ys || (noRefs ys && same)) (getR h i fun o => (match o with
     |none=>putBR A h i (.cells 0 ys) fun h1=>k (.sl i 0 0 len sz) h1 n ⟨false,i::R,[i]⟩
     |some _=>A.bad)) A.bad) A.bad
   |_=>A.bad)
  |v=>runR A (frzH 6 v) h' fun v _=>ifB (noRef v&&(flatV v||same)) (fAV v fun v=>k v h n ⟨false,R,[]⟩) A.bad)) A.bad
mutual
def refsV:AV->List Nat->List Nat
 | .ptr b _ _,acc=>b::acc
 | .sl b _ _ _ _,acc=>b::acc
 | .map b _,acc=>b::acc
 | .yld b _,acc=>b::acc
 | .agg cs,acc| .tup cs,acc| .fptr cs,acc| .fsl cs _ _,acc=>refsL cs acc
 | .fmap ks vs,acc=>refsL ks (refsL vs acc)
 | .fn _ x y,acc=>refsL x (refsL y acc)
 | .ifc _ v,acc=>refsV v acc
 | .typed _ _ v,acc=>refsV v acc
 |_,acc=>acc
termination_by structural x=>x
def refsL:List AV->List Nat->List Nat
 |[],acc=>acc
 |x::xs,acc=>refsV x (refsL xs acc)
termination_by structural x=>x
end
def refsE:List (AV×AV)->List Nat->List Nat
 |[],acc=>acc
 |p::r,acc=>refsV p.1 (refsV p.2 (refsE r acc))
def refsB (o:Option Blk) (acc:List Nat):List Nat:=
 match o with
 |some (.cells _ cs)=>refsL cs acc
 |some (.map _ es)=>refsE es acc
 |_=>acc
def fNats (l:List Nat) (k:List Nat->α):α:=
 @List.rec Nat (fun _=>(List Nat->α)->α) (fun k=>k []) (fun x _ ih k=>fNat x fun x=>ih fun l=>k (x::l)) l k
theorem QfS (l:List Nat) (k:List Nat->α):fNats l k=k l:=by
 induction l generalizing k with
 |nil=>rfl
 |cons x r ih=>
  show fNat x (fun x=>fNats r fun l=>k (x::l))=_
  rw[Qa5,ih]
def closR (h:Heap) (d:Nat) (todo acc:List Nat) (k:List Nat->α):α:=
 @Nat.rec (fun _ => List Nat -> List Nat -> α) (fun _ acc => k acc) (fun _ ih todo acc => match todo with
  |[]=>k acc
  |b::todo=>ifB (hasB acc b) (ih todo acc) (getR h b fun o=>fNats (refsB o todo) fun todo=>ih todo (b::acc))) d todo acc
theorem QfT (h:Heap):∀(d:Nat) (todo acc:List Nat) (k:List Nat->α),∃B,closR h d todo acc k=k B
 |0,todo,acc,k=>⟨acc,rfl⟩
 |d+1,[],acc,k=>⟨acc,rfl⟩
 | d + 1, b :: todo, acc, k => by
  have e:closR h (d+1) (b::todo) acc k=ifB (hasB acc b) (closR h d todo acc k) (getR h b fun o=>fNats (refsB o todo) fun todo=>closR h d todo (b::acc) k):=rfl
  rw[e,Qaq]
  split
  ·exact QfT h d todo acc k
  ·rw [Qbd, QfS]
   exact QfT h d _ _ k
def domK (t:Heap) (m o:Nat) (acc:List Nat) (k:List Nat->α):α:=
 @Tr.rec Blk (fun _ => Nat -> Nat -> List Nat -> (List Nat -> α) -> α) (fun _ _ acc k => k acc) (fun _ v _ il ir m o acc k =>
  fNat (Nat.mul 2 m) fun m2=>fNat (Nat.add m o) fun o1=>fNat (Nat.add m2 o) fun o2=>(match v with
   |some _=>il m2 o1 (o::acc) fun acc=>ir m2 o2 acc k
   |none=>il m2 o1 acc fun acc=>ir m2 o2 acc k)) t m o acc k
def domL:Heap->Nat->Nat->List Nat->List Nat
 | .e,_,_,acc=>acc
 | .n l v r,m,o,acc=>domL r (2*m) (2*m+o) (domL l (2*m) (m+o) (match v with|some _=>o::acc|none=>acc))
theorem QgS:∀(t:Heap) (m o:Nat) (acc:List Nat) (k:List Nat->α),domK t m o acc k=k (domL t m o acc)
 | .e,m,o,acc,k=>rfl
 | .n l v r, m, o, acc, k => by
  have e:domK (.n l v r) m o acc k=fNat (Nat.mul 2 m) fun m2=>fNat (Nat.add m o) fun o1=>fNat (Nat.add m2 o) fun o2=>(match v with
   |some _=>domK l m2 o1 (o::acc) fun acc=>domK r m2 o2 acc k
   |none=>domK l m2 o1 acc fun acc=>domK r m2 o2 acc k):=rfl
  rw[e]
  simp only[Qa5]
  cases v<;>simp only[QgS l,QgS r,domL]<;>rfl
theorem Qdt:∀(t:Heap) (m o:Nat) {acc:List Nat} {b:Nat},b∈acc->b∈domL t m o acc
 | .e,_,_,_,_,h=>h
 | .n l v r,m,o,acc,b,h=>by
  simp only[domL]
  refine Qdt r _ _ (Qdt l _ _ ?_)
  cases v
  ·exact h
  ·exact List.mem_cons_of_mem _ h
theorem QfU:∀(t:Heap) (m o:Nat) (acc:List Nat) (j:Nat),t.get j≠none->m*j+o∈domL t m o acc
 | .e,_,_,_,j,h=>absurd (by simp[Tr.get]) h
 | .n l v r, m, o, acc, j, h => by
  rw[Tr.get_n]at h
  simp only[domL]
  by_cases h0:j=0
  ·subst h0
   rw[if_pos rfl]at h
   refine Qdt r _ _ (Qdt l _ _ ?_)
   cases v with
   |none=>exact absurd rfl h
   |some x=>simp
  ·rw [if_neg h0] at h
   by_cases h1:j % 2=1
   ·rw [if_pos h1] at h
    refine Qdt r _ _ ?_
    have:=QfU l (2*m) (m+o) (match v with|some _=>o::acc|none=>acc) (j/2) h
    have e:2*m*(j/2)+(m+o)=m*j+o:=by
     have:j=2*(j/2)+1:=by omega
     generalize j/2=q at*
     subst this
     rw[Nat.mul_add,Nat.mul_one,<-Nat.mul_assoc,Nat.mul_comm m 2];omega
    rw[<-e];exact this
   ·rw [if_neg h1] at h
    have:=QfU r (2*m) (2*m+o) (domL l (2*m) (m+o) (match v with|some _=>o::acc|none=>acc)) (j/2-1) h
    have e:2*m*(j/2-1)+(2*m+o)=m*j+o:=by
     have:j=2*(j/2-1)+2:=by omega
     generalize j/2-1=q at*
     subst this
     rw[Nat.mul_add,<-Nat.mul_assoc,Nat.mul_comm m 2];omega
    rw[<-e];exact this
def overR (A:Ans α) (k1 h:Heap) (D:List Nat) (k:Heap->α):α:=
 @List.rec Nat (fun _ => Heap -> α) (fun h => k h) (fun b _ ih h => getR k1 b fun o => (match o with
  |some x=>putBR A h b x fun h=>ih h
  |none=>ih h)) D h
theorem Qeg {A:Ans α} {k1:Heap}:∀{D:List Nat} {h:Heap} {k:Heap->α},(∀b∈D,b<lim)->overR A k1 h D k=k (over k1 h D)
 |[],h,k,_=>rfl
 | b :: D, h, k, hD => by
  have e:overR A k1 h (b::D) k=getR k1 b fun o=>(match o with
   |some x=>putBR A h b x fun h=>overR A k1 h D k
   |none=>overR A k1 h D k):=rfl
  rw[e,Qbd]
  simp only[over]
  cases k1.get b with
  |none=>exact Qeg fun b hb=>hD b (by simp[hb])
  |some x=>
   simp only
   rw[Qbi,if_pos (hD b (by simp))]
   exact Qeg fun b hb=>hD b (by simp[hb])
def frR (A:Ans α) (call:CallerA α) (f:Nat) (asg:List AV) (h:Heap) (n:Nat) (k:AV->Heap->Nat->FP->α):α:=
 fNats (refsL asg []) fun todo=>closR h 100000 todo [] fun B=>ifB (allLim B&&inBs B asg&&B.all fun b=>blkIn B (h.get b)) (overR A h .e B fun hB=>call (.fr hB) f asg h n fun v k1 n2=>
  domK k1 1 0 [] fun D=>ifB (allLim D&&(D.all fun b=>hasB B b||(h.get b).isNone)&&(B.all fun b=>hasB D b)&&D.all fun b=>(k1.get b).isSome) (overR A k1 h D fun h1=>fNats (D.filter fun b=> !eqBlk (k1.get b) (h.get b)) fun W=>k v h1 n2 ⟨false,D,W⟩) A.bad) A.bad
def callRG (A:Ans α) (call:CallerA α) (p:Nat) (i:Nat) (x:Opd) (args:List Opd) (T:Tmps) (h:Heap) (n:Nat) (k:AV->Heap->Nat->FP->α):α:=
 evK T x fun f=>(match f with
  | .fn f first captured=>evsK T args fun asg=>fList (first++asg++captured) fun asg=>ifB (noRefs asg) (newR A call f asg asg true [] i h n k) (match p with
   |0=>frR A call f asg h n k
   |_=>runR A (mapH (frzH 4) asg) h fun bsg _=>newR A call f asg bsg false ((mapH (frzH 4) asg).fp h).1 i h n k)
  |_=>A.bad)
def operRG (A:Ans α) (call:CallerA α) (p:Nat) (i:Nat) (s:SOper) (T:Tmps) (h:Heap) (n:Nat) (k:AV->Heap->Nat->FP->α):α:=
 match p,s.op with
 | p + 1, .call .heap x args => (match s.guard with
  |none=>callRG A call p i x args T h n k
  |some (g,want)=>lkK T g fun y=>(match y with
   | .bool b=>ifB want (ifB b (callRG A call p i x args T h n k) (k (.tup []) h n ⟨false,[],[]⟩)) (ifB b (k (.tup []) h n ⟨false,[],[]⟩) (callRG A call p i x args T h n k))
   | .tup []=>k (.tup []) h n ⟨false,[],[]⟩
   |_=>A.bad))
 |_,_=>operR A call i s T h n fun v h1 n=>k v h1 n (operFP i s T h)
def FrOK (P:Program) (A:Ans α) (call:CallerA α):Prop:=∀(hB:Heap) (f:Nat) (args:List AV) (h:Heap) (n:Nat) (k:AV->Heap->Nat->α),
 A.holds (call (.fr hB) f args h n k)->∃v k1 n',A.holds (k v k1 n')/\HSpec P f args hB v k1
def NewOK (P:Program) (A:Ans α) (call:CallerA α):Prop:=∀(f:Nat) (args:List AV) (h:Heap) (n:Nat) (k:AV->Heap->Nat->α),noRefs args=true->
 A.holds (call .new f args h n k)->∃v h' n',A.holds (k v h' n')/\HSpec P f args .e v h'/\∀u hh,(frzH 6 v).run h'=some (u,hh)->noRef u=true->PSpec P f args u
section
variable {A:Ans α} (hA:A.OK) {call:CallerA α}
include hA
theorem Qgz (hnw:NewOK P A call) {f:Nat} {args asg:List AV} {same:Bool} {R:List Nat} {i:Nat} {h:Heap} {n:Nat} {k:AV->Heap->Nat->FP->α} (hs:same=true->asg=args)
  (hR:(asg=args/\R=[])\/((mapH (frzH 4) args).run h=some (asg,h)/\R=((mapH (frzH 4) args).fp h).1)) (hx:A.holds (newR A call f args asg same R i h n k)):
  ∃v h1 n' fp,A.holds (k v h1 n' fp)/\NStep P i f args h v h1 fp:=by
 unfold newR at hx
 rw[Qaq]at hx
 split at hx
 ·rename_i hn
  obtain⟨v,h',n',hk,hsp,hps⟩:=hnw _ _ _ _ _ hn hx
  have flat:∀u,A.holds (runR A (frzH 6 u) h' fun v _=>ifB (noRef v&&(flatV v||same)) (fAV v fun v=>k v h n ⟨false,R,[]⟩) A.bad)->u=v->∃v h1 n' fp,A.holds (k v h1 n' fp)/\NStep P i f args h v h1 fp:=by
   rintro u hx rfl
   rw[Qce]at hx
   split at hx
   ·rename_i v2 h2 hz
    rw[Qaq]at hx
    split at hx
    ·rename_i hc
     simp only[Bool.and_eq_true,Bool.or_eq_true]at hc
     rw[Qco]at hx
     exact⟨v2,h,n,_,hx,asg,R,hR,.inr ⟨hps _ _ hz hc.1,hc.2.imp id hs,rfl,rfl⟩⟩
    ·exact absurd hx hA.bad
   ·exact absurd hx hA.bad
  split at hk
  ·rename_i b g off len sz
   rw[Qbd]at hk
   split at hk
   ·rename_i g' cs hb
    rw[Qaq]at hk
    split at hk
    ·rename_i hc
     simp only[Bool.and_eq_true]at hc
     obtain⟨⟨c1,c2⟩,c3⟩:=hc
     have hg:g'=g:=by simpa using c1
     subst hg
     have hl:i<lim:=Nat.le_of_ble_eq_true c3
     rw[QfR,Qaq]at hk
     split at hk
     ·rename_i hc2
      simp only[Bool.or_eq_true,Bool.and_eq_true]at hc2
      rw[Qbd]at hk
      split at hk
      ·rename_i hi
       rw[Qbi,if_pos hl]at hk
       exact⟨_,_,_,_,hk,asg,R,hR,.inl ⟨cs.drop off,len,sz,⟨hsp.1,hn,b,g',off,cs,h',rfl,Nat.le_of_ble_eq_true c2,hb,hsp⟩,hc2.imp id (fun h=>⟨h.1,hs h.2⟩),hl,hi,rfl,rfl,rfl⟩⟩
      ·exact absurd hk hA.bad
     ·exact absurd hk hA.bad
    ·exact absurd hk hA.bad
   ·exact absurd hk hA.bad
  ·exact flat _ hk rfl
 ·exact absurd hx hA.bad
end
section
variable {A:Ans α} (hA:A.OK) {call:CallerA α}
include hA
theorem QmA (hfr:FrOK P A call) {f:Nat} {asg:List AV} {h:Heap} {n:Nat} {k:AV->Heap->Nat->FP->α} (hx:A.holds (frR A call f asg h n k)):
  ∃v h1 n' fp,A.holds (k v h1 n' fp)/\FStep P f asg h v h1 fp:=by
 unfold frR at hx
 rw[QfS]at hx
 obtain⟨B,e⟩:=QfT (α:=α) h 100000 (refsL asg []) [] (fun B=>ifB (allLim B&&inBs B asg&&B.all fun b=>blkIn B (h.get b)) (overR A h .e B fun hB=>call (.fr hB) f asg h n fun v k1 n2=>
  domK k1 1 0 [] fun D=>ifB (allLim D&&(D.all fun b=>hasB B b||(h.get b).isNone)&&(B.all fun b=>hasB D b)&&D.all fun b=>(k1.get b).isSome) (overR A k1 h D fun h1=>fNats (D.filter fun b=> !eqBlk (k1.get b) (h.get b)) fun W=>k v h1 n2 ⟨false,D,W⟩) A.bad) A.bad)
 rw[e,Qaq]at hx
 clear e
 split at hx
 ·rename_i hc
  simp only[Bool.and_eq_true]at hc
  obtain⟨⟨c1,c2⟩,c3⟩:=hc
  rw[Qeg fun b hb=>QcN c1 hb]at hx
  obtain⟨v,k1,n',hk,hs⟩:=hfr _ _ _ _ _ _ hx
  rw[QgS,Qaq]at hk
  split at hk
  ·rename_i hd
   simp only[Bool.and_eq_true]at hd
   obtain⟨⟨⟨d1,d2⟩,d3⟩,d4⟩:=hd
   rw[Qeg fun b hb=>QcN d1 hb,QfS]at hk
   refine⟨v,_,n',_,hk,B,domL k1 1 0 [],_,k1,c1,d1,c2,fun b hb=>List.all_eq_true.1 c3 b hb,hs,fun b hb e=>?_,fun b hb=>?_,fun b hb=>Qcx.1 (List.all_eq_true.1 d3 b hb),fun b hb hB=>?_,fun b hb hW=>?_,fun b hb=>(List.mem_filter.1 hb).1,rfl,rfl⟩
   ·have := List.all_eq_true.1 d4 b hb
    rw[e]at this;cases this
   ·have := QfU k1 1 0 [] b hb
    simpa using this
   ·have := List.all_eq_true.1 d2 b hb
    simp only[Bool.or_eq_true,Qcx]at this
    have:=this.resolve_left hB
    simpa using this
   ·refine Qm9 ?_
    cases e:eqBlk (k1.get b) (h.get b)with
    |true=>rfl
    |false=>exact absurd (List.mem_filter.2 ⟨hb,by rw[e];rfl⟩) hW
  ·exact absurd hk hA.bad
 ·exact absurd hx hA.bad
end
section
variable {A:Ans α} (hA:A.OK) {call:CallerA α} (hc:CallOKA P A call) (hrn:RndOK P A call) (hgv:FrOK P A call) (hnw:NewOK P A call)
include hA hc hrn hgv hnw
theorem QeT {p:Nat} {i:Nat} {x:Opd} {args:List Opd} {T:Tmps} {h:Heap} {n:Nat} {k:AV->Heap->Nat->FP->α} (hx:A.holds (callRG A call p i x args T h n k)):
  ∃v h1 n' f,A.holds (k v h1 n' f)/\StepX P i (.call .heap x args) T h v h1 f:=by
 unfold callRG at hx
 rw[QaX]at hx
 split at hx
 ·rename_i f first captured hv
  rw[QgR,Qb3,Qaq]at hx
  have e:aop i T (.call .heap x args)=aCall .heap (ev T x) (evs T args):=rfl
  have hrun:(aop i T (.call .heap x args)).run h=some (.call .heap f (first++evs T args++captured),h):=by rw[e,hv];rfl
  have step:∀{v:AV} {h1:Heap} {fp:FP},NStep P i f (first++evs T args++captured) h v h1 fp->StepX P i (.call .heap x args) T h v h1 fp:=by
   intro v h1 fp hN
   exact⟨.call .heap f (first++evs T args++captured),h,hrun,.inr (.inr (.inl hN))⟩
  split at hx
  ·obtain ⟨v, h1, n', fp, hk, hN⟩ := Qgz hA hnw (fun _ => rfl) (.inl ⟨rfl, rfl⟩) hx
   exact⟨v,h1,n',fp,hk,step hN⟩
  ·split at hx
   ·obtain ⟨v, h1, n', fp, hk, hN⟩ := QmA hA hgv hx
    exact⟨v,h1,n',fp,hk,.call .heap f (first++evs T args++captured),h,hrun,.inr (.inr (.inr hN))⟩
   ·rw [Qce] at hx
    split at hx
    ·rename_i bsg h2 hm
     have:h2=h:=HM.QlK _ (Qb7 (Qdc 4) _) hm
     subst this
     obtain⟨v,h1,n',fp,hk,hN⟩:=Qgz hA hnw (fun e=>by cases e) (.inr ⟨hm,rfl⟩) hx
     exact⟨v,h1,n',fp,hk,step hN⟩
    ·exact absurd hx hA.bad
 ·exact absurd hx hA.bad
theorem Qji {p:Nat} {i:Nat} {s:SOper} {T:Tmps} {h:Heap} {n:Nat} {k:AV->Heap->Nat->FP->α} (hx:A.holds (operRG A call p i s T h n k)):
  ∃v h1 n' f,A.holds (k v h1 n' f)/\StepV P i s T h v h1 f:=by
 have dflt:A.holds (operR A call i s T h n fun v h1 n=>k v h1 n (operFP i s T h))->∃v h1 n' f,A.holds (k v h1 n' f)/\StepV P i s T h v h1 f:=by
  intro hx
  obtain⟨v,h1,n',hk,hs⟩:=Qfu hA hc hrn hx
  exact⟨v,h1,n',_,hk,hs⟩
 unfold operRG at hx
 split at hx
 ·rename_i p x args ho
  unfold StepV
  cases hg:s.guard with
  |none=>
   rw[hg]at hx
   simp only at hx⊢
   rw[ho]
   exact QeT hA hc hrn hgv hnw hx
  | some q =>
   obtain⟨g,want⟩:=q
   rw[hg]at hx
   simp only[QdT]at hx⊢
   rw[ho]
   split at hx
   ·rename_i b hb
    rw[hb]
    have run:A.holds (callRG A call p i x args T h n k)->b=want->∃v h1 n' f,A.holds (k v h1 n' f)/\∃b',wantedA (.bool b) want=some b'/\if b'=true then StepX P i (.call .heap x args) T h v h1 f else(v= .tup []/\h1=h/\f=⟨false,[],[]⟩):=by
     intro hx2 e
     obtain⟨v,h1,n',f,hk,hs⟩:=QeT hA hc hrn hgv hnw hx2
     subst e
     exact⟨v,h1,n',f,hk,true,by simp[wantedA],by simpa using hs⟩
    have skip:A.holds (k (.tup []) h n ⟨false,[],[]⟩)->b≠want->∃v h1 n' f,A.holds (k v h1 n' f)/\∃b',wantedA (.bool b) want=some b'/\if b'=true then StepX P i (.call .heap x args) T h v h1 f else(v= .tup []/\h1=h/\f=⟨false,[],[]⟩):=by
     intro hx2 e
     have e':(b==want)=false:=by simpa using e
     exact⟨.tup [],h,n,_,hx2,false,by simp[wantedA,e'],by simp⟩
    simp only[Qaq]at hx
    cases want<;>cases b<;>simp only[Bool.false_eq_true,if_true,if_false]at hx
    ·exact run hx rfl
    ·exact skip hx (by simp)
    ·exact skip hx (by simp)
    ·exact run hx rfl
   ·rename_i hb
    rw[hb]
    exact⟨.tup [],h,n,_,hx,false,by simp[wantedA],by simp⟩
   ·exact absurd hx hA.bad
 ·exact dflt hx
end
def opsR (A:Ans α) (call:CallerA α) (ops:List FOp) (j:Nat) (T:Tmps) (h:Heap) (n:Nat) (k:Tmps->Heap->Nat->α):α:=
 @List.rec FOp (fun _ => Nat -> Tmps -> Heap -> Nat -> α) (fun _ T h n => k T h n)
  (fun s _ ih j T h n=>operR A call j s.o T h n fun v h n=>putS s.nw T s.o.dst v fun T=>fNat (Nat.succ j) fun j=>ih j T h n) ops j T h n
def pmark (ps:List (Nat×Nat)) (i:Nat):Nat:=
 ifB (ps.any fun p=>Nat.beq p.1 i&&Nat.beq p.2 999999) 2 (ifB (ps.any fun p=>Nat.beq p.1 i||Nat.beq p.2 i) 1 0)
def opsRF (A:Ans α) (call:CallerA α) (ps:List (Nat×Nat)) (ops:List FOp) (i j:Nat) (T:Tmps) (h:Heap) (n:Nat) (k:List FP->Tmps->Heap->Nat->α):α:=
 @List.rec FOp (fun _ => Nat -> Nat -> Tmps -> Heap -> Nat -> (List FP -> Tmps -> Heap -> Nat -> α) -> α) (fun _ _ T h n k => k [] T h n)
  (fun s _ ih i j T h n k=>operRG A call (pmark ps i) j s.o T h n fun v h1 n f=>putS s.nw T s.o.dst v fun T1=>fNat (Nat.succ j) fun j1=>fNat (Nat.succ i) fun i1=>ih i1 j1 T1 h1 n fun fs=>k (f::fs)) ops i j T h n k
theorem Qfv {i:Nat} {s:SOp} {T T':Tmps} {h:Heap} {v:AV} {h1:Heap} {f:FP} (e:∀j,lk T j=lk T' j) (hs:StepX P i s T h v h1 f):StepX P i s T' h v h1 f:=by
 unfold StepX at hs⊢
 rw[<-Qhe (i:=i) (s:=s) (fun j _=>e j)]
 exact hs
theorem QdI {i:Nat} {s:SOper} {T T':Tmps} {h:Heap} {v:AV} {h1:Heap} {f:FP} (e:∀j,lk T j=lk T' j) (hs:StepV P i s T h v h1 f):StepV P i s T' h v h1 f:=by
 unfold StepV at hs⊢
 split
 ·rename_i hg;rw[hg]at hs;exact Qfv e hs
 ·rename_i g want hg
  rw[hg]at hs
  obtain⟨b,hb,h2⟩:=hs
  refine⟨b,by rw[<-e];exact hb,?_⟩
  split
  ·rename_i hb';rw[if_pos hb']at h2;exact Qfv e h2
  ·rename_i hb';rw[if_neg hb']at h2;exact h2
section
variable {A:Ans α} (hA:A.OK) {call:CallerA α} (hc:CallOKA P A call) (hrn:RndOK P A call)
include hA hc hrn
theorem QcV {base:Nat} {k:Tmps->Heap->Nat->α}:∀(r:List FOp) (i:Nat) (T T0:Tmps) (h:Heap) (n:Nat),(∀j,lk T j=lk T0 j)->A.holds (opsR A call r (base+i) T h n k)->
  ∃T' T0' h' n' fs,A.holds (k T' h' n')/\(∀j,lk T' j=lk T0' j)/\RunF P base i (r.map FOp.o) fs ⟨T0,h⟩ ⟨T0',h'⟩
 |[],i,T,T0,h,n,e,hx=>⟨T,T0,h,n,[],hx,e,rfl,rfl⟩
 | s :: r, i, T, T0, h, n, e, hx => by
  have hx:A.holds (operR A call (base+i) s.o T h n fun v h n=>putS s.nw T s.o.dst v fun T=>fNat (Nat.succ (base+i)) fun j=>opsR A call r j T h n k):=hx
  obtain⟨v,h1,n1,hk,hs⟩:=Qfu hA hc hrn hx
  obtain⟨T1,hT1,e1⟩:=QhW s.nw T s.o.dst v (fun T=>fNat (Nat.succ (base+i)) fun j=>opsR A call r j T h1 n1 k)
  rw[hT1,Qa5]at hk
  have e2:∀j,lk T1 j=lk (putD T0 s.o.dst v) j:=by
   intro j
   rw[e1,Qbh,Qbh,e]
  obtain⟨T',T0',h',n',fs,h2,h3,h4⟩:=QcV (base:=base) r (i+1) T1 (putD T0 s.o.dst v) h1 n1 e2 hk
  exact⟨T',T0',h',n',_::fs,h2,h3,_,fs,v,h1,rfl,QdI e hs,h4⟩
omit hc hrn in
theorem Qfw (hc:CallOKA P A call) (hrn:RndOK P A call) (hgv:FrOK P A call) (hnw:NewOK P A call) {ps:List (Nat×Nat)} {base:Nat}:∀(r:List FOp) (i:Nat) (T T0:Tmps) (h:Heap) (n:Nat) (k:List FP->Tmps->Heap->Nat->α),(∀j,lk T j=lk T0 j)->A.holds (opsRF A call ps r i (base+i) T h n k)->
  ∃T' T0' h' n' fs,A.holds (k fs T' h' n')/\(∀j,lk T' j=lk T0' j)/\RunF P base i (r.map FOp.o) fs ⟨T0,h⟩ ⟨T0',h'⟩
 |[],i,T,T0,h,n,k,e,hx=>⟨T,T0,h,n,[],hx,e,rfl,rfl⟩
 | s :: r, i, T, T0, h, n, k, e, hx => by
  have hx:A.holds (operRG A call (pmark ps i) (base+i) s.o T h n fun v h1 n f=>putS s.nw T s.o.dst v fun T1=>fNat (Nat.succ (base+i)) fun j1=>fNat (Nat.succ i) fun i1=>opsRF A call ps r i1 j1 T1 h1 n fun fs=>k (f::fs)):=hx
  obtain⟨v,h1,n1,f,hk,hs⟩:=Qji hA hc hrn hgv hnw hx
  obtain⟨T1,hT1,e1⟩:=QhW s.nw T s.o.dst v (fun T1=>fNat (Nat.succ (base+i)) fun j1=>fNat (Nat.succ i) fun i1=>opsRF A call ps r i1 j1 T1 h1 n1 fun fs=>k (f::fs))
  rw[hT1,Qa5,Qa5]at hk
  have e2:∀j,lk T1 j=lk (putD T0 s.o.dst v) j:=by
   intro j
   rw[e1,Qbh,Qbh,e]
  obtain⟨T',T0',h',n',fs,h2,h3,h4⟩:=Qfw hc hrn hgv hnw (base:=base) r (i+1) T1 (putD T0 s.o.dst v) h1 n1 _ e2 hk
  exact⟨T',T0',h',n',_::fs,h2,h3,_,fs,v,h1,rfl,QdI e hs,h4⟩
end
theorem W.regionS {N:Nat} {Q:SX->St->Prop} {A C:St} {sops:List SOper} {pairs:List (Nat×Nat)} {dead:List Nat} (base:Nat) (fs:List FP) (hr:RunF P base 0 sops fs A C)
  (hp:(pairs.all fun p=>(fs.getD p.1 ⟨false,[],[]⟩).apart (fs.getD p.2 ⟨false,[],[]⟩))=true) {L:Tmps} (hL:Sub L C.T) (hQ:Q .normal ⟨L,C.h⟩):W P N (.region sops pairs dead) Q A:=by
 have h1:=RunF.to_L (P:=P) (base:=base) (sops:=sops) sops [] fs [] A C (by simp) rfl hr
 intro code hok c a w S ro hro Q' hQ'
 cases code<;>simp only[okCode,Bool.false_eq_true]at hok
 refine QeD hok (base:=base) (fpf:=fun i=>fs.getD i ⟨false,[],[]⟩) (by simpa[List.range_eq_range']using h1) ?_ S fun c' a' w' S' E'=>hQ' .normal _ c' a' w' hQ ?_ E'
 ·intro p hpm
  exact List.all_eq_true.1 hp p hpm
 ·refine ⟨S'.heap, fun i => ?_, S'.size, S'.defers⟩
  rcases hL i with e|e
  ·show VRel c' w' (lk L i) _
   rw[e];simp[VRel]
  ·show VRel c' w' (lk L i) _
   rw[e];exact S'.tmps i
def argR (i:Nat) (l:List AV) (k:Tmps->α):α:=
 @List.rec AV (fun _=>Nat->(Tmps->α)->α) (fun _ k=>k []) (fun x _ ih i k=>fNat (Nat.succ i) fun j=>ih j fun r=>k ((i,x)::r)) l i k
theorem QgT (i:Nat) (l:List AV) (k:Tmps->α):argR i l k=k (argT i l):=by
 induction l generalizing i k with
 |nil=>rfl
 |cons x r ih=>
  show fNat (Nat.succ i) (fun j=>argR j r fun r=>k ((i,x)::r))=_
  rw[Qa5,ih];rfl
def resR (A:Ans α) (T:Tmps) (h:Heap) (l:List SRes) (k:List AV->α):α:=
 @List.rec SRes (fun _ => (List AV -> α) -> α) (fun k => k []) (fun x _ ih k => (match x with
  | .tmp t=>lkK T t fun v=>ih fun vs=>k (v::vs)
  | .cell a m=>lkK T a fun p=>loadR A m p h fun v=>ih fun vs=>k (v::vs))) l k
theorem QgU (A:Ans α) (T:Tmps) (h:Heap) (l:List SRes) (k:List AV->α):resR A T h l k=match resV T h l with|some vs=>k vs|none=>A.bad:=by
 have:∀(l:List SRes) (k:List AV->α),resR A T h l k=match resV T h l with|some vs=>k vs|none=>A.bad:=by
  intro l
  induction l with
  |nil=>intro k;rfl
  | cons x r ih =>
   intro k
   cases x with
   |tmp t=>
    show lkK T t (fun v=>resR A T h r fun vs=>k (v::vs))=_
    rw[QdT,ih]
    simp only[resV]
    cases resV T h r<;>rfl
   | cell a m =>
    show lkK T a (fun p=>loadR A m p h fun v=>resR A T h r fun vs=>k (v::vs))=_
    rw[QdT,Qjg]
    simp only[resV]
    cases(aLoad m (lk T a)).run h with
    |none=>rfl
    |some q=>
     obtain⟨v,h'⟩:=q
     simp only
     rw[ih]
     cases resV T h r<;>rfl
 exact this l k
abbrev Orc:=Nat->Option (List AV×AV)
def bodyR (A:Ans α) (sf:FFn) (run:FCode->Tmps->Heap->Nat->KcA α->α) (args:List AV) (h:Heap) (n:Nat) (k:AV->Heap->Nat->α):α:=
 argR 0 args fun T=>run sf.body T h n fun e T h n=>(match e with
  | .exit _=>A.bad
  |_=>resR A T h sf.res fun vs=>fAV (resOf vs) fun v=>k v h n)
def upsR (T:Tmps) (ps:List Nat) (xs:List AV) (k:Tmps->α):α:=
 match ps,xs with
 |p::ps,x::xs=>upR T p x fun T=>upsR T ps xs k
 |_,_=>k T
theorem QkK:∀(ps:List Nat) (xs:List AV) (T:Tmps) (k:Tmps->α),upsR T ps xs k=k (upsT T ps xs)
 |[],xs,T,k=>by cases xs<;>rfl
 |p::ps,[],T,k=>rfl
 |p::ps,x::xs,T,k=>by
  show upR T p x (fun T=>upsR T ps xs k)=_
  rw[Qcp,QkK ps xs];rfl
def rndR (A : Ans α) (run : FCode -> Tmps -> Heap -> Nat -> KcA α -> α) (g b : Nat) (args : List AV) (h : Heap) (n : Nat) (k : AV -> Heap -> Nat -> α) : α :=
 getR h b fun o => (match o with
  | some (.loop g' N T ps (.f asg) (.f body) .ready) => ifB (Nat.beq g' g && Nat.ble (Nat.succ b) lim && Nat.beq args.length ps.length && ps.all fun p => Nat.ble (Nat.succ p) N)
    (upsR T ps args fun T1 => run asg T1 h n fun e T2 h2 n2 => (match e with
     | .normal => getR h2 b fun o2 => (match o2 with
      |some (.loop g2 N2 T2' ps2 as2 body2 .ready)=>ifB (Nat.beq g2 g) (putBR A h2 b (.loop g N2 T2' ps2 as2 body2 .busy) fun h3=>run body T2 h3 n2 fun e T4 h4 n4=>getR h4 b fun o4=>(match o4 with
       | some (.loop g4 N4 T4' ps4 as4 body4 .busy) => ifB (Nat.beq g4 g) (match e with
         | .normal=>putBR A h4 b (.loop g N4 T4' ps4 as4 body4 .ready) fun h5=>k (.bool true) h5 n4
         |e=>putBR A h4 b (.loop g N4 T4' ps4 as4 body4 (.done e)) fun h5=>k (.bool false) h5 n4) A.bad
       |_=>A.bad)) A.bad
      |_=>A.bad)
     |_=>A.bad)) A.bad
  |_=>A.bad)
def callR (A : Ans α) (orc : Orc) (fns : Nat -> Option FFn) (run : FCode -> Tmps -> Heap -> Nat -> KcA α -> α) : CallerA α := fun cm f args h n k =>
 match cm with
 | .rnd g=>rndR A run g f args h n k
 | .new => match orc f with
  |some _=>A.bad
  |none=>match fns f with
   |none=>A.bad
   |some sf=>ifB (Nat.ble args.length sf.n) (bodyR A sf run args .e 64 k) A.bad
 | .fr hB => match orc f with
  |some _=>A.bad
  |none=>match fns f with
   |none=>A.bad
   |some sf=>ifB (Nat.ble args.length sf.n) (bodyR A sf run args hB n k) A.bad
 | .give b g xs => match orc f with
  |some _=>A.bad
  |none=>match fns f with
   |none=>A.bad
   |some sf=>ifB (Nat.ble args.length sf.n) (bodyR A sf run args (one b (.cells g xs)) n fun v h' _=>runR A (frzH 6 v) h' fun v _=>ifB (noRef v) (fAV v fun v=>k v h n) A.bad) A.bad
 | .c m => match orc f with
  |some (asg,v)=>(match m with
   | .heap=>A.bad
   |_=>A.asm args asg (k v h n))
  | none => match fns f with
   |none=>A.bad
   |some sf=>ifB (Nat.ble args.length sf.n) (match m with
    | .heap=>bodyR A sf run args h n k
    |_=>ifB (noRefs args) (bodyR A sf run args .e 64 fun v h' _=>runR A (frzH 6 v) h' fun v _=>ifB (noRef v) (fAV v fun v=>k v h n) A.bad) A.bad) A.bad
theorem W.Qjj {N:Nat} {sc:SCode} {e0:SX} {T':Tmps} {h':Heap} {A:St} (h:W P N sc (fun e B=>e=e0/\B.h=h'/\Sub T' B.T) A):W P N sc (fun e B=>e=e0/\B=⟨T',h'⟩) A:=by
 intro code hok c a w S ro hro Q' hQ
 refine h code hok c a w S ro hro Q' ?_
 rintro e B c' a' w' ⟨rfl,rfl,hs⟩ S' E'
 refine hQ e ⟨T',B.h⟩ c' a' w' ⟨rfl,rfl⟩ ⟨S'.heap,fun i=>?_,S'.size,S'.defers⟩ E'
 rcases hs i with e|e
 ·show VRel c' w' (lk T' i) _
  rw[e];simp[VRel]
 ·show VRel c' w' (lk T' i) _
  rw[e];exact S'.tmps i
def ml1 (e:SX) (b1 b2:Nat) (J:Prop) (X:SX->Prop):Prop:=
 match e with
 | .normal=>J
 | .exit j=>if j=b2 then J else if j=b1 then X .normal else X (.exit j)
 | .ret=>X .ret
theorem RunF.congr {base:Nat}:∀{r:List SOper} {i:Nat} {fs:List FP} {T T':Tmps} {h:Heap} {C:St},RunF P base i r fs ⟨T,h⟩ C->(∀j,lk T j=lk T' j)->
  ∃D:St,RunF P base i r fs ⟨T',h⟩ D/\D.h=C.h/\∀j,lk C.T j=lk D.T j
 |[],i,fs,T,T',h,C,hr,e=>by
  obtain⟨rfl,rfl⟩:=hr
  exact⟨⟨T',h⟩,⟨rfl,rfl⟩,rfl,e⟩
 |s::r,i,fs,T,T',h,C,hr,e=>by
  obtain⟨f,fs',v,h1,rfl,hs,hr⟩:=hr
  obtain⟨D,hD,e1,e2⟩:=RunF.congr hr (T':=putD T' s.dst v) (fun j=>by rw[Qbh,Qbh,e])
  exact⟨D,⟨f,fs',v,h1,rfl,QdI e hs,hD⟩,e1,e2⟩
theorem QbI {X Y:Tmps} {i:Nat} {v:AV} (h:∀j,lk X j=lk Y j):∀j,lk (up X i v) j=lk (up Y i v) j:=by
 intro j
 rw[lk_up,lk_up,h]
def mlEnd (A:Ans α) (it nx ok n mb mg:Nat) (T:Tmps) (h:Heap) (k:Tmps->α):α:=
 lkK T it fun p=>(match p with
  | .ptr a 0 0=>ifB (Nat.beq a n) (getR h mb fun o=>(match o with
   |some (.map g es)=>ifB (Nat.beq g mg&&Nat.beq es.length 1) (upR T nx .any fun T=>upR T ok (.bool false) fun T=>k T) A.bad
   |_=>A.bad)) A.bad
  |_=>A.bad)
theorem QjY {A:Ans α} (hA:A.OK) {it nx ok n mb mg:Nat} {T:Tmps} {h:Heap} {k:Tmps->α} (hx:A.holds (mlEnd A it nx ok n mb mg T h k)):
  lk T it= .ptr n 0 0/\(∃es,h.get mb=some (.map mg es)/\es.length=1)/\A.holds (k (up (up T nx .any) ok (.bool false))):=by
 unfold mlEnd at hx
 rw[QdT]at hx
 split at hx
 ·rename_i a hp
  rw[Qaq]at hx
  split at hx
  ·rename_i ha
   have:a=n:=by simpa using ha
   subst this
   rw[Qbd]at hx
   split at hx
   ·rename_i g es hg
    rw[Qaq]at hx
    split at hx
    ·rename_i hc
     simp only[Bool.and_eq_true]at hc
     have hgm:g=mg:=by simpa using hc.1
     subst hgm
     rw[Qcp,Qcp]at hx
     exact⟨hp,⟨es,hg,by simpa using hc.2⟩,hx⟩
    ·exact absurd hx hA.bad
   ·exact absurd hx hA.bad
  ·exact absurd hx hA.bad
 ·exact absurd hx hA.bad
def exR (A : Ans α) (orc : Orc) (fns : Nat -> Option FFn) (d : Nat) : FCode -> Tmps -> Heap -> Nat -> KcA α -> α :=
 @Nat.rec (fun _ => FCode -> Tmps -> Heap -> Nat -> KcA α -> α) (fun _ _ _ _ _ => A.bad) (fun _ ih c T h n k =>
  match c with
  | .skip=>k .normal T h n
  | .ret=>k .ret T h n
  | .exit i=>k (.exit i) T h n
  | .bad=>A.bad
  | .region ops [] dead=>opsR A (callR A orc fns ih) ops n T h (Nat.add n 64) fun T h n=>rmR dead T fun T=>fNat n fun n=>k .normal T h n
  | .region ops (p :: ps) dead => opsRF A (callR A orc fns ih) (p :: ps) ops 0 n T h (Nat.add n 64) fun fs T h n =>
    ifB ((p::ps).all fun p=>(fs.getD p.1 ⟨false,[],[]⟩).apart (fs.getD p.2 ⟨false,[],[]⟩)) (rmR dead T fun T=>fNat n fun n=>k .normal T h n) A.bad
  | .seq a b=>ih a T h n fun e T h n=>(match e with
   | .normal=>ih b T h n k
   |e=>k e T h n)
  | .cond x a b=>evK T x fun v=>(match v with
   | .bool t=>ifB t (ih a T h n k) (ih b T h n k)
   |_=>A.bad)
  | .block i b=>ih b T h n fun e T h n=>(match e with
   | .exit j=>ifB (Nat.beq j i) (k .normal T h n) (k (.exit j) T h n)
   |e=>k e T h n)
  | .rfunc g ps N asg body => evK T g fun v => (match v with
   | .fn f first cap => getR h n fun o => (match o with
    | none => putBR A h n (.loop 0 N T ps (.f asg) (.f body) .ready) fun h1 => fList (first ++ [.yld n 0] ++ cap) fun args => callR A orc fns ih (.c .heap) f args h1 (Nat.succ n) fun _ h2 n2 => getR h2 n fun o2 => (match o2 with
     |some (.loop 0 _ _ _ _ _ st)=>putBR A h2 n (.dead 0) fun h3=>(match st with
      | .ready=>k .normal T h3 n2
      | .busy=>A.bad
      | .done .normal=>A.bad
      | .done e=>k e T h3 n2)
     |_=>A.bad)
    |some _=>A.bad)
   |_=>A.bad)
  | .mloop pre x it nx ok en b1 b2 rest body => opsR A (callR A orc fns ih) pre n T h (Nat.add n 64) fun T h n => evK T x fun v => (match v with
   | .map mb mg => getR h mb fun o => (match o with
    | some (.map g es) => ifB (Nat.beq g mg) (getR h n fun o => (match o with
     |none=>putBR A h n (.dead 0) fun h=>upR T it (.ptr n 0 0) fun T=>upR T nx .any fun T=>(match es with
      |[]=>upR T ok (.bool false) fun T=>k .normal T h (Nat.succ n)
      | [(kk, vv)] => upR T ok (.bool true) fun T => upR T en (.tup [kk, vv]) fun T =>
        opsR A (callR A orc fns ih) rest (Nat.succ n) T h (Nat.add n 64) fun T h n2=>ih body T h n2 fun e T h n2=>(match e with
         | .normal=>mlEnd A it nx ok n mb mg T h fun T=>k .normal T h n2
         | .exit j=>ifB (Nat.beq j b2) (mlEnd A it nx ok n mb mg T h fun T=>k .normal T h n2) (ifB (Nat.beq j b1) (k .normal T h n2) (k (.exit j) T h n2))
         | .ret=>k .ret T h n2)
      |_=>A.bad)
     |some _=>A.bad)) A.bad
    |_=>A.bad)
   |_=>A.bad)
  | .loop b=>ih b T h n fun e T h n=>(match e with
   | .normal=>ih (.loop b) T h n k
   |e=>k e T h n)) d
def ExOKA (P:Program) (A:Ans α) (run:FCode->Tmps->Heap->Nat->KcA α->α):Prop:=∀(N:Nat) (c:FCode) (T:Tmps) (h:Heap) (n:Nat) (k:KcA α),A.holds (run c T h n k)->
 ∃e T' h' n',A.holds (k e T' h' n')/\WX P N c.slim (fun e' B=>e'=e/\B=⟨T',h'⟩) ⟨T,h⟩
section
variable {A:Ans α} (hA:A.OK) {orc:Orc} {fns:Nat->Option FFn}
include hA
theorem Qlp {run : FCode -> Tmps -> Heap -> Nat -> KcA α -> α} (hr : ExOKA P A run) : RndOK P A (callR A orc fns run) := by
 intro g b args h n k hx
 have hx:A.holds (rndR A run g b args h n k):=hx
 unfold rndR at hx
 rw[Qbd]at hx
 split at hx
 ·rename_i g' N T ps asg body hb
  rw[Qaq]at hx
  split at hx
  ·rename_i hc
   simp only[Bool.and_eq_true]at hc
   obtain⟨⟨⟨c1,c2⟩,c3⟩,c4⟩:=hc
   have hg:g'=g:=by simpa using c1
   subst hg
   have hl:b<lim:=Nat.le_of_ble_eq_true c2
   have hlen:args.length=ps.length:=by simpa using c3
   have hps:∀p∈ps,p<N:=fun p hp=>Nat.le_of_ble_eq_true (List.all_eq_true.1 c4 p hp)
   rw[QkK]at hx
   obtain⟨e,T2,h2,n2,hk,hw,_⟩:=hr N _ _ _ _ _ hx
   cases e with
   |exit j=>exact absurd hk hA.bad
   |ret=>exact absurd hk hA.bad
   | normal =>
    simp only[Qbd]at hk
    split at hk
    ·rename_i g2 N2 T2' ps2 as2 body2 hb2
     rw[Qaq]at hk
     split at hk
     ·rename_i hg2
      have hg2:g2=g':=by simpa using hg2
      subst hg2
      rw[Qbi,if_pos hl]at hk
      obtain⟨e,T4,h4,n4,hk,hw2,_⟩:=hr N _ _ _ _ _ hk
      split at hk
      ·rename_i g4 N4 T4' ps4 as4 body4 hb4
       rw[Qaq]at hk
       split at hk
       ·rename_i hg4
        have hg4:g4=g2:=by simpa using hg4
        subst hg4
        have fin:∀e',e'=e->RSpec P b g4 args h (.bool e'.isNormal) (h4.set b (.loop g4 N4 T4' ps4 as4 body4 (stOf e'))):=by
         rintro e' rfl
         refine RSpec.of_W hb hl hlen hps (hw.mono ?_)
         rintro e0 B ⟨rfl,rfl⟩
         refine⟨rfl,N2,T2',ps2,as2,body2,hb2,hw2.mono ?_⟩
         rintro e1 C ⟨rfl,rfl⟩
         exact⟨N4,T4',ps4,as4,body4,hb4,rfl,fun _=>rfl⟩
        cases e with
        |normal=>simp only[Qbi,if_pos hl]at hk;exact⟨_,_,_,hk,fin _ rfl⟩
        |exit j=>simp only[Qbi,if_pos hl]at hk;exact⟨_,_,_,hk,fin _ rfl⟩
        |ret=>simp only[Qbi,if_pos hl]at hk;exact⟨_,_,_,hk,fin _ rfl⟩
       ·exact absurd hk hA.bad
      ·exact absurd hk hA.bad
     ·exact absurd hk hA.bad
    ·exact absurd hk hA.bad
  ·exact absurd hx hA.bad
 ·exact absurd hx hA.bad
end
def OrcOK (P:Program) (orc:Orc):Prop:=∀f asg v,orc f=some (asg,v)->PSpec P f asg v
section
variable {A:Ans α} (hA:A.OK) {orc:Orc} (ho:OrcOK P orc) {fns:Nat->Option FFn} (hf:∀f sf,fns f=some sf->okFn P f sf.slim=true)
include hA ho hf
theorem Qfx {run : FCode -> Tmps -> Heap -> Nat -> KcA α -> α} (hr : ExOKA P A run) : CallOKA P A (callR A orc fns run) := by
 intro m f args h n k hx
 unfold callR at hx
 simp only at hx
 cases hor:orc f with
 | some p =>
  obtain⟨asg,v⟩:=p
  rw[hor]at hx
  simp only at hx
  have hp:=ho f asg v hor
  cases m with
  |heap=>exact absurd hx hA.bad
  |pure=>
   obtain⟨e,hk⟩:=hA.asm _ _ _ hx
   exact⟨v,h,n,hk,fun e=>(by cases e),fun _=>by rw[e];exact hp⟩
  |borrow=>
   obtain⟨e,hk⟩:=hA.asm _ _ _ hx
   exact⟨v,h,n,hk,fun e=>(by cases e),fun _=>by rw[e];exact hp⟩
 | none =>
  rw[hor]at hx
  simp only at hx
  cases hs:fns f with
  |none=>rw[hs]at hx;exact absurd hx hA.bad
  | some sf =>
   rw[hs]at hx
   simp only[Qaq]at hx
   have hok:=hf f sf hs
   split at hx
   ·rename_i hl
    have hl:args.length<=sf.slim.n:=Nat.le_of_ble_eq_true hl
    have body:∀(h0:Heap) (n0:Nat) (k':AV->Heap->Nat->α),A.holds (bodyR A sf run args h0 n0 k')->
      ∃e T' h' n' vs,(e= .normal\/e= .ret)/\resV T' h' sf.res=some vs/\A.holds (k' (resOf vs) h' n')/\W P sf.slim.n sf.slim.body (fun e' B=>e'=e/\B=⟨T',h'⟩) ⟨argT 0 args,h0⟩:=by
     intro h0 n0 k' hx
     unfold bodyR at hx
     rw[QgT]at hx
     obtain⟨e,T',h',n',hk,hw,_⟩:=hr sf.slim.n _ _ _ _ _ hx
     have he:e= .normal\/e= .ret:=by cases e<;>first|(exact absurd hk hA.bad)|simp
     have hk:A.holds (resR A T' h' sf.res fun vs=>fAV (resOf vs) fun v=>k' v h' n'):=by rcases he with rfl|rfl<;>exact hk
     rw[QgU]at hk
     cases hv:resV T' h' sf.res with
     |none=>rw[hv]at hk;exact absurd hk hA.bad
     |some vs=>
      rw[hv]at hk
      simp only[Qco]at hk
      exact⟨e,T',h',n',vs,he,hv,hk,hw⟩
    have pureC:∀(K:AV->α),A.holds (if noRefs args=true then bodyR A sf run args .e 64 (fun v h' _=>runR A (frzH 6 v) h' fun v _=>if noRef v=true then fAV v fun v=>K v else A.bad)else A.bad)->∃v,A.holds (K v)/\PSpec P f args v:=by
     intro K hx
     split at hx
     ·rename_i ha
      obtain⟨e,T',h',n',vs,he,hv,hk,hw⟩:=body _ _ _ hx
      simp only[Qce]at hk
      split at hk
      ·rename_i v h2 hz
       split at hk
       ·rename_i hn
        rw[Qco]at hk
        refine⟨v,hk,PSpec.of_W 6 hok hl ha hn (hw.mono ?_)⟩
        rintro e' B ⟨rfl,rfl⟩
        exact⟨he,vs,hv,h2,hz⟩
       ·exact absurd hk hA.bad
      ·exact absurd hk hA.bad
     ·exact absurd hx hA.bad
    cases m with
    |heap=>
     obtain⟨e,T',h',n',vs,he,hv,hk,hw⟩:=body _ _ _ hx
     refine⟨_,h',n',hk,fun _=>HSpec.of_W hok hl (hw.mono ?_),fun h=>absurd rfl h⟩
     rintro e' B ⟨rfl,rfl⟩
     exact⟨he,vs,hv,rfl,fun _=>rfl⟩
    |pure=>
     obtain⟨v,hk,hp⟩:=pureC (fun v=>k v h n) hx
     exact⟨v,h,n,hk,fun h=>(by cases h),fun _=>hp⟩
    |borrow=>
     obtain⟨v,hk,hp⟩:=pureC (fun v=>k v h n) hx
     exact⟨v,h,n,hk,fun h=>(by cases h),fun _=>hp⟩
   ·exact absurd hx hA.bad
omit ho in
theorem Qlq {run:FCode->Tmps->Heap->Nat->KcA α->α} (hr:ExOKA P A run):FrOK P A (callR A orc fns run):=by
 intro hB f args h n k hx
 unfold callR at hx
 simp only at hx
 cases hor:orc f with
 |some p=>rw[hor]at hx;exact absurd hx hA.bad
 | none =>
  rw[hor]at hx
  simp only at hx
  cases hs:fns f with
  |none=>rw[hs]at hx;exact absurd hx hA.bad
  | some sf =>
   rw[hs]at hx
   simp only[Qaq]at hx
   have hok:=hf f sf hs
   split at hx
   ·rename_i hl
    have hl:args.length<=sf.slim.n:=Nat.le_of_ble_eq_true hl
    unfold bodyR at hx
    rw[QgT]at hx
    obtain⟨e,T',h',n',hk,hw,_⟩:=hr sf.slim.n _ _ _ _ _ hx
    have he:e= .normal\/e= .ret:=by cases e<;>first|(exact absurd hk hA.bad)|simp
    have hk:A.holds (resR A T' h' sf.res fun vs=>fAV (resOf vs) fun v=>k v h' n'):=by rcases he with rfl|rfl<;>exact hk
    rw[QgU]at hk
    cases hv:resV T' h' sf.res with
    |none=>rw[hv]at hk;exact absurd hk hA.bad
    |some vs=>
     rw[hv]at hk
     simp only[Qco]at hk
     refine⟨_,h',n',hk,HSpec.of_W hok hl (hw.mono ?_)⟩
     rintro e' B ⟨rfl,rfl⟩
     exact⟨he,vs,hv,rfl,fun _=>rfl⟩
   ·exact absurd hx hA.bad
omit ho in
theorem QjZ {run:FCode->Tmps->Heap->Nat->KcA α->α} (hr:ExOKA P A run):NewOK P A (callR A orc fns run):=by
 intro f args h n k ha hx
 unfold callR at hx
 simp only at hx
 cases hor:orc f with
 |some p=>rw[hor]at hx;exact absurd hx hA.bad
 | none =>
  rw[hor]at hx
  simp only at hx
  cases hs:fns f with
  |none=>rw[hs]at hx;exact absurd hx hA.bad
  | some sf =>
   rw[hs]at hx
   simp only[Qaq]at hx
   have hok:=hf f sf hs
   split at hx
   ·rename_i hl
    have hl:args.length<=sf.slim.n:=Nat.le_of_ble_eq_true hl
    unfold bodyR at hx
    rw[QgT]at hx
    obtain⟨e,T',h',n',hk,hw,_⟩:=hr sf.slim.n _ _ _ _ _ hx
    have he:e= .normal\/e= .ret:=by cases e<;>first|(exact absurd hk hA.bad)|simp
    have hk:A.holds (resR A T' h' sf.res fun vs=>fAV (resOf vs) fun v=>k v h' n'):=by rcases he with rfl|rfl<;>exact hk
    rw[QgU]at hk
    cases hv:resV T' h' sf.res with
    |none=>rw[hv]at hk;exact absurd hk hA.bad
    | some vs =>
     rw[hv]at hk
     simp only[Qco]at hk
     refine⟨_,h',n',hk,HSpec.of_W hok hl (hw.mono ?_),fun u hh hz hn=>PSpec.of_W 6 hok hl ha hn (hw.mono ?_)⟩
     ·rintro e' B ⟨rfl, rfl⟩
      exact⟨he,vs,hv,rfl,fun _=>rfl⟩
     ·rintro e' B ⟨rfl, rfl⟩
      exact⟨he,vs,hv,hh,hz⟩
   ·exact absurd hx hA.bad
theorem QmB : ∀ d, ExOKA P A (exR A orc fns d) := by
 intro d
 induction d with
 |zero=>intro N c T h n k hx;exact absurd hx hA.bad
 | succ d ih =>
  have hc:=Qfx hA ho hf ih
  have hrn:=Qlp (orc:=orc) (fns:=fns) hA ih
  have hgv:=Qlq hA hf (orc:=orc) ih
  have hnw:=QjZ hA hf (orc:=orc) ih
  intro N c T h n k hx
  cases c with
  |skip=>exact⟨_,_,_,_,hx,.of (W.skip ⟨rfl,rfl⟩) (by simp[FCode.slim])⟩
  |ret=>exact⟨_,_,_,_,hx,.of (W.ret ⟨rfl,rfl⟩) (by simp[FCode.slim])⟩
  |exit i=>exact⟨_,_,_,_,hx,.of (W.exit ⟨rfl,rfl⟩) (by simp[FCode.slim])⟩
  |bad=>exact absurd hx hA.bad
  | region ops pairs dead =>
   cases pairs with
   |nil=>
    have hx:A.holds (opsR A (callR A orc fns (exR A orc fns d)) ops (n+0) T h (Nat.add n 64) fun T h n=>rmR dead T fun T=>fNat n fun n=>k .normal T h n):=hx
    obtain⟨T',T0,h',n',fs,hk,e,hr⟩:=QcV hA hc hrn ops 0 T T h (Nat.add n 64) (fun _=>rfl) hx
    rw[Qmx,Qa5]at hk
    refine⟨_,_,_,_,hk,.of (W.regionS n fs hr (by simp) (L:=rmM dead T') ?_ ⟨rfl,rfl⟩) (by simp[FCode.slim])⟩
    intro i
    rcases QkI dead T' i with h|h
    ·exact .inl h
    ·exact .inr (h.trans (e i))
   | cons p ps =>
    have hx:A.holds (opsRF A (callR A orc fns (exR A orc fns d)) (p::ps) ops 0 (n+0) T h (Nat.add n 64) fun fs T h n=>
     ifB ((p::ps).all fun p=>(fs.getD p.1 ⟨false,[],[]⟩).apart (fs.getD p.2 ⟨false,[],[]⟩)) (rmR dead T fun T=>fNat n fun n=>k .normal T h n) A.bad):=hx
    obtain⟨T',T0,h',n',fs,hk,e,hr⟩:=Qfw hA hc hrn hgv hnw ops 0 T T h (Nat.add n 64) _ (fun _=>rfl) hx
    rw[Qaq]at hk
    split at hk
    ·rename_i hp
     rw[Qmx,Qa5]at hk
     refine⟨_,_,_,_,hk,.of (W.regionS n fs hr hp (L:=rmM dead T') ?_ ⟨rfl,rfl⟩) (by simp[FCode.slim])⟩
     intro i
     rcases QkI dead T' i with h|h
     ·exact .inl h
     ·exact .inr (h.trans (e i))
    ·exact absurd hk hA.bad
  | seq a b =>
   obtain⟨e,T',h',n',hk,hw,_⟩:=ih N _ _ _ _ _ hx
   cases e with
   |normal=>
    obtain⟨e2,T2,h2,n2,hk2,hw2,_⟩:=ih N _ _ _ _ _ hk
    refine⟨e2,T2,h2,n2,hk2,.of (W.seq (hw.mono ?_)) (by simp[FCode.slim])⟩
    rintro e' B ⟨rfl,rfl⟩
    exact hw2
   |exit j=>
    refine⟨_,_,_,_,hk,.of (W.seq (hw.mono ?_)) (by simp[FCode.slim])⟩
    rintro e' B ⟨rfl,rfl⟩
    exact⟨rfl,rfl⟩
   |ret=>
    refine⟨_,_,_,_,hk,.of (W.seq (hw.mono ?_)) (by simp[FCode.slim])⟩
    rintro e' B ⟨rfl,rfl⟩
    exact⟨rfl,rfl⟩
  | cond x a b =>
   have hx:A.holds (evK T x fun v=>(match v with
    | .bool t=>ifB t (exR A orc fns d a T h n k) (exR A orc fns d b T h n k)
    |_=>A.bad)):=hx
   rw[QaX]at hx
   split at hx
   ·rename_i t hb
    rw[Qaq]at hx
    cases t with
    |true=>
     obtain⟨e,T',h',n',hk,hw,_⟩:=ih N _ _ _ _ _ hx
     exact⟨e,T',h',n',hk,.of (W.cond hb (fun _=>hw) (fun h=>by cases h)) (by simp[FCode.slim])⟩
    |false=>
     obtain⟨e,T',h',n',hk,hw,_⟩:=ih N _ _ _ _ _ hx
     exact⟨e,T',h',n',hk,.of (W.cond hb (fun h=>by cases h) (fun _=>hw)) (by simp[FCode.slim])⟩
   ·exact absurd hx hA.bad
  | block i b =>
   obtain⟨e,T',h',n',hk,hw,_⟩:=ih N _ _ _ _ _ hx
   cases e with
   |normal=>
    refine⟨_,_,_,_,hk,.of (W.block (hw.mono ?_)) (by simp[FCode.slim])⟩
    rintro e' B ⟨rfl,rfl⟩
    exact⟨rfl,rfl⟩
   |ret=>
    refine⟨_,_,_,_,hk,.of (W.block (hw.mono ?_)) (by simp[FCode.slim])⟩
    rintro e' B ⟨rfl,rfl⟩
    exact⟨rfl,rfl⟩
   | exit j =>
    simp only[Qaq]at hk
    split at hk
    ·rename_i hj
     have:j=i:=by simpa using hj
     refine⟨_,_,_,_,hk,.of (W.block (hw.mono ?_)) (by simp[FCode.slim])⟩
     rintro e' B ⟨rfl,rfl⟩
     simp[this]
    ·rename_i hj
     have:j≠i:=by rintro rfl;simp at hj
     refine⟨_,_,_,_,hk,.of (W.block (hw.mono ?_)) (by simp[FCode.slim])⟩
     rintro e' B ⟨rfl,rfl⟩
     simp[this]
  | rfunc g ps M asg body =>
   have hx:A.holds (evK T g fun v=>(match v with
   | .fn f first cap => getR h n fun o => (match o with
    | none => putBR A h n (.loop 0 M T ps (.f asg) (.f body) .ready) fun h1 => fList (first ++ [.yld n 0] ++ cap) fun args => callR A orc fns (exR A orc fns d) (.c .heap) f args h1 (Nat.succ n) fun _ h2 n2 => getR h2 n fun o2 => (match o2 with
     |some (.loop 0 _ _ _ _ _ st)=>putBR A h2 n (.dead 0) fun h3=>(match st with
      | .ready=>k .normal T h3 n2
      | .busy=>A.bad
      | .done .normal=>A.bad
      | .done e=>k e T h3 n2)
     |_=>A.bad)
    |some _=>A.bad)
   |_=>A.bad)):=hx
   rw[QaX]at hx
   split at hx
   ·rename_i f first cap hg
    rw[Qbd]at hx
    split at hx
    ·rename_i hn
     rw[Qbi]at hx
     split at hx
     ·rename_i hl
      simp only[Qb3]at hx
      obtain⟨v,h2,n2,hk,hs,_⟩:=hc _ _ _ _ _ _ hx
      rw[Qbd]at hk
      split at hk
      ·rename_i N2 T2 ps2 as2 body2 st hst
       rw[Qbi,if_pos hl]at hk
       have key:∀(e:SX),leftQ (fun e' B=>e'=e/\B=⟨T,h2.set n (.dead 0)⟩) ⟨T,h2.set n (.dead 0)⟩ st->WX P N (FCode.rfunc g ps M asg body).slim (fun e' B=>e'=e/\B=⟨T,h2.set n (.dead 0)⟩) ⟨T,h⟩:=by
        intro e hq
        refine .of ?_ (by simp[FCode.slim])
        show W P N (.rfunc g ps M asg.slim body.slim) _ _
        by_cases hNM:M=N
        ·subst hNM
         exact W.rfunc (.f asg) (.f body) rfl rfl hg hn hl (hs rfl) hst hq
        ·intro code hok
         cases code<;>simp only[okCode,Bool.false_eq_true,Bool.and_eq_true,beq_iff_eq,Bool.not_eq_true']at hok
         exact absurd hok.1.1.1.1.1.2 hNM
       split at hk
       ·exact⟨_,_,_,_,hk,key .normal ⟨rfl,rfl⟩⟩
       ·exact absurd hk hA.bad
       ·exact absurd hk hA.bad
       ·rename_i e he
        refine⟨_,_,_,_,hk,key e ⟨?_,rfl,rfl⟩⟩
        cases e<;>first|rfl|(exact absurd rfl he)
      ·exact absurd hk hA.bad
     ·exact absurd hx hA.bad
    ·exact absurd hx hA.bad
   ·exact absurd hx hA.bad
  | mloop pre x it nx ok en b1 b2 rest body =>
   have hx:A.holds (opsR A (callR A orc fns (exR A orc fns d)) pre (n+0) T h (Nat.add n 64) fun T h n=>evK T x fun v=>(match v with
   | .map mb mg => getR h mb fun o => (match o with
    | some (.map g es) => ifB (Nat.beq g mg) (getR h n fun o => (match o with
     |none=>putBR A h n (.dead 0) fun h=>upR T it (.ptr n 0 0) fun T=>upR T nx .any fun T=>(match es with
      |[]=>upR T ok (.bool false) fun T=>k .normal T h (Nat.succ n)
      | [(kk, vv)] => upR T ok (.bool true) fun T => upR T en (.tup [kk, vv]) fun T =>
        opsR A (callR A orc fns (exR A orc fns d)) rest (Nat.succ n+0) T h (Nat.add n 64) fun T h n2=>exR A orc fns d body T h n2 fun e T h n2=>(match e with
         | .normal=>mlEnd A it nx ok n mb mg T h fun T=>k .normal T h n2
         | .exit j=>ifB (Nat.beq j b2) (mlEnd A it nx ok n mb mg T h fun T=>k .normal T h n2) (ifB (Nat.beq j b1) (k .normal T h n2) (k (.exit j) T h n2))
         | .ret=>k .ret T h n2)
      |_=>A.bad)
     |some _=>A.bad)) A.bad
    |_=>A.bad)
   |_=>A.bad)):=hx
   obtain⟨T1,T0,h1,n1,fs1,hk,e1,hr1⟩:=QcV hA hc hrn pre 0 T T h (Nat.add n 64) (fun _=>rfl) hx
   rw[QaX]at hk
   have evc:∀y:Opd,ev T0 y=ev T1 y:=fun y=>(Qin fun i _=>e1 i).symm
   split at hk
   ·rename_i mb mg hxv
    rw[Qbd]at hk
    split at hk
    ·rename_i g es hg
     rw[Qaq]at hk
     split at hk
     ·rename_i hgm
      have hgm:g=mg:=by simpa using hgm
      subst hgm
      rw[Qbd]at hk
      split at hk
      ·rename_i hn
       rw[Qbi]at hk
       split at hk
       ·rename_i hl
        rw[Qcp,Qcp]at hk
        have hmb:(h1.set n1 (.dead 0)).get mb=some (.map g es):=by
         rw[Tr.QaB _ hl,if_neg (by rintro rfl;rw[hg]at hn;cases hn)];exact hg
        have hit:∀j,lk (up T0 it (.ptr n1 0 0)) j=lk (up T1 it (.ptr n1 0 0)) j:=QbI fun j=>(e1 j).symm
        split at hk
        ·-- nothing in it
         rw[Qcp]at hk
         refine⟨_,_,_,_,hk,.of (W.Qjj (W.mloop n fs1 hr1 (by rw[evc,hxv]) hg hn hl (fun vis B=>vis=[]/\B.h=h1.set n1 (.dead 0)/\∀j,lk B.T j=lk (up T1 it (.ptr n1 0 0)) j) ?_ ?_ ?_ ?_)) (by simp[FCode.slim])⟩
         ·rintro vis B ⟨rfl, hB, hT⟩
          refine⟨by rw[hT,lk_up,if_pos rfl],[],by rw[hB];exact hmb,rfl⟩
         ·exact⟨rfl,rfl,hit⟩
         ·rintro vis B i kk vv es' ⟨rfl, hB, hT⟩ _ hm' hi
          rw[hB,hmb]at hm';cases hm';simp at hi
         ·rintro vis B ⟨rfl, hB, hT⟩ _
          exact⟨rfl,hB,.of_eq fun i=>(QbI (QbI hT) i).symm⟩
        ·-- one entry
         rename_i kk vv
         rw[Qcp,Qcp]at hk
         obtain⟨T2,T20,h2,n2,fs2,hk2,e2,hr2⟩:=QcV hA hc hrn rest 0 _ (up (up (up (up T1 it (.ptr n1 0 0)) nx .any) ok (.bool true)) en (.tup [kk,vv])) _ _ (fun _=>rfl) hk
         obtain⟨e,T3,h3,n3,hk3,hw3,_⟩:=ih N _ _ _ _ _ hk2
         have walk:∀(Qb:SX->St->Prop) (BT:Tmps),(∀j,lk BT j=lk (up T1 it (.ptr n1 0 0)) j)->Qb e ⟨T3,h3⟩->
           ∃bs fs C,RunF P bs 0 (rest.map FOp.o) fs ⟨up (up (up BT nx .any) ok (.bool true)) en (.tup [kk,vv]),h1.set n1 (.dead 0)⟩ C/\W P N body.slim Qb C:=by
          intro Qb BT hBT hq
          obtain⟨D,hD,d1,d2⟩:=hr2.congr (T':=up (up (up BT nx .any) ok (.bool true)) en (.tup [kk,vv])) (QbI (QbI (QbI fun j=>(hBT j).symm)))
          refine⟨_,fs2,D,hD,W.congr (hw3.mono ?_) ⟨fun j=>?_,fun b=>?_⟩⟩
          ·rintro e' B ⟨rfl,rfl⟩;exact hq
          ·show lk D.T j = lk T2 j
           rw[<-d2,e2]
          ·rw[d1]
         have main : ∀ (e0 : SX) (T4 : Tmps) (h4 : Heap) (J : List Nat -> St -> Prop),
           (∀vis B,J vis B->vis=[0]/\lk B.T it= .ptr n1 0 0/\(∃es',B.h.get mb=some (.map g es')/\es'.length=1))->
           ml1 e b1 b2 (J [0] ⟨T3,h3⟩) (fun x=>x=e0/\h3=h4/\Sub T4 T3)->
           (∀vis B,J vis B->SX.normal=e0/\B.h=h4/\Sub T4 (up (up B.T nx .any) ok (.bool false)))->
           W P N (FCode.mloop pre x it nx ok en b1 b2 rest body).slim (fun e' B=>e'=e0/\B=⟨T4,h4⟩) ⟨T,h⟩:=by
          intro e0 T4 h4 J hJ hround hdone
          refine W.Qjj (W.mloop n fs1 hr1 (by rw[evc,hxv]) hg hn hl (fun vis B=>(vis=[]/\B.h=h1.set n1 (.dead 0)/\∀j,lk B.T j=lk (up T1 it (.ptr n1 0 0)) j)\/J vis B) ?_ ?_ ?_ ?_)
          ·rintro vis B (⟨rfl, hB, hT⟩ | hB)
           ·exact⟨by rw[hT,lk_up,if_pos rfl],_,by rw[hB];exact hmb,rfl⟩
           ·obtain ⟨_, h5, es', h6, h7⟩ := hJ vis B hB
            exact⟨h5,es',h6,by simp[h7]⟩
          ·exact .inl ⟨rfl,rfl,hit⟩
          ·rintro vis B i k' v' es' hB hni hm' hi
           have hi0:i=0:=by
            have hlt:=(List.getElem?_eq_some_iff.1 hi).1
            have:es'.length=1:=by
             rcases hB with⟨_,hB,_⟩|hB
             ·rw[hB,hmb]at hm';cases hm';rfl
             ·obtain ⟨_, _, es2, h6, h7⟩ := hJ vis B hB
              rw[h6]at hm';cases hm';exact h7
            omega
           subst hi0
           rcases hB with⟨rfl,hB,hT⟩|hB
           ·rw [hB, hmb] at hm'
            cases hm'
            simp only[List.getElem?_cons_zero,Option.some.injEq,Prod.mk.injEq]at hi
            obtain⟨rfl,rfl⟩:=hi
            rw[hB]
            refine walk _ B.T hT ?_
            unfold ml1 at hround
            split at hround
            ·exact .inr hround
            ·simp only
             split at hround
             ·rename_i e3;rw[if_pos e3];exact .inr hround
             ·rename_i e3
              rw[if_neg e3]
              split at hround
              ·rename_i e4;rw[if_pos e4];exact hround
              ·rename_i e4;rw[if_neg e4];exact hround
            ·exact hround
           ·obtain ⟨rfl, _⟩ := hJ vis B hB
            exact absurd (by simp) hni
          ·rintro vis B (⟨rfl, hB, hT⟩ | hB) hall
           ·have:=hall 0 (by simp);cases this
           ·exact hdone vis B hB
         have fin:A.holds (mlEnd A it nx ok n1 mb g T3 h3 fun T=>k .normal T h3 n3)->(∀(J:Prop) (X:SX->Prop),J->ml1 e b1 b2 J X)->
           ∃e T' h' n',A.holds (k e T' h' n')/\WX P N (FCode.mloop pre x it nx ok en b1 b2 rest body).slim (fun e' B=>e'=e/\B=⟨T',h'⟩) ⟨T,h⟩:=by
          intro hend hm
          obtain⟨h5,⟨es',h6,h7⟩,h8⟩:=QjY hA hend
          refine⟨_,_,_,_,h8,.of (main .normal _ h3 (fun vis B=>vis=[0]/\B=⟨T3,h3⟩) ?_ (hm _ _ ⟨rfl,rfl⟩) ?_) (by simp[FCode.slim])⟩
          ·rintro vis B ⟨rfl,rfl⟩;exact⟨rfl,h5,es',h6,h7⟩
          ·rintro vis B ⟨rfl,rfl⟩;exact⟨rfl,rfl,.of_eq fun _=>rfl⟩
         cases e with
         |normal=>exact fin hk3 (fun J X hJ=>hJ)
         |ret=>
          exact⟨_,_,_,_,hk3,.of (main .ret T3 h3 (fun _ _=>False) (fun _ _ h=>h.elim) ⟨rfl,rfl,.of_eq fun _=>rfl⟩ (fun _ _ h=>h.elim)) (by simp[FCode.slim])⟩
         | exit j =>
          simp only[Qaq]at hk3
          split at hk3
          ·rename_i hj
           have hj:j=b2:=by simpa using hj
           exact fin hk3 (fun J X hJ=>by show(if j=b2 then J else _);rw[if_pos hj];exact hJ)
          ·rename_i hj
           have hj:j≠b2:=by rintro rfl;simp at hj
           split at hk3
           ·rename_i hj1
            have hj1:j=b1:=by simpa using hj1
            exact⟨_,_,_,_,hk3,.of (main .normal T3 h3 (fun _ _=>False) (fun _ _ h=>h.elim) (by show(if j=b2 then _ else if j=b1 then _ else _);rw[if_neg hj,if_pos hj1];exact⟨rfl,rfl,.of_eq fun _=>rfl⟩) (fun _ _ h=>h.elim)) (by simp[FCode.slim])⟩
           ·rename_i hj1
            have hj1:j≠b1:=by rintro rfl;simp at hj1
            exact⟨_,_,_,_,hk3,.of (main (.exit j) T3 h3 (fun _ _=>False) (fun _ _ h=>h.elim) (by show(if j=b2 then _ else if j=b1 then _ else _);rw[if_neg hj,if_neg hj1];exact⟨rfl,rfl,.of_eq fun _=>rfl⟩) (fun _ _ h=>h.elim)) (by simp[FCode.slim])⟩
        ·exact absurd hk hA.bad
       ·exact absurd hk hA.bad
      ·exact absurd hk hA.bad
     ·exact absurd hk hA.bad
    ·exact absurd hk hA.bad
   ·exact absurd hk hA.bad
  | loop b =>
   have key:∃e T' h' n',A.holds (k e T' h' n')/\WL P N b.slim (fun e' B=>e'=e/\B=⟨T',h'⟩) ⟨T,h⟩:=by
    obtain⟨e,T',h',n',hk,hw,_⟩:=ih N _ _ _ _ _ hx
    cases e with
    |normal=>
     obtain⟨e2,T2,h2,n2,hk2,_,hw2⟩:=ih N _ _ _ _ _ hk
     refine⟨e2,T2,h2,n2,hk2,WL.round (hw.mono ?_)⟩
     rintro e' B ⟨rfl,rfl⟩
     exact hw2 _ rfl
    |exit j=>
     refine⟨_,_,_,_,hk,WL.round (hw.mono ?_)⟩
     rintro e' B ⟨rfl,rfl⟩
     exact⟨rfl,rfl⟩
    |ret=>
     refine⟨_,_,_,_,hk,WL.round (hw.mono ?_)⟩
     rintro e' B ⟨rfl,rfl⟩
     exact⟨rfl,rfl⟩
   obtain⟨e,T',h',n',hk,hw⟩:=key
   exact⟨e,T',h',n',hk,hw.loop,fun b' e=>by cases e;exact hw⟩
end
inductive FT2 where
 |z
 |l (k:Nat) (s:FFn)
 |n (k:Nat) (a b:FT2)
def FT2.get (t:FT2) (i:Nat):Option FFn:=
 @FT2.rec (fun _=>Option FFn) none (fun k s=>ifB (Nat.beq i k) (some s) none) (fun k _ _ a b=>ifB (Nat.ble (Nat.succ i) k) a b) t
def FT2.OK (P:Program):FT2->Prop
 | .z=>True
 | .l k s=>okFn P k s.slim=true
 | .n _ a b=>a.OK P/\b.OK P
theorem FT2.ok:∀{t:FT2},t.OK P->∀f sf,t.get f=some sf->okFn P f sf.slim=true
 | .z,_,f,sf,h=>by cases h
 | .l k s, ho, f, sf, h => by
  have h2:ifB (Nat.beq f k) (some s) none=some sf:=h
  rw[Qaq]at h2
  split at h2
  ·rename_i e
   have e:f=k:=by simpa using e
   have h3:s=sf:=by simpa using h2
   rw[e,<-h3]
   exact ho
  ·cases h2
 | .n k a b,ho,f,sf,h=>by
  have h:ifB (Nat.ble (Nat.succ f) k) (a.get f) (b.get f)=some sf:=h
  rw[Qaq]at h
  split at h
  ·exact FT2.ok ho.1 f sf h
  ·exact FT2.ok ho.2 f sf h
def noOrc:Orc:=fun _=>none
theorem QcE:OrcOK P noOrc:=fun f asg v h=>by cases h
theorem Qbl {t:FT2} (ht:t.OK P) {orc:Orc} (ho:OrcOK P orc) {d f:Nat} {args:List AV} {v:AV} (k:AV->Bool) (hk:∀u,k u=true->u=v)
  (hx:callR ansB orc t.get (exR ansB orc t.get d) (.c .pure) f args .e 64 (fun u _ _=>k u)=true):PSpec P f args v:=by
 obtain⟨u,h',n',h1,_,h2⟩:=Qfx QkH ho (FT2.ok ht) (QmB QkH ho (FT2.ok ht) d) _ _ _ _ _ _ hx
 have:=hk _ h1
 subst this
 exact h2 (by simp)
end
end Go.AM
namespace Go.AM
variable {P:Program}
end Go.AM
namespace Go.AM
def fa (a:List Nat) (n:Nat):List Nat:=a++List.range n
def fz (d:Nat) (o:SOp) (a:List Nat):FOp:=⟨true,⟨some d,o,a,none⟩⟩
def fx (d:Nat) (o:SOp) (a:List Nat) (g:Nat) (b:Bool):FOp:=⟨true,⟨some d,o,a,some (g,b)⟩⟩
def fr (ops:List FOp) (dead:Nat):FCode:= .region ops [] dead
def fk (n:Nat):Opd:= .c (.int .i64 (.ofNat n))
def fm (d x:Nat) (a:List Nat):FOp:=⟨true,⟨some d,.mov (.t x),a,none⟩⟩
def fn (d n:Nat) (a:List Nat):FOp:=⟨true,⟨some d,.mov (.c (.int .i64 (.ofNat n))),a,none⟩⟩
def fl (d x:Nat) (a:List Nat):FOp:=⟨true,⟨some d,.load none (.t x),a,none⟩⟩
def fw (d n x:Nat) (a:List Nat):FOp:=⟨true,⟨some d,.load (some n) (.t x),a,none⟩⟩
def ff (d k x:Nat) (a:List Nat):FOp:=⟨true,⟨some d,.faddr k (.t x),a,none⟩⟩
def fv (d x:Nat) (a:List Nat):FOp:=⟨true,⟨some d,.len 1 (.t x),a,none⟩⟩
def fs (n x y:Nat) (a:List Nat):FOp:=⟨true,⟨none,.store n (.t x) (.t y),a,none⟩⟩
def fi (d n x y:Nat) (a:List Nat):FOp:=⟨true,⟨some d,.iaddr none n (.t x) (.t y),a,none⟩⟩
def fb (d:Nat) (o:BinOp) (x y:Nat) (a:List Nat):FOp:=⟨true,⟨some d,.bin o (.t x) (.t y),a,none⟩⟩
def fc (d:Nat) (o:BinOp) (x n:Nat) (a:List Nat):FOp:=⟨true,⟨some d,.bin o (.t x) (.c (.int .i64 (.ofNat n))),a,none⟩⟩
def fg (d f:Nat) (xs:List Nat) (a:List Nat):FOp:=⟨true,⟨some d,.call .heap (.f f) (xs.map Opd.t),a,none⟩⟩
def fe (d k x:Nat) (a:List Nat):FOp:=⟨true,⟨some d,.extract k (.t x),a,none⟩⟩
def fu (d x:Nat) (a:List Nat):FOp:=⟨true,⟨some d,.un .not (.t x),a,none⟩⟩
def fj (n x y:Nat) (a:List Nat):FOp:=⟨false,⟨none,.store n (.t x) (.t y),a,none⟩⟩
def fO:AV:= .int .i64 (.ofNat 0)
def fN:AV:= .nilsl
def fq (ops:List FOp) (dead:Nat) (c:FCode):FCode:= .seq (.region ops [] dead) c
def fo (x k:Nat):FCode:= .cond (.t x) .skip (.exit k)
theorem kk {P:Program} {f:Nat} {sf:SFn} (h:okFn P f sf=true:=by kernel_rfl):okFn P f sf=true:=h
end Go.AM
namespace Go.AM.SK
open Go.Proofs
def f15:FFn:=⟨106,[.tmp 0],
 (fq [fz 0 (.mov (.c (.bool false))) []] 1
 (fq [fz 13 (.call .heap (.f 16) [(fk 1)]) [],
 fz 14 (.call .heap (.f 16) [(fk 2)]) [0],
 fz 15 (.call .heap (.f 16) [(fk 2)]) [1],
 fz 1 (.alloc .dyn (.agg [fN,fN,fN,fN,fN])) [],
 fz 2 (.alloc .dyn (.agg [fN,fN,fN,fN,fN])) [],
 fz 3 (.alloc .dyn (.agg [fN,fN,fN,fN,fN])) [],
 fj 5 1 13 [3,0,2,0,3,4,5],
 fj 5 2 14 [4,1,6,0,1,3,4,5,6],
 fj 5 3 15 (fa [5,2,7] 8)] 57344
 (fq [fz 16 (.bslice false .dyn 1 1 [fO] [(0,1,(fk 1))]) [],
 fz 17 (.bslice false .dyn 1 1 [fO] [(0,1,(fk 0))]) [],
 fz 18 (.build [fN,fO,fN,fN] [(0,1,(.t 16)),(1,1,(fk 1)),(2,1,(.t 17))]) [0,1],
 fz 19 (.build [(.str []),fN,fO,fN,fN] [(0,1,(.c (.str [110,101,118,101,114]))),(1,4,(.t 18))]) [2],
 fz 20 (.bslice false .dyn 5 1 [(.str []),fN,fO,fN,fN] [(0,5,(.t 19))]) [3],
 ff 21 2 1 (fa [] 5),
 fj 1 21 20 (fa [5,4] 5)] 4128768
 (fq [fz 22 (.build [fO,fO] [(0,1,(fk 0)),(1,1,(fk 1))]) [],
 fz 23 (.build [fO,fO] [(0,1,(fk 1)),(1,1,(fk 1))]) [],
 fz 24 (.bslice false .dyn 2 2 [fO,fO,fO,fO] [(0,2,(.t 22)),(2,2,(.t 23))]) [0,1],
 fz 25 (.build [(.str []),fN] [(0,1,(.c (.str [98,111,116,104]))),(1,1,(.t 24))]) [2],
 fz 26 (.bslice false .dyn 2 1 [(.str []),fN] [(0,2,(.t 25))]) [3],
 ff 27 3 2 (fa [] 5),
 fj 1 27 26 (fa [5,4] 5)] 264241152
 (fq [fz 28 (.build [fO,fO] [(0,1,(fk 0)),(1,1,(fk 1))]) [],
 fz 29 (.build [fO,fO] [(0,1,(fk 1)),(1,1,(fk 1))]) [],
 fz 30 (.bslice false .dyn 2 2 [fO,fO,fO,fO] [(0,2,(.t 28)),(2,2,(.t 29))]) [0,1],
 fz 31 (.build [(.str []),fN,fO] [(0,1,(.c (.str [109,111,115,116]))),(1,1,(.t 30)),(2,1,(fk 1))]) [2],
 fz 32 (.bslice false .dyn 3 1 [(.str []),fN,fO] [(0,3,(.t 31))]) [3],
 ff 33 4 3 (fa [] 5),
 fj 1 33 32 (fa [5,4] 5)] 16911433728
 (fq [fw 35 5 1 [],
 fg 36 18 [35] [0],
 fm 34 36 [1],
 fe 37 0 34 [2],
 fe 38 1 34 [2],
 fz 4 (.alloc .dyn (.agg [fN,fO,fN,fN,fN,fN,fN,fN])) [],
 fj 8 4 37 [5,3,1,0,1,2,3,5],
 fm 5 38 (fa [4,6] 7)] 532575944704
 (fq [fw 40 5 1 [],
 fg 41 19 [40] [0],
 fm 39 41 [1],
 fe 42 0 39 [2],
 fe 43 1 39 [2],
 fe 44 2 39 [2],
 fz 6 (.alloc .dyn (.agg [fN,fO,fN,fN])) [],
 fj 4 6 42 [6,3,1,0,1,2,3,6],
 fm 7 43 [4,7,0,1,2,3,4,6,7],
 fm 8 44 (fa [5,8] 9)] 34634616274946
 (fq [fw 46 5 2 [],
 fg 47 18 [46] [0],
 fm 45 47 [1],
 fe 48 0 45 [2],
 fe 49 1 45 [2],
 fz 9 (.alloc .dyn (.agg [fN,fO,fN,fN,fN,fN,fN,fN])) [],
 fj 8 9 48 [5,3,1,0,1,2,3,5],
 fm 10 49 (fa [4,6] 7)] 1090715534753796
 (fq [fw 51 5 3 [],
 fg 52 18 [51] [0],
 fm 50 52 [1],
 fe 53 0 50 [2],
 fe 54 1 50 [2],
 fz 11 (.alloc .dyn (.agg [fN,fO,fN,fN,fN,fN,fN,fN])) [],
 fj 8 11 53 [5,3,1,0,1,2,3,5],
 fm 12 54 (fa [4,6] 7)] 34902897112121352
 (fq [fm 55 5 [],
 fc 56 .eql 55 0 [0],
 fm 57 56 [1],
 fx 58 (.mov (.t 8)) [2] 57 true,
 fx 59 (.bin .eql (.t 58) (fk 0)) [3,2] 57 true,
 fz 60 (.pick (.t 57) (.t 59) (.c (.bool false))) [2,4],
 fm 61 60 [5,2],
 fx 62 (.mov (.t 10)) [6] 61 true,
 fx 63 (.bin .eql (.t 62) (fk 0)) [7,6] 61 true,
 fz 64 (.pick (.t 61) (.t 63) (.c (.bool false))) [6,8],
 fm 65 64 [9,6],
 fx 66 (.mov (.t 12)) [10] 65 true,
 fx 67 (.bin .eql (.t 66) (fk 0)) [11,10] 65 true,
 fz 68 (.pick (.t 65) (.t 67) (.c (.bool false))) [10,12],
 fm 69 68 [13,10],
 fx 70 (.faddr 7 (.t 4)) [14] 69 true,
 fx 71 (.load none (.t 70)) [15,14] 69 true,
 fx 72 (.build [fO,fO,fO,fO] [(0,1,(fk 1)),(1,1,(fk 3)),(2,1,(fk 0)),(3,1,(fk 1))]) [14] 69 true,
 fx 73 (.bslice false .dyn 4 1 [fO,fO,fO,fO] [(0,4,(.t 72))]) [17,14] 69 true,
 fx 74 (.call .heap (.f 45) [(.t 71),(.t 73)]) [16,18,14,14] 69 true,
 fz 75 (.pick (.t 69) (.t 74) (.c (.bool false))) [14,19],
 fm 76 75 [20,19],
 fx 77 (.faddr 1 (.t 6)) [21] 76 true,
 fx 78 (.load none (.t 77)) [22,21] 76 true,
 fx 79 (.bin .eql (.t 78) (fk 3)) [23,21] 76 true,
 fz 80 (.pick (.t 76) (.t 79) (.c (.bool false))) [21,24],
 fm 81 80 [25,21],
 fx 82 (.mov (.t 7)) [26] 81 true,
 fx 83 (.bslice false .dyn 1 1 [fO] [(0,1,(fk 2))]) [26] 81 true,
 fx 84 (.call .heap (.f 31) [(.t 82),(.t 83)]) [27,28,26,26] 81 true,
 fz 85 (.pick (.t 81) (.t 84) (.c (.bool false))) [26,29],
 fm 86 85 [30,29],
 fx 87 (.faddr 0 (.t 9)) [31] 86 true,
 fx 88 (.faddr 1 (.t 87)) [32,31] 86 true,
 fx 89 (.load none (.t 88)) [33,31] 86 true,
 fx 90 (.bin .eql (.t 89) (fk 4)) [34,31] 86 true,
 fz 91 (.pick (.t 86) (.t 90) (.c (.bool false))) [31,35],
 fm 92 91 [36,31],
 fx 93 (.faddr 7 (.t 9)) [37] 92 true,
 fx 94 (.load none (.t 93)) [38,37] 92 true,
 fx 95 (.build [fO,fO,fO,fO] [(0,1,(fk 3)),(1,1,(fk 1)),(2,1,(fk 0)),(3,1,(.c (.int .i64 (.negSucc 0))))]) [37] 92 true,
 fx 96 (.bslice false .dyn 4 1 [fO,fO,fO,fO] [(0,4,(.t 95))]) [40,37] 92 true,
 fx 97 (.call .heap (.f 45) [(.t 94),(.t 96)]) [39,41,37,37] 92 true,
 fz 98 (.pick (.t 92) (.t 97) (.c (.bool false))) [37,42],
 fm 99 98 [43,42],
 fx 100 (.faddr 7 (.t 11)) [44] 99 true,
 fx 101 (.load none (.t 100)) [45,44] 99 true,
 fx 102 (.build [fO,fO,fO,fO] [(0,1,(fk 3)),(1,1,(fk 2)),(2,1,(fk 0)),(3,1,(.c (.int .i64 (.negSucc 0))))]) [44] 99 true,
 fx 103 (.bslice false .dyn 4 1 [fO,fO,fO,fO] [(0,4,(.t 102))]) [47,44] 99 true,
 fx 104 (.call .heap (.f 45) [(.t 101),(.t 103)]) [46,48,44,44] 99 true,
 fz 105 (.pick (.t 99) (.t 104) (.c (.bool false))) [44,49],
 fm 0 105 (fa [50,49] 51)] 81129638414606645666991986188272
 .ret))))))))))⟩
def f16:FFn:=⟨44,[.cell 2 (some 5)],
 (fq [fz 2 (.alloc .dyn (.agg [fN,fN,fN,fN,fN])) []] 0
 (fq [fz 3 (.alloc .dyn (.agg [fN,fN,fN,fN,fN])) []] 0
 (.seq (fq [fm 5 0 [],
 fn 6 0 []] 1
 (.block 0 (.loop (fq [fb 7 .lss 6 5 []] 0
 (.seq (fo 7 0)
 (.seq (.block 1 (fq [fm 8 6 [],
 fm 4 8 [0,0]] 384
 (fq [ff 9 0 3 [],
 fl 10 9 [0],
 fm 11 4 [],
 fz 12 (.bin .add (fk 97) (.t 11)) [2],
 fz 13 (.conv .i32 (.t 12)) [3],
 fz 14 (.convS (.t 13)) [4],
 fz 15 (.bin .add (.c (.str [115,116,97,114,116])) (.t 14)) [5],
 fz 16 (.build [(.str []),(.bool false),(.bool false),(.bool false),fO] [(0,1,(.t 15)),(1,1,(.c (.bool true))),(2,1,(.c (.bool true)))]) [6],
 fm 17 4 [],
 fz 18 (.bin .add (fk 97) (.t 17)) [8],
 fz 19 (.conv .i32 (.t 18)) [9],
 fz 20 (.convS (.t 19)) [10],
 fz 21 (.bin .add (.c (.str [102,105,110,105,115,104])) (.t 20)) [11],
 fz 22 (.build [(.str []),(.bool false),(.bool false),(.bool false),fO] [(0,1,(.t 21)),(2,1,(.c (.bool true)))]) [12],
 fz 23 (.bslice false .dyn 5 2 [(.str []),(.bool false),(.bool false),(.bool false),fO,(.str []),(.bool false),(.bool false),(.bool false),fO] [(0,5,(.t 16)),(5,5,(.t 22))]) [7,13],
 fz 24 (.append .dyn 5 32 (.t 10) (.t 23)) [1,14],
 ff 25 0 3 (fa [] 16),
 fj 1 25 24 (fa [16,15,15] 16)] 67108352
 (.region [ff 26 1 3 [],
 fl 27 26 [0],
 fm 28 4 [],
 fz 29 (.bin .add (fk 97) (.t 28)) [2],
 fz 30 (.conv .i32 (.t 29)) [3],
 fz 31 (.convS (.t 30)) [4],
 fz 32 (.bin .add (.c (.str [109,97,99,104,105,110,101])) (.t 31)) [5],
 fm 33 4 [],
 fz 34 (.bin .mul (fk 2) (.t 33)) [7],
 fm 35 4 [],
 fz 36 (.bin .mul (fk 2) (.t 35)) [9],
 fc 37 .add 36 1 [10],
 fg 38 68 [32,34,37] [6,8,11],
 fz 39 (.bslice false .dyn 5 1 [(.str []),fN,fO,fN,fN] [(0,5,(.t 38))]) [12],
 fz 40 (.append .dyn 5 96 (.t 27) (.t 39)) [1,13,12],
 ff 41 1 3 (fa [] 15),
 fj 1 41 40 (fa [15,14,14] 15)] [(1,12),(1,13)] 4397979402256))))
 (fr [fc 42 .add 6 1 [],
 ⟨false,⟨(some 6),.mov (.t 42),[0],none⟩⟩] 4398046511104)))))))
 (fq [fw 43 5 3 [],
 fj 5 2 43 [0,0]] 8796093022312
 .ret))))⟩
def f17:FFn:=⟨19,[.cell 2 (some 4),.tmp 3,.tmp 4],
 (fq [fz 1 (.box .dyn (.t 0)) [],
 fz 2 (.alloc .dyn (.agg [fN,fO,fN,fN])) [],
 fz 3 (.mov (.c fN)) [],
 fn 4 0 [2]] 25
 (.seq (fq [fw 6 5 1 [],
 fg 7 21 [6] [0],
 fm 5 7 [1,1,0,1]] 192
 (fq [fm 8 5 [],
 fc 9 .neq 8 0 [0]] 256
 (.cond (.t 9)
 (fq [fz 10 (.build [fN,fO,fN,fN] []) [],
 fm 11 5 [],
 fj 4 2 10 [0,0],
 fz 3 (.mov (.c fN)) [2,0,2],
 fm 4 11 [1,3,0,1,2,3]] 3618
 .ret)
 .skip)))
 (fq [ff 12 1 1 [],
 fl 13 12 [0],
 fg 14 69 [13] [1],
 fg 15 28 [14] [2,2],
 fe 16 0 15 [3],
 fe 17 1 15 [3],
 fe 18 2 15 [3],
 fj 4 2 16 (fa [4,3] 7),
 ⟨false,⟨(some 3),.mov (.t 17),[5,7,0,1,2,3,4,5,6,7],none⟩⟩,
 ⟨false,⟨(some 4),.mov (.t 18),[6,8,0,1,2,3,4,5,6,7,8],none⟩⟩] 520738
 .ret)))⟩
def f18:FFn:=⟨120,[.cell 2 (some 8),.tmp 3],
 (fq [fz 1 (.box .dyn (.t 0)) [],
 fz 2 (.alloc .dyn (.agg [fN,fO,fN,fN,fN,fN,fN,fN])) [],
 fn 3 0 []] 1
 (fq [fw 19 5 1 [],
 fg 20 70 [19] [0],
 fm 18 20 [1],
 fe 21 0 18 [2],
 fe 22 1 18 [2],
 fm 4 21 [3,1,0,1,2,3],
 fm 5 22 (fa [4,5] 6)] 8126464
 (.seq (fq [fm 23 5 [],
 fc 24 .neq 23 0 [0]] 8388608
 (.cond (.t 24)
 (fq [fz 25 (.build [fN,fO,fN,fN,fN,fN,fN,fN] []) [],
 fm 26 5 [],
 fj 8 2 25 [0,0],
 ⟨false,⟨(some 3),.mov (.t 26),[1,2,0,1,2],none⟩⟩] 117440562
 .ret)
 .skip))
 (fq [fm 27 4 [],
 fz 28 (.nilchk (.t 27)) [0],
 ff 29 10 28 [1],
 fw 30 4 29 [2],
 fz 31 (.build [fN,fO,fN,fN,fN,fN,fN,fN] [(0,4,(.t 30))]) [3],
 fz 6 (.alloc .dyn (.agg [fN,fO,fN,fN,fN,fN,fN,fN])) [],
 fj 8 6 31 (fa [5,4] 6)] 4177526816
 (.seq (fq [fm 32 4 [],
 fz 33 (.nilchk (.t 32)) [0],
 ff 34 14 33 [1],
 fl 35 34 [2],
 fv 36 35 [3],
 fn 37 0 []] 30064771072
 (.block 0 (.loop (fq [fb 38 .lss 37 36 []] 0
 (.seq (fo 38 0)
 (.seq (.block 1 (fq [fm 39 37 [],
 fi 40 1 35 37 [],
 fl 41 40 [1],
 fz 7 (.alloc .dyn fO) [],
 fj 1 7 39 [3,0,0,1,2,3],
 fm 8 41 (fa [2,4] 5)] 4123168604160
 (fq [fm 43 4 [],
 fm 44 8 [],
 fg 45 71 [43,44] [0,1],
 fm 42 45 [2],
 fe 46 0 42 [3],
 fe 47 1 42 [3],
 fm 9 46 (fa [4,2] 5),
 fm 10 47 (fa [5,6] 7)] 277076930199808
 (.seq (.region [fm 48 4 [],
 fz 49 (.nilchk (.t 48)) [0],
 ff 50 18 49 [1],
 fl 51 50 [2],
 fm 52 9 [],
 fg 53 72 [52] [4],
 fz 54 (.lookup false [.s] fO false (.t 51) (.t 53)) [3,5],
 fm 11 54 (fa [6,5] 7)] [(3,5)] 35747322042253312)
 (.seq (.region [ff 55 4 6 [],
 fl 56 55 [0],
 fm 57 9 [],
 fg 58 41 [57] [2],
 fz 59 (.bslice false .dyn 1 1 [fN] [(0,1,(.t 58))]) [3],
 fz 60 (.append .dyn 1 24 (.t 56) (.t 59)) [1,4,3],
 ff 61 5 6 [],
 fl 62 61 [6],
 fm 63 10 [],
 fg 64 41 [63] [8,5],
 fz 65 (.bslice false .dyn 1 1 [fN] [(0,1,(.t 64))]) [9],
 fz 66 (.append .dyn 1 24 (.t 62) (.t 65)) [7,10,9],
 ff 67 6 6 [],
 fl 68 67 [12],
 fm 69 11 [],
 fz 70 (.bslice false .dyn 1 1 [fO] [(0,1,(.t 69))]) [14],
 fz 71 (.append .dyn 1 8 (.t 68) (.t 70)) [13,15,11],
 ff 72 4 6 [0,1,2,3,4,5,6,7,12,13],
 fj 1 72 60 [17,5,16,0,1,2,3,4,5,6,7,12,13],
 ff 73 5 6 [0,1,2,3,4,5,6,7,8,9,10,11,12,13,17,18],
 fj 1 73 66 [19,11,18,0,1,2,3,4,5,6,7,8,9,10,11,12,13,17,18],
 ff 74 6 6 (fa [] 21),
 fj 1 74 71 (fa [21,16,20] 21)] [(1,3),(1,4),(3,7),(4,7),(5,7),(7,9),(7,10),(3,13),(4,13),(5,13),(9,13),(10,13),(11,13),(1,15),(3,15),(4,15),(5,15),(7,15),(9,15),(10,15),(11,15),(13,15)] 37778895834160142745600)
 (.seq (fq [fm 76 4 [],
 fz 77 (.nilchk (.t 76)) [0],
 ff 78 15 77 [1],
 fw 79 3 78 [2],
 fm 80 9 [],
 fg 81 73 [79,80] [3,4],
 fm 75 81 [5],
 fe 82 0 75 [6],
 fe 83 1 75 [6],
 fe 84 2 75 [6],
 fe 85 3 75 [6],
 fm 12 82 (fa [7,5] 8),
 fm 13 83 [8,11,0,1,2,3,4,5,6,7,8,11],
 fm 14 84 [9,12,0,1,2,3,4,5,6,7,8,9,11,12],
 fm 15 85 (fa [10,13] 14)] 77333473523473310019518976
 (fq [fm 86 14 []] 16384
 (.cond (.t 86)
 (fq [ff 87 7 6 [],
 fl 88 87 [0],
 fl 89 7 [],
 fm 90 12 [],
 fm 91 13 [],
 fz 92 (.build [fO,fO,fO,fO] [(0,1,(.t 89)),(1,1,(.t 90)),(2,1,(.t 91)),(3,1,(.c (.int .i64 (.negSucc 0))))]) [2,3,4],
 fz 93 (.bslice false .dyn 4 1 [fO,fO,fO,fO] [(0,4,(.t 92))]) [5],
 fz 94 (.append .dyn 4 32 (.t 88) (.t 93)) [1,6],
 ff 95 7 6 (fa [] 8),
 fj 1 95 94 (fa [8,7,7] 8)] 79150791261809001326362770560
 (.exit 1))
 .skip)))
 (fq [fm 96 4 [],
 fm 97 11 [],
 fm 98 10 [],
 fg 99 74 [96,97,98] [0,1,2]] 554674508852305699421988862976
 (.block 2 (.rfunc (.t 99) [100,101] 120 (fq [fm 16 100 []] 1901475900342344102245054808064
 (fr [fm 17 101 []] 2535301200456458802993406410752))
 (.block 3 (fq [ff 102 0 1 [],
 fl 103 102 [0],
 fm 104 16 [],
 fi 105 5 103 104 [1,2],
 ff 106 1 105 [3],
 fl 107 106 [4],
 fu 108 107 [5]] 319447951257513809177169207754752
 (.cond (.t 108)
 (fq [ff 109 7 6 [],
 fl 110 109 [0],
 fl 111 7 [],
 fm 112 17 [],
 fm 113 16 [],
 fz 114 (.build [fO,fO,fO,fO] [(0,1,(.t 111)),(1,1,(fk 3)),(2,1,(.t 112)),(3,1,(.t 113))]) [2,3,4],
 fz 115 (.bslice false .dyn 4 1 [fO,fO,fO,fO] [(0,4,(.t 114))]) [5],
 fz 116 (.append .dyn 4 32 (.t 110) (.t 115)) [1,6],
 ff 117 7 6 (fa [] 8),
 fj 1 117 116 (fa [8,7,7] 8)] 331982480392570541499168609049706624
 (.exit 2))
 .skip))))))))))))
 (fr [fc 118 .add 37 1 [],
 ⟨false,⟨(some 37),.mov (.t 118),[0],none⟩⟩] 332307632771529082340652513421688960)))))))
 (fq [fw 119 8 6 [],
 fj 8 2 119 [0,0],
 ⟨false,⟨(some 3),.mov (.c fO),[1,0,1],none⟩⟩] 664613997892457936451903770658340946
 .ret))))))⟩
def f19:FFn:=⟨118,[.cell 2 (some 4),.tmp 3,.tmp 4],
 (fq [fz 1 (.box .dyn (.t 0)) [],
 fz 2 (.alloc .dyn (.agg [fN,fO,fN,fN])) [],
 fz 3 (.mov (.c fN)) [],
 fn 4 0 [2]] 17
 (fq [fw 18 5 1 [],
 fg 19 70 [18] [0],
 fm 17 19 [1],
 fe 20 0 17 [2],
 fe 21 1 17 [2],
 fm 5 20 [3,1,0,1,2,3],
 fm 4 21 (fa [4,5] 6)] 4063234
 (.seq (fq [fm 22 4 [],
 fc 23 .neq 22 0 [0]] 4194304
 (.cond (.t 23)
 (fq [fz 24 (.build [fN,fO,fN,fN] []) [],
 fm 25 4 [],
 fj 4 2 24 [0,0],
 ⟨false,⟨(some 3),.mov (.c fN),[2,0,2],none⟩⟩,
 ⟨false,⟨(some 4),.mov (.t 25),[1,3,0,1,2,3],none⟩⟩] 58720288
 .ret)
 .skip))
 (fq [fm 26 5 [],
 fz 27 (.nilchk (.t 26)) [0],
 ff 28 10 27 [1],
 ff 29 1 28 [2],
 fl 30 29 [3],
 fz 6 (.alloc .dyn fO) [],
 fj 1 6 30 (fa [5,4] 6)] 2088763392
 (.seq (fq [fl 31 6 [],
 fc 32 .geq 31 4096 [0]] 2147483648
 (.cond (.t 32)
 (fq [fz 33 (.build [fN,fO,fN,fN] []) [],
 fj 4 2 33 [0,0],
 ⟨false,⟨(some 3),.mov (.c fN),[1,0,1],none⟩⟩,
 ⟨false,⟨(some 4),.mov (.c (.int .i64 (.ofNat 3))),[2,0,1,2],none⟩⟩] 12884901984
 .ret)
 .skip))
 (.seq (.region [fm 34 5 [],
 fz 35 (.nilchk (.t 34)) [0],
 ff 36 10 35 [1],
 ff 37 0 36 [2],
 fl 38 37 [3],
 fg 39 41 [38] [4],
 fl 40 6 [],
 fc 41 .add 40 1 [6],
 fm 42 5 [],
 fz 43 (.nilchk (.t 42)) [8],
 ff 44 10 43 [9],
 ff 45 2 44 [10],
 fl 46 45 [11],
 fg 47 41 [46] [12,5],
 fm 48 5 [],
 fz 49 (.nilchk (.t 48)) [14],
 ff 50 10 49 [15],
 ff 51 3 50 [16],
 fl 52 51 [17],
 fg 53 75 [52] [18,13],
 fz 54 (.build [fN,fO,fN,fN] [(0,1,(.t 39)),(1,1,(.t 41)),(2,1,(.t 47)),(3,1,(.t 53))]) [5,7,13,19],
 fj 4 2 54 (fa [20,19] 21)] [(5,6),(5,12),(6,13),(5,18),(13,18),(6,19)] 36028784134062080)
 (.seq (fq [fm 55 5 [],
 fz 56 (.nilchk (.t 55)) [0],
 ff 57 14 56 [1],
 fl 58 57 [2],
 fv 59 58 [3],
 fn 60 0 []] 252201579132747776
 (.block 0 (.loop (fq [fb 61 .lss 60 59 []] 0
 (.seq (fo 61 0)
 (.seq (.block 1 (fq [fm 62 60 [],
 fi 63 1 58 60 [],
 fl 64 63 [1],
 fz 7 (.alloc .dyn fO) [],
 fj 1 7 62 [3,0,0,1,2,3],
 fm 8 64 (fa [2,4] 5)] 34587645138205409280
 (fq [fm 66 5 [],
 fm 67 8 [],
 fg 68 71 [66,67] [0,1],
 fm 65 68 [2],
 fe 69 0 65 [3],
 fe 70 1 65 [3],
 fm 9 69 (fa [4,2] 5),
 fm 10 70 (fa [5,6] 7)] 2324289753287403503872
 (.seq (fq [fm 72 5 [],
 fz 73 (.nilchk (.t 72)) [0],
 ff 74 15 73 [1],
 fw 75 3 74 [2],
 fm 76 9 [],
 fg 77 73 [75,76] [3,4],
 fm 71 77 [5],
 fe 78 0 71 [6],
 fe 79 1 71 [6],
 fe 80 2 71 [6],
 fe 81 3 71 [6],
 fm 11 78 (fa [7,5] 8),
 fm 12 79 [8,11,0,1,2,3,4,5,6,7,8,11],
 fm 13 80 [9,12,0,1,2,3,4,5,6,7,8,9,11,12],
 fm 14 81 (fa [10,13] 14)] 4833342095217081876240384
 (fq [fm 82 13 []] 8192
 (.cond (.t 82)
 (fr [fm 83 3 [],
 fl 84 7 [],
 fz 85 (.bslice false .dyn 1 1 [fO] [(0,1,(.t 84))]) [1],
 fz 86 (.append .dyn 1 8 (.t 83) (.t 85)) [0,2],
 ⟨false,⟨(some 3),.mov (.t 86),[3,3,0,1,2,3],none⟩⟩] 149906801632214017663565824)
 .skip)))
 (.seq (.region [fm 87 5 [],
 fz 88 (.nilchk (.t 87)) [0],
 ff 89 18 88 [1],
 fl 90 89 [2],
 fm 91 9 [],
 fg 92 72 [91] [4],
 fz 93 (.lookup false [.s] fO false (.t 90) (.t 92)) [3,5],
 fm 15 93 (fa [6,5] 7)] [(3,5)] 19657133826933870380722422272)
 (fq [fm 94 5 [],
 fm 95 15 [],
 fm 96 10 [],
 fg 97 74 [94,95,96] [0,1,2]] 138649284399962590788701946880
 (.block 2 (.rfunc (.t 97) [98,99] 118 (fr [fm 16 98 []] 1109194275201718338942677286968)
 (.block 3 (fr [ff 100 3 2 [],
 fl 101 100 [0],
 fl 102 7 [],
 fm 103 16 [],
 fl 104 6 [],
 fz 105 (.build [fO,fO,fO] [(0,1,(.t 102)),(1,1,(.t 103)),(2,1,(.t 104))]) [2,3,4],
 fz 106 (.bslice false .dyn 3 1 [fO,fO,fO] [(0,3,(.t 105))]) [5],
 fz 107 (.append .dyn 3 24 (.t 101) (.t 106)) [1,6],
 ff 108 3 2 (fa [] 8),
 fj 1 108 107 (fa [8,7,7] 8)] 647769456716625224164815338012868))))))))))
 (fr [fc 109 .add 60 1 [],
 ⟨false,⟨(some 60),.mov (.t 109),[0],none⟩⟩] 649195563641881982241499129053312)))))))
 (fq [ff 110 3 2 [],
 fl 111 110 [0],
 fz 112 (.call .heap (.f 76) [(.t 111),(.f 77)]) [1]] 9086519502435950367541001638117424
 (.seq (.region [fw 113 4 2 [],
 fm 114 3 [],
 fl 115 6 [],
 fz 116 (.bslice false .dyn 1 1 [fO] [(0,1,(.t 115))]) [2],
 fz 117 (.append .dyn 1 8 (.t 114) (.t 116)) [1,3],
 fj 4 2 113 [0,4,0],
 ⟨false,⟨(some 3),.mov (.t 117),[4,5,0,1,2,3,4,5],none⟩⟩,
 fn 4 0 (fa [6] 7)] [(0,4)] 321922405229159312968890772411646016)
 .ret)))))))))⟩
def f21:FFn:=⟨94,[.tmp 2],
 (fq [fz 1 (.box .dyn (.t 0)) [],
 fn 2 0 []] 5
 (.seq (fq [ff 15 0 1 [],
 fl 16 15 [0],
 fg 17 82 [16] [1],
 fm 3 17 [2,2,0,1,2]] 229376
 (fq [fm 18 3 [],
 fc 19 .neq 18 0 [0]] 262144
 (.cond (.t 19)
 (fq [fm 20 3 [],
 fm 2 20 [0,0]] 1572874
 .ret)
 .skip)))
 (.seq (fq [ff 21 1 1 [],
 fl 22 21 [0],
 fv 23 22 [1],
 fm 4 23 [2,0,1,2]] 15204364
 (.block 0 (fq [fm 25 4 [],
 fc 26 .eql 25 0 [0],
 fm 24 26 [1]] 100663296
 (.cond (.t 24)
 (fq [fn 2 12 []] 16777234
 .ret)
 (fq [fm 28 4 [],
 fc 29 .gtr 28 8 [0],
 fm 30 29 [1],
 fx 31 (.mov (.t 4)) [2] 30 false,
 fx 32 (.faddr 2 (.t 1)) [2] 30 false,
 fx 33 (.load none (.t 32)) [4,2] 30 false,
 fx 34 (.len 1 (.t 33)) [5,2] 30 false,
 fx 35 (.bin .add (.t 31) (.t 34)) [3,6,2] 30 false,
 fx 36 (.bin .gtr (.t 35) (fk 12)) [7,2] 30 false,
 fz 37 (.pick (.t 30) (.c (.bool true)) (.t 36)) [2,8],
 fm 27 37 [9,2]] 274626248720
 (.cond (.t 27)
 (fq [fn 2 3 []] 134217730
 .ret)
 .skip))))))
 (fq [fz 38 (.mkmap .dyn) [],
 fm 5 38 [0,0]] 275012124676
 (fq [fz 6 (.mov (.c fN)) [],
 fz 7 (.mov (.c fN)) [0]] 0
 (.seq (fq [ff 39 0 1 [],
 fl 40 39 [0],
 fv 41 40 [1],
 fn 42 0 []] 1649267441664
 (.block 1 (.loop (fq [fb 43 .lss 42 41 []] 0
 (.seq (fo 43 1)
 (.seq (.block 2 (fq [fm 44 42 [],
 fm 8 44 [0,0]] 26388279066624
 (fr [fm 45 6 [],
 fm 46 8 [],
 fz 47 (.bslice false .dyn 1 1 [fO] [(0,1,(.t 46))]) [1],
 fz 48 (.append .dyn 1 8 (.t 45) (.t 47)) [0,2],
 ⟨false,⟨(some 6),.mov (.t 48),[3,3,0,1,2,3],none⟩⟩] 527765581332736)))
 (fr [fc 49 .add 42 1 [],
 ⟨false,⟨(some 42),.mov (.t 49),[0],none⟩⟩] 562949953421312)))))))
 (.seq (fq [ff 50 1 1 [],
 fl 51 50 [0],
 fv 52 51 [1],
 fn 53 0 []] 1132496976609280
 (.block 3 (.loop (fq [fb 54 .lss 53 52 []] 0
 (.seq (fo 54 3)
 (.seq (.block 4 (fq [fi 55 5 51 53 [],
 fw 56 5 55 [0],
 fz 10 (.alloc .dyn (.agg [(.str []),fN,fO,fN,fN])) [],
 fj 5 10 56 [2,1,0,1,2]] 126100789566373888
 (.seq (fq [fw 57 5 10 [],
 ff 58 0 1 [],
 fl 59 58 [1],
 fv 60 59 [2],
 fm 61 6 [],
 fm 62 5 [],
 fg 63 83 [57,60,61,62] [0,3,4,5],
 fm 11 63 (fa [6,6] 7)] 18302628885633695744
 (fq [fm 64 11 [],
 fc 65 .neq 64 0 [0]] 18446744073709551616
 (.cond (.t 65)
 (fq [fm 66 11 [],
 fm 2 66 [0,0]] 110696227040953109730
 .ret)
 .skip)))
 (fr [fm 67 7 [],
 ff 68 1 10 [],
 ff 69 0 68 [1],
 fl 70 69 [2],
 fg 71 84 [67,70] [0,3],
 ⟨false,⟨(some 7),.mov (.t 71),[4,4,0,1,2,3,4],none⟩⟩] 4611686018427387907076))))
 (fr [fc 72 .add 53 1 [],
 ⟨false,⟨(some 53),.mov (.t 72),[0],none⟩⟩] 4722366482869645213696)))))))
 (.seq (fq [ff 73 2 1 [],
 fl 74 73 [0],
 fv 75 74 [1],
 fn 76 0 []] 9444748728337986224192
 (.block 5 (.loop (fq [fb 77 .lss 76 75 []] 0
 (.seq (fo 77 5)
 (.seq (.block 6 (fq [fi 78 5 74 76 [],
 fw 79 5 78 [0],
 fz 13 (.alloc .dyn (.agg [(.str []),fN,fO,fN,fN])) [],
 fj 5 13 79 [2,1,0,1,2]] 1057810092162800527867904
 (fq [fw 80 5 13 [],
 ff 81 0 1 [],
 fl 82 81 [1],
 fv 83 82 [2],
 fm 84 7 [],
 fm 85 5 [],
 fg 86 83 [80,83,84,85] [0,3,4,5],
 fm 14 86 (fa [6,6] 7)] 153533579091057905187692544
 (fq [fm 87 14 [],
 fc 88 .neq 87 0 [0]] 154742504910672534362390528
 (.cond (.t 88)
 (fq [fm 89 14 [],
 fm 2 89 [0,0]] 928587255725555556240343202
 .ret)
 .skip)))))
 (fr [fc 90 .add 76 1 [],
 ⟨false,⟨(some 76),.mov (.t 90),[0],none⟩⟩] 1547425049106725343623921668)))))))
 (fq [fw 91 5 1 [],
 fg 92 85 [91] [0],
 fg 93 32 [92] [1,1],
 fm 2 93 [2,2,0,1,2]] 17331292776256844198653722786
 .ret)))))))))⟩
def f28:FFn:=⟨117,[.cell 2 (some 4),.tmp 3,.tmp 4],
 (fq [fz 2 (.alloc .dyn (.agg [fN,fO,fN,fN])) [],
 fz 3 (.mov (.c fN)) [],
 fn 4 0 [1]] 24
 (.seq (fq [fm 17 0 [],
 fg 18 95 [17] [0],
 fm 5 18 [1,1,0,1]] 393216
 (fq [fm 19 5 [],
 fc 20 .neq 19 0 [0]] 524288
 (.cond (.t 20)
 (fq [fz 21 (.build [fN,fO,fN,fN] []) [],
 fm 22 5 [],
 fj 4 2 21 [0,0],
 fz 3 (.mov (.c fN)) [2,0,2],
 fm 4 22 [1,3,0,1,2,3]] 7340065
 .ret)
 .skip)))
 (fq [fm 23 0 [],
 fg 24 96 [23] [0],
 fz 6 (.alloc .dyn (.agg [fN,fN,fN])) [],
 fj 3 6 24 [2,1,1,0,1,2]] 26214457
 (fq [ff 25 1 6 [],
 fl 26 25 [0],
 ff 27 0 2 [0,1],
 fj 1 27 26 [2,1,0,1]] 234881024
 (fq [fw 29 3 6 [],
 fg 30 97 [29] [0],
 fm 28 30 [1],
 fe 31 0 28 [2],
 fe 32 1 28 [2],
 fm 7 31 [3,1,0,1,2,3],
 fm 8 32 (fa [4,5] 6)] 8321499136
 (.seq (fq [fm 33 8 [],
 fu 34 33 [0]] 8589934848
 (.cond (.t 34)
 (fq [fw 35 4 2 [],
 fj 4 2 35 [0,0],
 fz 3 (.mov (.c fN)) [1,0,1],
 fn 4 0 [2,0,1,2]] 51539607744
 .ret)
 .skip))
 (fq [fm 36 7 [],
 fz 37 (.bslice false .dyn 1 1 [fN] [(0,1,(.t 36))]) [0],
 ⟨false,⟨(some 3),.mov (.t 37),[1,0,1],none⟩⟩] 223338299408
 (fq [fz 38 (.mkmap .dyn) [],
 fm 39 7 [],
 fg 40 98 [39] [1],
 ⟨false,⟨none,.mupd false [.s] (.t 38) (.t 40) (.c fO),[0,2],none⟩⟩,
 fm 41 38 [0,1,2,3],
 fm 9 41 (fa [4,2] 5)] 4123168604288
 (.seq (fq [fn 10 0 []] 0
 (.block 0 (.loop (.seq (fq [fm 42 10 [],
 fm 43 3 [],
 fv 44 43 [1],
 fb 45 .lss 42 44 [0,2]] 30786325577728
 (fo 45 0))
 (.seq (.block 1 (.seq (fq [fw 48 3 6 [],
 fm 49 3 [],
 fm 50 10 [],
 fi 51 1 49 50 [1,2],
 fl 52 51 [3],
 fg 53 99 [48,52] [0,4]] 8760908650119168
 (.cond (.t 53)
 (fr [ff 54 2 2 [],
 fl 55 54 [0],
 fm 56 10 [],
 fz 57 (.bslice false .dyn 1 1 [fO] [(0,1,(.t 56))]) [2],
 fz 58 (.append .dyn 1 8 (.t 55) (.t 57)) [1,3],
 ff 59 2 2 (fa [] 5),
 fj 1 59 58 (fa [5,4,4] 5)] 1143914305352105984)
 .skip))
 (fq [ff 60 1 6 [],
 fl 61 60 [0],
 fv 62 61 [1],
 fn 63 0 []] 1161928703861587968
 (.block 2 (.loop (fq [fb 64 .lss 63 62 []] 0
 (.seq (fo 64 2)
 (.seq (.block 3 (fq [fi 65 1 61 63 [],
 fl 66 65 [0],
 fm 12 66 [1,0,1]] 129127208515966861312
 (fq [fw 68 3 6 [],
 fm 69 3 [],
 fm 70 10 [],
 fi 71 1 69 70 [1,2],
 fl 72 71 [3],
 fm 73 12 [],
 fg 74 100 [68,72,73] [0,4,5],
 fm 67 74 [6],
 fe 75 0 67 [7],
 fe 76 1 67 [7],
 fm 13 75 (fa [8,6] 9),
 fm 14 76 (fa [9,10] 11)] 150968153499238970425344
 (.seq (fq [fm 77 14 [],
 fu 78 77 [0]] 151115727451828646854656
 (.cond (.t 78)
 (.exit 3)
 .skip))
 (fq [fm 80 9 [],
 fm 81 13 [],
 fg 82 98 [81] [1],
 fz 83 (.lookup false [.s] fO true (.t 80) (.t 82)) [0,2],
 fm 79 83 [3],
 fe 84 0 79 [4],
 fe 85 1 79 [4],
 fm 15 84 (fa [5,2] 6),
 fm 16 85 (fa [6,7] 8)] 77069021000432609887518720
 (.seq (fq [fm 86 16 [],
 fu 87 86 [0]] 77371252455336267181260800
 (.cond (.t 87)
 (.seq (fq [fm 88 3 [],
 fv 89 88 [0],
 fc 90 .eql 89 4096 [1]] 1083197534374707740536766464
 (.cond (.t 90)
 (fq [fz 91 (.build [fN,fO,fN,fN] []) [],
 fj 4 2 91 [0,0],
 ⟨false,⟨(some 3),.mov (.c fN),[1,0,1],none⟩⟩,
 fn 4 3 [2,0,1,2]] 3713820133997041889193244224
 .ret)
 .skip))
 (fq [fm 92 3 [],
 fv 93 92 [0],
 fm 15 93 [1,0,1]] 16093220510709943573688614928
 (fq [fm 94 9 [],
 fm 95 13 [],
 fg 96 98 [95] [1],
 fm 97 15 [],
 ⟨false,⟨none,.mupd false [.s] (.t 94) (.t 96) (.t 97),[0,2,3,2,0,1,2,3],none⟩⟩] 297105609428491265975789813760
 (fr [fm 98 3 [],
 fm 99 13 [],
 fz 100 (.bslice false .dyn 1 1 [fN] [(0,1,(.t 99))]) [1],
 fz 101 (.append .dyn 1 24 (.t 98) (.t 100)) [0,2],
 ⟨false,⟨(some 3),.mov (.t 101),[3,3,0,1,2,3],none⟩⟩] 4753689750855860255612637028352))))
 .skip))
 (fr [ff 102 3 2 [],
 fl 103 102 [0],
 fm 104 10 [],
 fm 105 12 [],
 fm 106 15 [],
 fz 107 (.build [fO,fO,fO] [(0,1,(.t 104)),(1,1,(.t 105)),(2,1,(.t 106))]) [2,3,4],
 fz 108 (.bslice false .dyn 3 1 [fO,fO,fO] [(0,3,(.t 107))]) [5],
 fz 109 (.append .dyn 3 24 (.t 103) (.t 108)) [1,6],
 ff 110 3 2 (fa [] 8),
 fj 1 110 109 (fa [8,7,7] 8)] 2591077981609005807331795714224128)))))))
 (fr [fc 111 .add 63 1 [],
 ⟨false,⟨(some 63),.mov (.t 111),[0],none⟩⟩] 2596148429267413814265248164610048)))))))))
 (fr [fm 46 10 [],
 fc 47 .add 46 1 [0],
 ⟨false,⟨(some 10),.mov (.t 47),[1,0,1],none⟩⟩] 16141112170728390656))))))
 (fq [fm 112 3 [],
 fv 113 112 [0],
 ff 114 1 2 [0,1],
 fj 1 114 113 [2,1,0,1]] 36346078009743793399713474304542272
 (fq [fw 115 4 2 [],
 fm 116 3 [],
 fj 4 2 115 [0,0],
 ⟨false,⟨(some 3),.mov (.t 116),[1,2,0,1,2],none⟩⟩,
 fn 4 0 [3,0,1,2,3]] 124615124604835863084731911901282304
 .ret)))))))))))⟩
def f31:FFn:=⟨26,[.tmp 4],
 (fq [fz 4 (.mov (.c (.bool false))) []] 16
 (.seq (fq [fm 6 0 [],
 fv 7 6 [0],
 fm 8 1 [],
 fv 9 8 [2],
 fb 10 .neq 7 9 [1,3]] 960
 (.cond (.t 10)
 (fq [fz 4 (.mov (.c (.bool false))) []] 1027
 .ret)
 .skip))
 (.seq (fq [fm 11 0 [],
 fv 12 11 [0],
 fn 13 0 []] 3088
 (.block 0 (.loop (fq [fb 14 .lss 13 12 []] 0
 (.seq (fo 14 0)
 (.seq (.block 1 (fq [fm 15 13 [],
 fm 5 15 [0,0]] 49152
 (fq [fm 16 0 [],
 fm 17 5 [],
 fi 18 1 16 17 [0,1],
 fl 19 18 [2],
 fm 20 1 [],
 fm 21 5 [],
 fi 22 1 20 21 [4,5],
 fl 23 22 [6],
 fb 24 .neq 19 23 [3,7]] 16711712
 (.cond (.t 24)
 (fq [fz 4 (.mov (.c (.bool false))) []] 16789507
 .ret)
 .skip))))
 (fr [fc 25 .add 13 1 [],
 ⟨false,⟨(some 13),.mov (.t 25),[0],none⟩⟩] 50331664)))))))
 (fq [fz 4 (.mov (.c (.bool true))) []] 12291
 .ret))))⟩
def f32:FFn:=⟨89,[.tmp 2],
 (fq [fz 1 (.box .dyn (.t 0)) [],
 fn 2 0 []] 5
 (.seq (fq [ff 15 0 1 [],
 fl 16 15 [0],
 fv 17 16 [1],
 fc 18 .gtr 17 8 [2]] 229376
 (.cond (.t 18)
 (fq [fn 2 3 []] 262146
 .ret)
 .skip))
 (.seq (fq [ff 19 0 1 [],
 fl 20 19 [0],
 fv 21 20 [1],
 fn 22 0 []] 786436
 (.block 0 (.loop (fq [fb 23 .lss 22 21 []] 0
 (.seq (fo 23 0)
 (.seq (.block 1 (fq [fi 24 1 20 22 [],
 fl 25 24 [0],
 fm 4 25 [1,0,1]] 58720256
 (fq [fm 26 4 [],
 fc 27 .lss 26 1 [0],
 fm 28 27 [1],
 ⟨false,⟨(some 29),.mov (.t 4),[2],(some (28,false))⟩⟩,
 ⟨false,⟨(some 30),.bin .gtr (.t 29) (.c (.int .i64 (.ofNat 4096))),[3,2],(some (28,false))⟩⟩,
 fz 31 (.pick (.t 28) (.c (.bool true)) (.t 30)) [2,4]] 469762064
 (.cond (.t 31)
 (fq [fn 2 2 []] 4126934040578
 .ret)
 .skip))))
 (fr [fc 32 .add 22 1 [],
 ⟨false,⟨(some 22),.mov (.t 32),[0],none⟩⟩] 6442450948)))))))
 (.seq (fq [ff 33 1 1 [],
 fl 34 33 [0],
 fv 35 34 [1],
 fc 36 .gtr 35 32 [2],
 fm 37 36 [3],
 ⟨false,⟨(some 38),.faddr 2 (.t 1),[4],(some (37,false))⟩⟩,
 ⟨false,⟨(some 39),.load none (.t 38),[5,4],(some (37,false))⟩⟩,
 ⟨false,⟨(some 40),.len 1 (.t 39),[6,4],(some (37,false))⟩⟩,
 ⟨false,⟨(some 41),.bin .gtr (.t 40) (.c (.int .i64 (.ofNat 32))),[7,4],(some (37,false))⟩⟩,
 fz 42 (.pick (.t 37) (.c (.bool true)) (.t 41)) [4,8]] 4391074529280
 (.cond (.t 42)
 (fq [fn 2 3 []] 4398046511106
 .ret)
 .skip))
 (.seq (fq [ff 43 1 1 [],
 fl 44 43 [0],
 fv 45 44 [1],
 fn 46 0 []] 13194139533316
 (.block 2 (.loop (fq [fb 47 .lss 46 45 []] 0
 (.seq (fo 47 2)
 (.seq (.block 3 (fq [fm 48 46 [],
 fi 49 2 44 46 [],
 fw 50 2 49 [1],
 fz 5 (.alloc .dyn fO) [],
 fz 6 (.alloc .dyn (.agg [(.str []),fN])) [],
 fj 1 5 48 (fa [3,0] 5),
 fj 2 6 50 (fa [4,2,5] 6)] 2111062325329920
 (fq [fz 51 (.mkfn 101 [] [(.t 1),(.t 5)]) [],
 fm 7 51 [0,0]] 2251799813685280
 (.seq (fq [ff 52 0 6 [],
 fl 53 52 [0],
 fm 54 7 [],
 fg 55 102 [53,54] [1,2],
 fm 8 55 [3,3,0,1,2,3]] 67553994410557568
 (fq [fm 56 8 [],
 fc 57 .neq 56 0 [0]] 72057594037927936
 (.cond (.t 57)
 (fq [fm 58 8 [],
 fm 2 58 [0,0]] 432468709529878850
 .ret)
 .skip)))
 (fq [fw 59 3 1 [],
 fw 60 2 6 [],
 fg 61 103 [59,60] [0,1],
 fm 9 61 [2,2,0,1,2]] 4179340454199820612
 (fq [fm 62 9 [],
 fc 63 .neq 62 0 [0]] 4611686018427387904
 (.cond (.t 63)
 (fq [fm 64 9 [],
 fm 2 64 [0,0]] 27670239255866638850
 .ret)
 .skip)))))))
 (fr [fc 65 .add 46 1 [],
 ⟨false,⟨(some 46),.mov (.t 65),[0],none⟩⟩] 46116860184273879556)))))))
 (.seq (fq [ff 66 2 1 [],
 fl 67 66 [0],
 fv 68 67 [1],
 fn 69 0 []] 73787099440140517376
 (.block 4 (.loop (fq [fb 70 .lss 69 68 []] 0
 (.seq (fo 70 4)
 (.seq (.block 5 (fq [fm 71 69 [],
 fi 72 3 67 69 [],
 fw 73 3 72 [1],
 fz 10 (.alloc .dyn fO) [],
 fz 11 (.alloc .dyn (.agg [(.str []),fN,fO])) [],
 fj 1 10 71 (fa [3,0] 5),
 fj 3 11 73 (fa [4,2,5] 6)] 17708874310761169551360
 (fq [fz 74 (.mkfn 104 [] [(.t 1),(.t 10)]) [],
 fm 12 74 [0,0]] 18889465931478580855808
 (.seq (fq [ff 75 0 11 [],
 fl 76 75 [0],
 fm 77 12 [],
 fg 78 102 [76,77] [1,2],
 fm 13 78 [3,3,0,1,2,3]] 566683977944357425647616
 (fq [fm 79 13 [],
 fc 80 .neq 79 0 [0]] 604462909807314587353088
 (.cond (.t 80)
 (fq [fm 81 13 [],
 fm 2 81 [0,0]] 3627810476512015259019266
 .ret)
 .skip)))
 (fq [fw 82 3 1 [],
 fw 83 3 11 [],
 fg 84 105 [82,83] [0,1],
 fm 14 84 [2,2,0,1,2]] 35058848768824246066489348
 (fq [fm 85 14 [],
 fc 86 .neq 85 0 [0]] 38685626227668133590597632
 (.cond (.t 86)
 (fq [fm 87 14 [],
 fm 2 87 [0,0]] 232114790383676929278492674
 .ret)
 .skip)))))))
 (fr [fc 88 .add 69 1 [],
 ⟨false,⟨(some 69),.mov (.t 88),[0],none⟩⟩] 386856262276681335905992708)))))))
 (fq [fn 2 0 []] 1033017668127734890498
 .ret)))))))⟩
def f33:FFn:=⟨31,[.tmp 4],
 (fq [fz 2 (.box .dyn (.t 0)) [],
 fz 3 (.box .dyn (.t 1)) [],
 fz 4 (.mov (.c (.bool false))) []] 19
 (fq [ff 5 1 2 [],
 fl 6 5 [0],
 ff 7 1 3 [],
 fl 8 7 [2],
 fb 9 .eql 6 8 [1,3],
 fm 10 9 [4],
 fx 11 (.faddr 0 (.t 2)) [5] 10 true,
 fx 12 (.load none (.t 11)) [6,5] 10 true,
 fx 13 (.faddr 0 (.t 3)) [5] 10 true,
 fx 14 (.load none (.t 13)) [8,5] 10 true,
 fx 15 (.call .heap (.f 31) [(.t 12),(.t 14)]) [7,9,5,5] 10 true,
 fz 16 (.pick (.t 10) (.t 15) (.c (.bool false))) [5,10],
 fm 17 16 [11,10],
 fx 18 (.faddr 2 (.t 2)) [12] 17 true,
 fx 19 (.load none (.t 18)) [13,12] 17 true,
 fx 20 (.faddr 2 (.t 3)) [12] 17 true,
 fx 21 (.load none (.t 20)) [15,12] 17 true,
 fx 22 (.call .heap (.f 31) [(.t 19),(.t 21)]) [14,16,12,12] 17 true,
 fz 23 (.pick (.t 17) (.t 22) (.c (.bool false))) [12,17],
 fm 24 23 [18,17],
 fx 25 (.faddr 3 (.t 2)) [19] 24 true,
 fx 26 (.load none (.t 25)) [20,19] 24 true,
 fx 27 (.faddr 3 (.t 3)) [19] 24 true,
 fx 28 (.load none (.t 27)) [22,19] 24 true,
 fx 29 (.call .heap (.f 106) [(.t 26),(.t 28)]) [21,23,19,19] 24 true,
 fz 30 (.pick (.t 24) (.t 29) (.c (.bool false))) [19,24],
 fm 4 30 (fa [25,24] 26)] 2147483628
 .ret))⟩
def f36:FFn:=⟨9,[.tmp 4],
 (fq [fz 4 (.mov (.c (.bool false))) []] 16
 (fq [fm 5 0 [],
 fm 6 1 [],
 fg 7 110 [5,6] [0,1],
 fc 8 .geq 7 0 [2],
 fm 4 8 [3,2,0,1,2,3]] 483
 .ret))⟩
def f38:FFn:=⟨9,[.tmp 4],
 (fq [fz 4 (.mov (.c (.bool false))) []] 16
 (fq [fm 5 0 [],
 fm 6 1 [],
 fg 7 111 [5,6] [0,1],
 fc 8 .geq 7 0 [2],
 fm 4 8 [3,2,0,1,2,3]] 483
 .ret))⟩
def f41:FFn:=⟨8,[.tmp 2],
 (fq [fz 2 (.mov (.c fN)) []] 4
 (.seq (fq [fm 3 0 [],
 fz 4 (.eqn false (.t 3)) [0]] 8
 (.cond (.t 4)
 (fq [fz 2 (.mov (.c fN)) []] 17
 .ret)
 .skip))
 (fq [fz 5 (.bslice false .dyn 1 0 [] []) [],
 fm 6 0 [],
 fz 7 (.append .dyn 1 8 (.t 5) (.t 6)) [0,1],
 ⟨false,⟨(some 2),.mov (.t 7),[2,2,0,1,2],none⟩⟩] 241
 .ret)))⟩
def f45:FFn:=⟨26,[.tmp 4],
 (fq [fz 4 (.mov (.c (.bool false))) []] 16
 (.seq (fq [fm 6 0 [],
 fv 7 6 [0],
 fm 8 1 [],
 fv 9 8 [2],
 fb 10 .neq 7 9 [1,3]] 960
 (.cond (.t 10)
 (fq [fz 4 (.mov (.c (.bool false))) []] 1027
 .ret)
 .skip))
 (.seq (fq [fm 11 0 [],
 fv 12 11 [0],
 fn 13 0 []] 3088
 (.block 0 (.loop (fq [fb 14 .lss 13 12 []] 0
 (.seq (fo 14 0)
 (.seq (.block 1 (fq [fm 15 13 [],
 fm 5 15 [0,0]] 49152
 (fq [fm 16 0 [],
 fm 17 5 [],
 fi 18 4 16 17 [0,1],
 fw 19 4 18 [2],
 fm 20 1 [],
 fm 21 5 [],
 fi 22 4 20 21 [4,5],
 fw 23 4 22 [6],
 fz 24 (.eq (.flat true [.i,.i,.i,.i]) true (.t 19) (.t 23)) [3,7]] 16711712
 (.cond (.t 24)
 (fq [fz 4 (.mov (.c (.bool false))) []] 16789507
 .ret)
 .skip))))
 (fr [fc 25 .add 13 1 [],
 ⟨false,⟨(some 13),.mov (.t 25),[0],none⟩⟩] 50331664)))))))
 (fq [fz 4 (.mov (.c (.bool true))) []] 12291
 .ret))))⟩
def f48:FFn:=⟨19,[.tmp 4],
 (fq [fn 4 0 []] 16
 (.seq (fq [fm 6 0 [],
 fv 7 6 [0],
 fn 8 0 []] 64
 (.block 0 (.loop (fq [fb 9 .lss 8 7 []] 0
 (.seq (fo 9 0)
 (.seq (.block 1 (fq [fm 10 8 [],
 fm 5 10 [0,0]] 1536
 (fq [fm 11 1 [],
 fm 12 0 [],
 fm 13 5 [],
 fi 14 3 12 13 [1,2],
 fw 15 3 14 [3],
 fz 16 (.call .heap (.t 11) [(.t 15)]) [0,4]] 63488
 (.cond (.t 16)
 (fq [fm 17 5 [],
 fm 4 17 [0,0]] 197027
 .ret)
 .skip))))
 (fr [fc 18 .add 8 1 [],
 ⟨false,⟨(some 8),.mov (.t 18),[0],none⟩⟩] 327728)))))))
 (fq [fz 4 (.mov (.c (.int .i64 (.negSucc 0)))) []] 387
 .ret)))⟩
def f60:FFn:=⟨12,[.tmp 2],
 (fq [fz 1 (.box .dyn (.t 0)) [],
 fz 2 (.mov (.c (.bool false))) []] 5
 (.seq (.region [fw 3 4 1 [],
 fg 4 112 [3] [0],
 fc 5 .eql 4 0 [1],
 fm 6 5 [2,1],
 fx 7 (.load (some 4) (.t 1)) [3] 6 true,
 fx 8 (.load (some 4) (.t 1)) [3] 6 true,
 fx 9 (.call .heap (.f 150) [(.t 8)]) [5,3,3] 6 true,
 fx 10 (.call .heap (.f 33) [(.t 7),(.t 9)]) [4,6,6,3] 6 true,
 fz 11 (.pick (.t 6) (.t 10) (.c (.bool false))) [3,7],
 fm 2 11 (fa [8,7] 9)] [(4,6)] 4090)
 .ret))⟩
def f68:FFn:=⟨21,[.cell 6 (some 5)],
 (fq [fz 6 (.alloc .dyn (.agg [(.str []),fN,fO,fN,fN])) []] 0
 (fq [fm 8 1 [],
 fm 9 2 [],
 fz 10 (.bslice false .dyn 1 2 [fO,fO] [(0,1,(.t 8)),(1,1,(.t 9))]) [0,1],
 fz 11 (.bslice false .dyn 1 1 [fO] [(0,1,(fk 0))]) [],
 fm 12 1 [],
 fz 13 (.build [fO,fO,fO] [(0,1,(fk 0)),(1,1,(.t 12)),(2,1,(fk 1))]) [4],
 fm 14 2 [],
 fz 15 (.build [fO,fO,fO] [(0,1,(fk 1)),(1,1,(.t 14)),(2,1,(fk 0))]) [6],
 fz 16 (.bslice false .dyn 3 2 [fO,fO,fO,fO,fO,fO] [(0,3,(.t 13)),(3,3,(.t 15))]) [5,7],
 fz 17 (.build [fN,fO,fN,fN] [(0,1,(.t 10)),(1,1,(fk 2)),(2,1,(.t 11)),(3,1,(.t 16))]) [2,3,8],
 fz 7 (.alloc .dyn (.agg [fN,fO,fN,fN])) [],
 fj 4 7 17 (fa [10,9] 11)] 261894
 (fq [fm 18 0 [],
 fw 19 4 7 [],
 fz 20 (.build [(.str []),fN,fO,fN,fN] [(0,1,(.t 18)),(1,4,(.t 19))]) [0,1],
 fj 5 6 20 [2,0,1,2]] 1835137
 .ret)))⟩
def f69:FFn:=⟨19,[.tmp 2],
 (fq [fz 2 (.mov (.c fN)) []] 4
 (fq [fz 3 (.mov (.c fN)) []] 0
 (.seq (fq [fm 6 0 [],
 fv 7 6 [0],
 fn 8 0 []] 1
 (.block 0 (.loop (fq [fb 9 .lss 8 7 []] 0
 (.seq (fo 9 0)
 (.seq (.block 1 (fq [fi 10 5 6 8 [],
 fw 11 5 10 [0],
 fz 5 (.alloc .dyn (.agg [(.str []),fN,fO,fN,fN])) [],
 fj 5 5 11 [2,1,0,1,2]] 3584
 (fr [fm 12 3 [],
 ff 13 1 5 [],
 fw 14 4 13 [1],
 fz 15 (.bslice false .dyn 4 1 [fN,fO,fN,fN] [(0,4,(.t 14))]) [2],
 fz 16 (.append .dyn 4 80 (.t 12) (.t 15)) [0,3],
 ⟨false,⟨(some 3),.mov (.t 16),[4,4,0,1,2,3,4],none⟩⟩] 127008)))
 (fr [fc 17 .add 8 1 [],
 ⟨false,⟨(some 8),.mov (.t 17),[0],none⟩⟩] 131072)))))))
 (fq [fm 18 3 [],
 fm 2 18 [0,0]] 262600
 .ret))))⟩
def f70:FFn:=⟨75,[.tmp 2,.tmp 3],
 (fq [fz 1 (.box .dyn (.t 0)) [],
 fz 2 (.mov (.c .nilptr)) [],
 fn 3 0 [1]] 13
 (fq [fw 8 5 1 [],
 fz 9 (.build [fN,fN,fN,fN,fN,fN,fO,fN,fN,fN,fN,fO,fN,fN,fN,fN,fN,fN,.nilmap] [(0,5,(.t 8))]) [0],
 fz 10 (.box .dyn (.t 9)) [1],
 fm 4 10 [2,0,1,2]] 1792
 (fq [fn 5 0 []] 32
 (.seq (fq [fm 12 4 [],
 fm 13 4 [],
 fw 14 5 1 [],
 fg 15 17 [14] [2],
 fm 11 15 [3],
 fe 16 0 11 [4],
 fe 17 1 11 [4],
 fe 18 2 11 [4],
 fz 19 (.nilchk (.t 12)) [0,0,2,3,4,5],
 ff 20 5 19 [8,0,2,3,4,5],
 fj 4 20 16 [9,5,3,0,2,3,4,5],
 fz 21 (.nilchk (.t 13)) [1,0,1,2,3,4,5,6,8,9,10],
 ff 22 9 21 [11,0,1,2,3,4,5,6,8,9,10],
 fj 1 22 17 [12,6,10,0,1,2,3,4,5,6,8,9,10],
 fm 5 18 (fa [7,13] 14)] 8386560
 (fq [fm 23 5 [],
 fc 24 .neq 23 0 [0]] 8388608
 (.cond (.t 24)
 (fq [fm 25 5 [],
 fz 2 (.mov (.c .nilptr)) [],
 fm 3 25 [0,1,0,1]] 50331698
 .ret)
 .skip)))
 (.seq (.seq (.region [fm 27 4 [],
 fm 28 4 [],
 ff 29 1 1 [],
 fl 30 29 [2],
 fg 31 69 [30] [3],
 ff 32 2 1 [],
 fl 33 32 [5],
 fg 34 69 [33] [6,4],
 fz 35 (.append .dyn 4 80 (.t 31) (.t 34)) [4,7,7],
 fg 36 28 [35] [8,8],
 fm 26 36 [9],
 fe 37 0 26 [10],
 fe 38 1 26 [10],
 fe 39 2 26 [10],
 fz 40 (.nilchk (.t 27)) [0,0,2,3,4,5,6,7,8,9,10,11],
 ff 41 10 40 [14,0,2,3,4,5,6,7,8,9,10,11],
 fj 4 41 37 [15,11,9,0,2,3,4,5,6,7,8,9,10,11],
 fz 42 (.nilchk (.t 28)) [1,0,1,2,3,4,5,6,7,8,9,10,11,12,14,15,16],
 ff 43 14 42 [17,0,1,2,3,4,5,6,7,8,9,10,11,12,14,15,16],
 fj 1 43 38 [18,12,16,0,1,2,3,4,5,6,7,8,9,10,11,12,14,15,16],
 ⟨false,⟨(some 5),.mov (.t 39),[13,19,0,1,2,3,4,5,6,7,8,9,10,11,12,13,14,15,16,17,18,19],none⟩⟩] [(4,6)] 17592135712780)
 (fq [fm 44 5 [],
 fc 45 .neq 44 0 [0]] 17592186044416
 (.cond (.t 45)
 (fq [fm 46 5 [],
 fz 2 (.mov (.c .nilptr)) [],
 fm 3 46 [0,1,0,1]] 105553116266546
 .ret)
 .skip)))
 (fq [fm 47 4 [],
 fm 48 4 [],
 fw 49 5 1 [],
 fg 50 85 [49] [2],
 fz 51 (.mkmap .dyn) [],
 fz 52 (.nilchk (.t 47)) [0,0,2,3],
 ff 53 15 52 [5,0,2,3],
 fj 3 53 50 [6,3,3,0,2,3],
 fz 54 (.nilchk (.t 48)) (fa [1] 8),
 ff 55 18 54 (fa [8] 8),
 fj 1 55 51 (fa [9,4,7] 8)] 71952040921661486
 (.seq (fq [fm 56 4 [],
 fz 57 (.nilchk (.t 56)) [0],
 ff 58 9 57 [1],
 fl 59 58 [2],
 fv 60 59 [3],
 fn 61 0 []] 504403158265495552
 (.block 0 (.loop (fq [fb 62 .lss 61 60 []] 0
 (.seq (fo 62 0)
 (.seq (.block 1 (fq [fm 63 61 [],
 fi 64 1 59 61 [],
 fl 65 64 [1],
 fm 6 63 [0,0,1,2],
 fm 7 65 [2,3,0,1,2,3]] 69175290276410818560
 (.region [fm 66 4 [],
 fz 67 (.nilchk (.t 66)) [0],
 ff 68 18 67 [1],
 fl 69 68 [2],
 fm 70 7 [],
 fg 71 72 [70] [4],
 fm 72 6 [],
 ⟨false,⟨none,.mupd false [.s] (.t 69) (.t 71) (.t 72),[3,5,6,5,0,1,2,3,4,5,6],none⟩⟩] [(3,5)] 9370945989444452221120)))
 (fr [fc 73 .add 61 1 [],
 ⟨false,⟨(some 61),.mov (.t 73),[0],none⟩⟩] 9444732965739290427392)))))))
 (fq [fm 74 4 [],
 fm 2 74 [0,0],
 fn 3 0 [1,0,1]] 18893501156744704819216
 .ret))))))))⟩
def f71:FFn:=⟨20,[.tmp 4,.tmp 5],
 (fq [fz 4 (.mov (.c fN)) [],
 fz 5 (.mov (.c fN)) [0]] 48
 (fq [fm 7 0 [],
 fz 8 (.nilchk (.t 7)) [0],
 ff 9 0 8 [1],
 ff 10 1 9 [2],
 fl 11 10 [3],
 fv 12 11 [4],
 fm 6 12 (fa [5] 6)] 8065
 (fq [fm 13 1 [],
 fm 14 6 [],
 fm 15 6 [],
 fz 16 (.slice (some 1) (.t 13) none (some (.t 14)) (some (.t 15))) [0,1,2],
 fm 17 1 [],
 fm 18 6 [],
 fz 19 (.slice (some 1) (.t 17) (some (.t 18)) none none) [4,5],
 fm 4 16 [3,0,1,2,3],
 fm 5 19 (fa [6,7] 8)] 1040450
 .ret)))⟩
def f72:FFn:=⟨18,[.tmp 2],
 (fq [fz 2 (.mov (.c (.str []))) []] 4
 (fq [fz 3 (.allocT 238 .dyn (.agg [.nilptr,fN])) []] 0
 (.seq (fq [fm 6 0 [],
 fv 7 6 [0],
 fn 8 0 []] 1
 (.block 0 (.loop (fq [fb 9 .lss 8 7 []] 0
 (.seq (fo 9 0)
 (.seq (.block 1 (fq [fi 10 1 6 8 [],
 fl 11 10 [0],
 fm 5 11 [1,0,1]] 3584
 (fr [fm 12 5 [],
 fg 13 155 [12] [0],
 fz 14 (.bin .add (.t 13) (.c (.str [32]))) [1],
 fg 15 154 [3,14] [2,1]] 61472)))
 (fr [fc 16 .add 8 1 [],
 ⟨false,⟨(some 8),.mov (.t 16),[0],none⟩⟩] 65536)))))))
 (fq [fg 17 156 [3] [],
 fm 2 17 [0,0,0]] 131528
 .ret))))⟩
def f73:FFn:=⟨35,[.tmp 4,.tmp 5,.tmp 6,.tmp 7],
 (fq [fz 2 (.box .dyn (.t 0)) [],
 fn 4 0 [],
 fn 5 0 [1],
 fz 6 (.mov (.c (.bool false))) [2],
 fn 7 0 [3]] 241
 (.seq (fq [fw 10 3 2 [],
 fm 11 1 [],
 fg 12 157 [10,11] [0,1],
 fm 8 12 [2,2,0,1,2]] 7168
 (fq [fm 13 8 [],
 fc 14 .neq 13 0 [0]] 8192
 (.cond (.t 14)
 (fq [fm 15 8 [],
 fn 4 0 [],
 fn 5 0 [1,1],
 fz 6 (.mov (.c (.bool false))) [2,1,2],
 fm 7 15 [0,3,0,1,2,3]] 49414
 .ret)
 .skip)))
 (fq [fw 16 3 2 [],
 fg 17 159 [16] [0],
 fm 18 1 [],
 fg 19 158 [17,18] [1,2,1],
 fm 9 19 [3,3,0,1,2,3]] 999922
 (.block 0 (fq [fm 26 9 [],
 fc 27 .lss 26 0 [0],
 fm 25 27 [1]] 201326592
 (.cond (.t 25)
 (fq [fn 4 0 [],
 fn 5 0 [0,0],
 fz 6 (.mov (.c (.bool false))) [1,0,1],
 fn 7 0 [2,0,1,2]] 33554948
 .ret)
 (fq [fm 29 9 [],
 ff 30 1 2 [],
 fl 31 30 [1],
 fv 32 31 [2],
 fb 33 .lss 29 32 [0,3],
 fm 28 33 [4]] 16676552704
 (.cond (.t 28)
 (fq [fm 34 9 [],
 fn 4 1 [],
 fm 5 34 [0,1,0,1],
 fz 6 (.mov (.c (.bool true))) [2,0,1,2],
 fn 7 0 [3,0,1,2,3]] 17448305156
 .ret)
 (fq [fm 20 9 [],
 ff 21 1 2 [],
 fl 22 21 [1],
 fv 23 22 [2],
 fb 24 .sub 20 23 [0,3],
 fn 4 2 [],
 fm 5 24 (fa [4,5] 6),
 fz 6 (.mov (.c (.bool true))) (fa [6] 7),
 fn 7 0 (fa [7] 8)] 300941828
 .ret)))))))))⟩
def f74:FFn:=⟨8,[.tmp 6],
 (fq [fz 3 (.box .dyn (.t 0)) [],
 fz 4 (.box .dyn (.t 1)) [],
 fz 5 (.box .dyn (.t 2)) [],
 fz 6 (.mov (.c .nilfn)) []] 71
 (fq [fz 7 (.mkfn 160 [] [(.t 3),(.t 4),(.t 5)]) [],
 fm 6 7 [0,0]] 184
 .ret))⟩
def f75:FFn:=⟨8,[.tmp 2],
 (fq [fz 2 (.mov (.c fN)) []] 4
 (.seq (fq [fm 3 0 [],
 fz 4 (.eqn false (.t 3)) [0]] 8
 (.cond (.t 4)
 (fq [fz 2 (.mov (.c fN)) []] 17
 .ret)
 .skip))
 (fq [fz 5 (.bslice false .dyn 3 0 [] []) [],
 fm 6 0 [],
 fz 7 (.append .dyn 3 24 (.t 5) (.t 6)) [0,1],
 ⟨false,⟨(some 2),.mov (.t 7),[2,2,0,1,2],none⟩⟩] 241
 .ret)))⟩
def f76:FFn:=⟨14,[],
 (fq [fm 5 0 [],
 fv 6 5 [0],
 fm 4 6 [1,0,1]] 96
 (fr [fm 7 0 [],
 fm 8 4 [],
 fm 9 4 [],
 fz 10 (.conv .u64 (.t 9)) [2],
 fg 11 164 [10] [3],
 fm 12 1 [],
 fz 13 (.call .heap (.f 163) [(.t 7),(fk 0),(.t 8),(.t 11),(.t 12)]) [0,1,4,5,4]] 16275))⟩
def f77:FFn:=⟨20,[.tmp 4],
 (fq [fz 2 (.box .dyn (.t 0)) [],
 fz 3 (.box .dyn (.t 1)) [],
 fn 4 0 []] 19
 (.seq (fq [ff 5 0 2 [],
 fl 6 5 [0],
 ff 7 0 3 [],
 fl 8 7 [2],
 fb 9 .neq 6 8 [1,3]] 480
 (.cond (.t 9)
 (fq [ff 10 0 2 [],
 fl 11 10 [0],
 ff 12 0 3 [],
 fl 13 12 [2],
 fb 14 .sub 11 13 [1,3],
 fm 4 14 (fa [4] 5)] 32268
 .ret)
 .skip))
 (fq [ff 15 1 2 [],
 fl 16 15 [0],
 ff 17 1 3 [],
 fl 18 17 [2],
 fb 19 .sub 16 18 [1,3],
 ⟨false,⟨(some 4),.mov (.t 19),[4,0,1,2,3,4],none⟩⟩] 1016332
 .ret)))⟩
def f82:FFn:=⟨51,[.tmp 2],
 (fq [fn 2 0 []] 4
 (.seq (fq [fm 6 0 [],
 fv 7 6 [0],
 fc 8 .gtr 7 32 [1]] 192
 (.cond (.t 8)
 (fq [fn 2 3 []] 257
 .ret)
 .skip))
 (fq [fz 9 (.mkmap .dyn) [],
 fm 3 9 [0,0]] 772
 (.seq (fq [fm 10 0 [],
 fv 11 10 [0],
 fn 12 0 []] 1
 (.block 0 (.loop (fq [fb 13 .lss 12 11 []] 0
 (.seq (fo 13 0)
 (.seq (.block 1 (fq [fi 14 5 10 12 [],
 fw 15 5 14 [0],
 fz 5 (.alloc .dyn (.agg [(.str []),(.bool false),(.bool false),(.bool false),fO])) [],
 fj 5 5 15 [2,1,0,1,2]] 57344
 (.seq (.block 2 (fq [ff 17 0 5 [],
 fl 18 17 [0],
 fg 19 135 [18] [1],
 fu 20 19 [2],
 fm 16 20 [3,2]] 1966080
 (.cond (.t 16)
 (fq [fn 2 7 []] 69284265008168
 .ret)
 (fq [fm 22 3 [],
 ff 23 0 5 [],
 fl 24 23 [1],
 fz 25 (.lookup false [.s] (.bool false) false (.t 22) (.t 24)) [0,2],
 fm 21 25 [3]] 62980096
 (.cond (.t 21)
 (fq [fn 2 8 []] 69284267039784
 .ret)
 (fq [ff 27 4 5 [],
 fl 28 27 [0],
 fc 29 .lss 28 0 [1],
 fm 30 29 [2],
 ⟨false,⟨(some 31),.faddr 4 (.t 5),[3],(some (30,false))⟩⟩,
 ⟨false,⟨(some 32),.load none (.t 31),[4,3],(some (30,false))⟩⟩,
 ⟨false,⟨(some 33),.bin .gtr (.t 32) (.c (.int .i64 (.ofNat 4))),[5,3],(some (30,false))⟩⟩,
 fz 34 (.pick (.t 30) (.c (.bool true)) (.t 33)) [3,6],
 fm 26 34 [7,3]] 19195232256
 (.cond (.t 26)
 (fq [fn 2 2 []] 69284332051496
 .ret)
 (fq [ff 36 4 5 [],
 fl 37 36 [0],
 fc 38 .neq 37 0 [1],
 fm 39 38 [2],
 ⟨false,⟨(some 40),.faddr 1 (.t 5),[3],(some (39,true))⟩⟩,
 ⟨false,⟨(some 41),.load none (.t 40),[4,3],(some (39,true))⟩⟩,
 ⟨false,⟨(some 42),.mov (.t 41),[5,3,3],(some (39,true))⟩⟩,
 ⟨false,⟨(some 43),.faddr 2 (.t 5),[6],(some (42,false))⟩⟩,
 ⟨false,⟨(some 44),.load none (.t 43),[7,6],(some (42,false))⟩⟩,
 ⟨false,⟨(some 45),.pick (.t 42) (.c (.bool true)) (.t 44),[6,8,3],(some (39,true))⟩⟩,
 fz 46 (.pick (.t 39) (.t 45) (.c (.bool false))) [3,9],
 fm 35 46 [10,6]] 71399603437568
 (.cond (.t 35)
 (fq [fn 2 13 []] 69318624681000
 .ret)
 .skip)))))))))
 (fr [fm 47 3 [],
 ff 48 0 5 [],
 fl 49 48 [1],
 ⟨false,⟨none,.mupd false [.s] (.t 47) (.t 49) (.c (.bool true)),[0,2,0,1,2],none⟩⟩] 985196778225700))))
 (fr [fc 50 .add 12 1 [],
 ⟨false,⟨(some 12),.mov (.t 50),[0],none⟩⟩] 1125899906842624)))))))
 (fq [fn 2 0 []] 69284264942600
 .ret)))))⟩
def f83:FFn:=⟨52,[.tmp 8],
 (fq [fz 4 (.box .dyn (.t 0)) [],
 fz 5 (.box .dyn (.t 1)) [],
 fn 8 0 []] 259
 (.seq (.block 0 (fq [ff 11 0 4 [],
 fl 12 11 [0],
 fg 13 135 [12] [1],
 fu 14 13 [2],
 fm 10 14 [3,2]] 30720
 (.cond (.t 10)
 (fq [fn 8 7 []] 1084
 .ret)
 (fq [fm 16 3 [],
 ff 17 0 4 [],
 fl 18 17 [1],
 fz 19 (.lookup false [.s] (.bool false) false (.t 16) (.t 18)) [0,2],
 fm 15 19 [3]] 984064
 (.cond (.t 15)
 (fq [fn 8 8 []] 32828
 .ret)
 .skip)))))
 (fq [fm 20 3 [],
 ff 21 0 4 [],
 fl 22 21 [1],
 ⟨false,⟨none,.mupd false [.s] (.t 20) (.t 22) (.c (.bool true)),[0,2,0,1,2],none⟩⟩] 7373064
 (.seq (fq [ff 23 1 4 [],
 fw 24 4 23 [0],
 fg 25 112 [24] [1],
 fm 9 25 [2,2,0,1,2]] 58720256
 (fq [fm 26 9 [],
 fc 27 .neq 26 0 [0]] 67108864
 (.cond (.t 27)
 (fq [fm 28 9 [],
 fm 8 28 [0,0]] 402653748
 .ret)
 .skip)))
 (.seq (.block 1 (fq [ff 30 1 4 [],
 fw 31 4 30 [0],
 fg 32 60 [31] [1],
 fu 33 32 [2],
 fm 29 33 [3,2]] 16240345856
 (.cond (.t 29)
 (fq [fn 8 6 []] 536870964
 .ret)
 (fq [ff 35 1 4 [],
 ff 36 1 35 [0],
 fl 37 36 [1],
 fc 38 .eql 37 0 [2],
 fm 34 38 [3]] 515932946432
 (.cond (.t 34)
 (fq [fn 8 12 []] 17179869236
 .ret)
 (fq [ff 40 1 4 [],
 ff 41 0 40 [0],
 fl 42 41 [1],
 fz 43 (.mkfn 166 [] [(.t 5)]) [],
 fg 44 36 [42,43] [2,3],
 fm 39 44 [4,4]] 34102040330272
 (.cond (.t 39)
 (fq [fn 8 2 []] 549755813908
 .ret)
 (fq [ff 46 1 4 [],
 ff 47 0 46 [0],
 fl 48 47 [1],
 fm 49 2 [],
 fg 50 167 [48,49] [2,3],
 fu 51 50 [4],
 fm 45 51 [5,4]] 4433780639006740
 (.cond (.t 45)
 (fq [fn 8 9 []] 35184372088832
 .ret)
 .skip)))))))))
 (fq [⟨false,⟨(some 8),.mov (.c fO),[],none⟩⟩] 35184372088832
 .ret))))))⟩
def f84:FFn:=⟨8,[.tmp 4],
 (fq [fz 4 (.mov (.c fN)) []] 16
 (fq [fm 5 0 [],
 fm 6 1 [],
 fz 7 (.call .heap (.f 168) [(.t 5),(.t 6),(.f 169)]) [0,1],
 fm 4 7 [2,2,0,1,2]] 227
 .ret))⟩
def f85:FFn:=⟨68,[.cell 2 (some 3)],
 (fq [fz 1 (.box .dyn (.t 0)) [],
 fz 2 (.alloc .dyn (.agg [fN,fN,fN])) []] 1
 (fq [fz 10 (.build [fN,fN,fN] []) [],
 fz 3 (.alloc .dyn (.agg [fN,fN,fN])) [],
 fj 3 3 10 [1,0,0,1]] 1024
 (.seq (fq [ff 11 1 1 [],
 fl 12 11 [0],
 fv 13 12 [1],
 fn 14 0 []] 2048
 (.block 0 (.loop (fq [fb 15 .lss 14 13 []] 0
 (.seq (fo 15 0)
 (.seq (.block 1 (fq [fi 16 5 12 14 [],
 fw 17 5 16 [0],
 fz 5 (.alloc .dyn (.agg [(.str []),fN,fO,fN,fN])) [],
 fj 5 5 17 [2,1,0,1,2]] 229376
 (fr [ff 18 0 3 [],
 fl 19 18 [0],
 ff 20 1 5 [],
 ff 21 1 20 [2],
 fl 22 21 [3],
 fz 23 (.bslice false .dyn 1 1 [fO] [(0,1,(.t 22))]) [4],
 fz 24 (.append .dyn 1 8 (.t 19) (.t 23)) [1,5],
 ff 25 0 3 (fa [] 7),
 fj 1 25 24 (fa [7,6,6] 7)] 66846752)))
 (fr [fc 26 .add 14 1 [],
 ⟨false,⟨(some 14),.mov (.t 26),[0],none⟩⟩] 67108864)))))))
 (.seq (fq [ff 27 3 1 [],
 fl 28 27 [0],
 fv 29 28 [1],
 fn 30 0 []] 134246400
 (.block 2 (.loop (fq [fb 31 .lss 30 29 []] 0
 (.seq (fo 31 2)
 (.seq (.block 3 (fq [fi 32 2 28 30 [],
 fw 33 2 32 [0],
 fz 7 (.alloc .dyn (.agg [(.str []),fN])) [],
 fj 2 7 33 [2,1,0,1,2]] 15032385536
 (.region [ff 34 1 3 [],
 fl 35 34 [0],
 ff 36 0 7 [],
 fl 37 36 [2],
 ff 38 1 7 [],
 fl 39 38 [4],
 fg 40 148 [39] [5],
 fz 41 (.build [(.str []),fN] [(0,1,(.t 37)),(1,1,(.t 40))]) [3,6],
 fz 42 (.bslice false .dyn 2 1 [(.str []),fN] [(0,2,(.t 41))]) [7],
 fz 43 (.append .dyn 2 40 (.t 35) (.t 42)) [1,8,6],
 ff 44 1 3 (fa [] 10),
 fj 1 44 43 (fa [10,9,9] 10)] [(1,6),(3,6),(1,8)] 35167192219776)))
 (fr [fc 45 .add 30 1 [],
 ⟨false,⟨(some 30),.mov (.t 45),[0],none⟩⟩] 35184372088832)))))))
 (.seq (fq [ff 46 4 1 [],
 fl 47 46 [0],
 fv 48 47 [1],
 fn 49 0 []] 70370623225858
 (.block 4 (.loop (fq [fb 50 .lss 49 48 []] 0
 (.seq (fo 50 4)
 (.seq (.block 5 (fq [fi 51 3 47 49 [],
 fw 52 3 51 [0],
 fz 9 (.alloc .dyn (.agg [(.str []),fN,fO])) [],
 fj 3 9 52 [2,1,0,1,2]] 7881299347898368
 (.region [ff 53 2 3 [],
 fl 54 53 [0],
 ff 55 0 9 [],
 fl 56 55 [2],
 ff 57 1 9 [],
 fl 58 57 [4],
 fg 59 149 [58] [5],
 ff 60 2 9 [],
 fl 61 60 [7],
 fz 62 (.build [(.str []),fN,fO] [(0,1,(.t 56)),(1,1,(.t 59)),(2,1,(.t 61))]) [3,6,8],
 fz 63 (.bslice false .dyn 3 1 [(.str []),fN,fO] [(0,3,(.t 62))]) [9],
 fz 64 (.append .dyn 3 48 (.t 54) (.t 63)) [1,10,6],
 ff 65 2 3 (fa [] 12),
 fj 1 65 64 (fa [12,11,11] 12)] [(1,6),(3,6),(6,8),(1,10)] 73777969095583465984)))
 (fr [fc 66 .add 49 1 [],
 ⟨false,⟨(some 49),.mov (.t 66),[0],none⟩⟩] 73786976294838206464)))))))
 (fq [fw 67 3 3 [],
 fj 3 2 67 [0,0]] 147574937752094900232
 .ret))))))⟩
def f90:FFn:=⟨14,[.tmp 4],
 (fq [fz 4 (.mov (.c fN)) []] 16
 (fq [fm 6 0 [],
 fg 7 41 [6] [0],
 fm 8 1 [],
 fz 9 (.append .dyn 1 8 (.t 7) (.t 8)) [1,2,1],
 fm 5 9 [3,3,0,1,2,3]] 963
 (fq [fm 10 5 [],
 fg 11 183 [10] [0]] 3072
 (fq [fm 12 5 [],
 fg 13 184 [12] [0],
 fm 4 13 [1,1,0,1]] 12320
 .ret))))⟩
def f95:FFn:=⟨21,[.tmp 2],
 (fq [fn 2 0 []] 4
 (.seq (fq [fm 6 0 [],
 fv 7 6 [0],
 fc 8 .gtr 7 12 [1]] 192
 (.cond (.t 8)
 (fq [fn 2 3 []] 257
 .ret)
 .skip))
 (.seq (fq [fm 9 0 [],
 fv 10 9 [0],
 fn 11 0 []] 261
 (.block 0 (.loop (fq [fb 12 .lss 11 10 []] 0
 (.seq (fo 12 0)
 (.seq (.block 1 (fq [fi 13 4 9 11 [],
 fw 14 4 13 [0],
 fz 4 (.alloc .dyn (.agg [fN,fO,fN,fN])) [],
 fj 4 4 14 [2,1,0,1,2]] 28672
 (fq [fw 15 4 4 [],
 fg 16 112 [15] [0],
 fm 5 16 [1,1,0,1]] 98320
 (fq [fm 17 5 [],
 fc 18 .neq 17 0 [0]] 131072
 (.cond (.t 18)
 (fq [fm 19 5 [],
 fm 2 19 [0,0]] 790048
 .ret)
 .skip)))))
 (fr [fc 20 .add 11 1 [],
 ⟨false,⟨(some 11),.mov (.t 20),[0],none⟩⟩] 1310756)))))))
 (fq [fn 2 0 []] 3584
 .ret))))⟩
def f96:FFn:=⟨44,[.cell 2 (some 3)],
 (fq [fz 2 (.alloc .dyn (.agg [fN,fN,fN])) []] 0
 (fq [fm 9 0 [],
 fm 10 0 [],
 fg 11 187 [10] [1],
 fz 12 (.build [fN,fN,fN] [(0,1,(.t 9)),(1,1,(.t 11))]) [0,2],
 fz 3 (.alloc .dyn (.agg [fN,fN,fN])) [],
 fj 3 3 12 (fa [4,3,2] 5)] 7680
 (.seq (fq [fm 13 0 [],
 fv 14 13 [0],
 fn 15 0 []] 1
 (.block 0 (.loop (fq [fb 16 .lss 15 14 []] 0
 (.seq (fo 16 0)
 (.seq (.block 1 (fq [fi 17 4 13 15 [],
 fw 18 4 17 [0],
 fz 5 (.alloc .dyn (.agg [fN,fO,fN,fN])) [],
 fj 4 5 18 [2,1,0,1,2]] 458752
 (fq [fz 19 (.mkmap .dyn) [],
 fm 6 19 [0,0]] 524288
 (.seq (fq [ff 20 3 5 [],
 fl 21 20 [0],
 fv 22 21 [1],
 fn 23 0 []] 1048608
 (.block 2 (.loop (fq [fb 24 .lss 23 22 []] 0
 (.seq (fo 24 2)
 (.seq (.block 3 (fq [fi 25 3 21 23 [],
 fw 26 3 25 [0],
 fz 8 (.alloc .dyn (.agg [fO,fO,fO])) [],
 fj 3 8 26 [2,1,0,1,2]] 117440512
 (fr [fm 27 6 [],
 ff 28 0 8 [],
 fl 29 28 [1],
 ff 30 1 8 [],
 fl 31 30 [3],
 fz 32 (.build [fO,fO] [(0,1,(.t 29)),(1,1,(.t 31))]) [2,4],
 ff 33 2 8 [],
 fl 34 33 [6],
 ⟨false,⟨none,.mupd true [.i,.i] (.t 27) (.t 32) (.t 34),[0,5,7,0,1,2,3,4,5,6,7],none⟩⟩] 34225520896)))
 (fr [fc 35 .add 23 1 [],
 ⟨false,⟨(some 23),.mov (.t 35),[0],none⟩⟩] 34359738368)))))))
 (fr [ff 36 2 3 [],
 fl 37 36 [0],
 fm 38 6 [],
 fz 39 (.bslice false .dyn 1 1 [.nilmap] [(0,1,(.t 38))]) [2],
 fz 40 (.append .dyn 1 8 (.t 37) (.t 39)) [1,3],
 ff 41 2 3 (fa [] 5),
 fj 1 41 40 (fa [5,4,4] 5)] 4329341714496)))))
 (fr [fc 42 .add 15 1 [],
 ⟨false,⟨(some 15),.mov (.t 42),[0],none⟩⟩] 4398046511104)))))))
 (fq [fw 43 3 3 [],
 fj 3 2 43 [0,0]] 8796093079560
 .ret))))⟩
def f97:FFn:=⟨21,[.tmp 2,.tmp 3],
 (fq [fz 1 (.box .dyn (.t 0)) [],
 fz 2 (.mov (.c fN)) [],
 fz 3 (.mov (.c (.bool false))) [1]] 13
 (.seq (fq [ff 6 0 1 [],
 fl 7 6 [0],
 fv 8 7 [1],
 fn 9 0 []] 64
 (.block 0 (.loop (fq [fb 10 .lss 9 8 []] 0
 (.seq (fo 10 0)
 (.seq (.block 1 (fq [fi 11 4 7 9 [],
 fw 12 4 11 [0],
 fz 5 (.alloc .dyn (.agg [fN,fO,fN,fN])) [],
 fj 4 5 12 [2,1,0,1,2]] 7168
 (fq [ff 13 1 5 [],
 fl 14 13 [0],
 fc 15 .eql 14 0 [1]] 24608
 (.cond (.t 15)
 (fq [fz 2 (.mov (.c fN)) [],
 fz 3 (.mov (.c (.bool false))) [0,0]] 33666
 .ret)
 .skip))))
 (fr [fc 16 .add 9 1 [],
 ⟨false,⟨(some 9),.mov (.t 16),[0],none⟩⟩] 98316)))))))
 (fq [ff 17 0 1 [],
 fl 18 17 [0],
 fv 19 18 [1],
 fz 20 (.mkslice .dyn 1 8 [fO] (.t 19) (.t 19)) [2,2],
 fm 2 20 [3,0,1,2,3],
 fz 3 (.mov (.c (.bool true))) (fa [4] 5)] 1966978
 .ret)))⟩
def f98:FFn:=⟨18,[.tmp 2],
 (fq [fz 2 (.mov (.c (.str []))) []] 4
 (fq [fz 3 (.allocT 238 .dyn (.agg [.nilptr,fN])) []] 0
 (.seq (fq [fm 6 0 [],
 fv 7 6 [0],
 fn 8 0 []] 1
 (.block 0 (.loop (fq [fb 9 .lss 8 7 []] 0
 (.seq (fo 9 0)
 (.seq (.block 1 (fq [fi 10 1 6 8 [],
 fl 11 10 [0],
 fm 5 11 [1,0,1]] 3584
 (fq [fm 12 5 [],
 fg 13 155 [12] [0],
 fg 14 154 [3,13] [1,1]] 28704
 (fr [fz 15 (.call .heap (.f 188) [(.t 3),(.c (.int .u8 (.ofNat 32)))]) []] 32768))))
 (fr [fc 16 .add 8 1 [],
 ⟨false,⟨(some 8),.mov (.t 16),[0],none⟩⟩] 65536)))))))
 (fq [fg 17 156 [3] [],
 fm 2 17 [0,0,0]] 131528
 .ret))))⟩
def f99:FFn:=⟨24,[.tmp 4],
 (fq [fz 2 (.box .dyn (.t 0)) [],
 fz 4 (.mov (.c (.bool false))) []] 17
 (.seq (fq [ff 7 0 2 [],
 fl 8 7 [0],
 fv 9 8 [1],
 fn 10 0 []] 132
 (.block 0 (.loop (fq [fb 11 .lss 10 9 []] 0
 (.seq (fo 11 0)
 (.seq (.block 1 (fq [fm 12 10 [],
 fi 13 4 8 10 [],
 fw 14 4 13 [1],
 fz 6 (.alloc .dyn (.agg [fN,fO,fN,fN])) [],
 fm 5 12 [0,0,1,2,3],
 fj 4 6 14 (fa [3,2,4] 5)] 30720
 (fq [ff 15 2 6 [],
 fl 16 15 [0],
 fm 17 1 [],
 fm 18 5 [],
 fi 19 1 17 18 [2,3],
 fl 20 19 [4],
 fg 21 189 [16,20] [1,5],
 fu 22 21 [6]] 4161632
 (.cond (.t 22)
 (fq [fz 4 (.mov (.c (.bool false))) []] 4196098
 .ret)
 .skip))))
 (fr [fc 23 .add 10 1 [],
 ⟨false,⟨(some 10),.mov (.t 23),[0],none⟩⟩] 12582928)))))))
 (fq [fz 4 (.mov (.c (.bool true))) []] 1794
 .ret)))⟩
def f100:FFn:=⟨51,[.tmp 6,.tmp 7],
 (fq [fz 3 (.box .dyn (.t 0)) [],
 fz 6 (.mov (.c fN)) [],
 fz 7 (.mov (.c (.bool false))) [1]] 193
 (fq [fm 13 1 [],
 fg 14 41 [13] [0],
 fm 8 14 [1,1,0,1]] 24576
 (.seq (fq [ff 15 0 3 [],
 fl 16 15 [0],
 fv 17 16 [1],
 fn 18 0 []] 32768
 (.block 0 (.loop (fq [fb 19 .lss 18 17 []] 0
 (.seq (fo 19 0)
 (.seq (.block 1 (fq [fm 20 18 [],
 fi 21 4 16 18 [],
 fw 22 4 21 [1],
 fz 10 (.alloc .dyn (.agg [fN,fO,fN,fN])) [],
 fm 9 20 [0,0,1,2,3],
 fj 4 10 22 (fa [3,2,4] 5)] 7864320
 (.seq (fq [ff 23 0 10 [],
 fl 24 23 [0],
 fm 25 2 [],
 fg 26 189 [24,25] [1,2],
 fu 27 26 [3]] 125830144
 (.cond (.t 27)
 (.exit 1)
 .skip))
 (fq [ff 29 2 3 [],
 fl 30 29 [0],
 fm 31 9 [],
 fi 32 1 30 31 [1,2],
 fl 33 32 [3],
 fm 34 1 [],
 fm 35 9 [],
 fi 36 1 34 35 [5,6],
 fl 37 36 [7],
 fm 38 2 [],
 fz 39 (.build [fO,fO] [(0,1,(.t 37)),(1,1,(.t 38))]) [8,9],
 fz 40 (.lookup true [.i,.i] fO true (.t 33) (.t 39)) [4,10],
 fm 28 40 [11],
 fe 41 0 28 [12],
 fe 42 1 28 [12],
 fm 11 41 (fa [13] 14),
 fm 12 42 (fa [14,15] 16)] 8795958804480
 (.seq (fq [fm 43 12 [],
 fu 44 43 [0]] 8796093026304
 (.cond (.t 44)
 (fq [fz 6 (.mov (.c fN)) [],
 fz 7 (.mov (.c (.bool false))) [0,0]] 17592186505998
 .ret)
 .skip))
 (fr [fm 45 8 [],
 fm 46 9 [],
 fm 47 11 [],
 fi 48 1 45 46 [0,1,0,1,2],
 fj 1 48 47 [3,2,0,1,2]] 545357767379648))))))
 (fr [fc 49 .add 18 1 [],
 ⟨false,⟨(some 18),.mov (.t 49),[0],none⟩⟩] 562949953421312)))))))
 (fq [fm 50 8 [],
 fm 6 50 [0,0],
 fz 7 (.mov (.c (.bool true))) [1,0,1]] 1125899907301646
 .ret))))⟩
def f101:FFn:=⟨21,[],
 (fq [ff 6 1 1 [],
 fl 7 6 [0],
 fl 8 2 [],
 fz 9 (.slice (some 2) (.t 7) none (some (.t 8)) none) [1,2],
 fv 10 9 [3],
 fn 11 0 []] 454
 (.block 0 (.loop (fq [fb 12 .lss 11 10 []] 0
 (.seq (fo 12 0)
 (.seq (.block 1 (fq [fi 13 2 9 11 [],
 fw 14 2 13 [0],
 fz 5 (.alloc .dyn (.agg [(.str []),fN])) [],
 fj 2 5 14 [2,1,0,1,2]] 28672
 (fq [fm 15 0 [],
 ff 16 0 5 [],
 fl 17 16 [1],
 fz 18 (.call .heap (.t 15) [(.t 17)]) [0,2],
 fu 19 18 [3]] 491552
 (.cond (.t 19)
 .ret
 .skip))))
 (fr [fc 20 .add 11 1 [],
 ⟨false,⟨(some 11),.mov (.t 20),[0],none⟩⟩] 1572864)))))))⟩
def f102:FFn:=⟨14,[.cell 4 none],
 (fq [fz 2 (.box .dyn (.t 0)) [],
 fz 4 (.alloc .dyn fO) []] 1
 (.seq (fq [fl 6 2 [],
 fg 7 135 [6] [0],
 fu 8 7 [1]] 192
 (.cond (.t 8)
 (fq [⟨false,⟨none,.store 1 (.t 4) (.c (.int .i64 (.ofNat 7))),[],none⟩⟩] 262
 .ret)
 .skip))
 (.seq (fq [fm 9 1 []] 258
 (.block 0 (.rfunc (.t 9) [10] 14 (fr [fm 5 10 []] 1536)
 (.block 1 (fq [fm 11 5 [],
 fl 12 2 [],
 fb 13 .eql 11 12 [0,1]] 6180
 (.cond (.t 13)
 (fq [⟨false,⟨none,.store 1 (.t 4) (.c (.int .i64 (.ofNat 8))),[],none⟩⟩] 8192
 .ret)
 .skip))))))
 (fq [⟨false,⟨none,.store 1 (.t 4) (.c fO),[],none⟩⟩] 516
 .ret))))⟩
def f103:FFn:=⟨62,[.tmp 4],
 (fq [fz 2 (.box .dyn (.t 0)) [],
 fz 3 (.box .dyn (.t 1)) [],
 fn 4 0 []] 19
 (.seq (fq [ff 7 1 3 [],
 fl 8 7 [0],
 fv 9 8 [1],
 fc 10 .eql 9 0 [2]] 896
 (.cond (.t 10)
 (fq [fn 4 12 []] 1036
 .ret)
 .skip))
 (.seq (fq [ff 11 1 3 [],
 fl 12 11 [0],
 fv 13 12 [1],
 fn 14 0 []] 3088
 (.block 0 (.loop (fq [fb 15 .lss 14 13 []] 0
 (.seq (fo 15 0)
 (.seq (.block 1 (fq [fm 16 14 [],
 fi 17 2 12 14 [],
 fw 18 2 17 [1],
 fz 6 (.alloc .dyn (.agg [fO,fO])) [],
 fm 5 16 [0,0,1,2,3],
 fj 2 6 18 (fa [3,2,4] 5)] 491520
 (.block 2 (fq [ff 20 0 6 [],
 fl 21 20 [0],
 fc 22 .lss 21 0 [1],
 fm 23 22 [2],
 ⟨false,⟨(some 24),.faddr 0 (.t 6),[3],(some (23,false))⟩⟩,
 ⟨false,⟨(some 25),.load none (.t 24),[4,3],(some (23,false))⟩⟩,
 ⟨false,⟨(some 26),.faddr 0 (.t 2),[3],(some (23,false))⟩⟩,
 ⟨false,⟨(some 27),.load none (.t 26),[6,3],(some (23,false))⟩⟩,
 ⟨false,⟨(some 28),.len 1 (.t 27),[7,3],(some (23,false))⟩⟩,
 ⟨false,⟨(some 29),.bin .geq (.t 25) (.t 28),[5,8,3],(some (23,false))⟩⟩,
 fz 30 (.pick (.t 23) (.c (.bool true)) (.t 29)) [3,9],
 fm 19 30 [10,3]] 1089470464
 (.cond (.t 19)
 (fq [fn 4 2 []] 1150704855863029868
 .ret)
 (fq [fm 32 5 [],
 fc 33 .gtr 32 0 [0],
 fm 34 33 [1],
 ⟨false,⟨(some 35),.faddr 0 (.t 6),[2],(some (34,true))⟩⟩,
 ⟨false,⟨(some 36),.load none (.t 35),[3,2],(some (34,true))⟩⟩,
 ⟨false,⟨(some 37),.faddr 1 (.t 3),[2],(some (34,true))⟩⟩,
 ⟨false,⟨(some 38),.load none (.t 37),[5,2],(some (34,true))⟩⟩,
 ⟨false,⟨(some 39),.mov (.t 5),[2],(some (34,true))⟩⟩,
 ⟨false,⟨(some 40),.bin .sub (.t 39) (.c (.int .i64 (.ofNat 1))),[7,2],(some (34,true))⟩⟩,
 ⟨false,⟨(some 41),.iaddr none 2 (.t 38) (.t 40),[6,8,2],(some (34,true))⟩⟩,
 ⟨false,⟨(some 42),.faddr 0 (.t 41),[9,2],(some (34,true))⟩⟩,
 ⟨false,⟨(some 43),.load none (.t 42),[10,2],(some (34,true))⟩⟩,
 ⟨false,⟨(some 44),.bin .leq (.t 36) (.t 43),[4,11,2],(some (34,true))⟩⟩,
 fz 45 (.pick (.t 34) (.t 44) (.c (.bool false))) [2,12],
 fm 31 45 [13,2]] 35214437384224
 (.cond (.t 31)
 (fq [fn 4 5 []] 1150704858009989196
 .ret)
 (fq [ff 47 1 6 [],
 fl 48 47 [0],
 fc 49 .lss 48 0 [1],
 fm 50 49 [2],
 ⟨false,⟨(some 51),.faddr 1 (.t 6),[3],(some (50,false))⟩⟩,
 ⟨false,⟨(some 52),.load none (.t 51),[4,3],(some (50,false))⟩⟩,
 ⟨false,⟨(some 53),.faddr 0 (.t 2),[3],(some (50,false))⟩⟩,
 ⟨false,⟨(some 54),.load none (.t 53),[6,3],(some (50,false))⟩⟩,
 ⟨false,⟨(some 55),.faddr 0 (.t 6),[3],(some (50,false))⟩⟩,
 ⟨false,⟨(some 56),.load none (.t 55),[8,3],(some (50,false))⟩⟩,
 ⟨false,⟨(some 57),.iaddr none 1 (.t 54) (.t 56),[7,9,3],(some (50,false))⟩⟩,
 ⟨false,⟨(some 58),.load none (.t 57),[10,3],(some (50,false))⟩⟩,
 ⟨false,⟨(some 59),.bin .geq (.t 52) (.t 58),[5,11,3],(some (50,false))⟩⟩,
 fz 60 (.pick (.t 50) (.c (.bool true)) (.t 59)) [3,12],
 fm 46 60 [13,3]] 1155032569079660608
 (.cond (.t 46)
 (fq [fn 4 2 []] 1150775224606683148
 .ret)
 .skip)))))))))
 (fr [fc 61 .add 14 1 [],
 ⟨false,⟨(some 14),.mov (.t 61),[0],none⟩⟩] 2305913377957871632)))))))
 (fq [fn 4 0 []] 1150704855862505484
 .ret))))⟩
def f104:FFn:=⟨21,[],
 (fq [ff 6 2 1 [],
 fl 7 6 [0],
 fl 8 2 [],
 fz 9 (.slice (some 3) (.t 7) none (some (.t 8)) none) [1,2],
 fv 10 9 [3],
 fn 11 0 []] 454
 (.block 0 (.loop (fq [fb 12 .lss 11 10 []] 0
 (.seq (fo 12 0)
 (.seq (.block 1 (fq [fi 13 3 9 11 [],
 fw 14 3 13 [0],
 fz 5 (.alloc .dyn (.agg [(.str []),fN,fO])) [],
 fj 3 5 14 [2,1,0,1,2]] 28672
 (fq [fm 15 0 [],
 ff 16 0 5 [],
 fl 17 16 [1],
 fz 18 (.call .heap (.t 15) [(.t 17)]) [0,2],
 fu 19 18 [3]] 491552
 (.cond (.t 19)
 .ret
 .skip))))
 (fr [fc 20 .add 11 1 [],
 ⟨false,⟨(some 11),.mov (.t 20),[0],none⟩⟩] 1572864)))))))⟩
def f105:FFn:=⟨59,[.tmp 4],
 (fq [fz 2 (.box .dyn (.t 0)) [],
 fz 3 (.box .dyn (.t 1)) [],
 fn 4 0 []] 19
 (.seq (fq [ff 7 1 3 [],
 fl 8 7 [0],
 fv 9 8 [1],
 fc 10 .eql 9 0 [2]] 896
 (.cond (.t 10)
 (fq [fn 4 12 []] 1036
 .ret)
 .skip))
 (.seq (fq [ff 11 1 3 [],
 fl 12 11 [0],
 fv 13 12 [1],
 fn 14 0 []] 3088
 (.block 0 (.loop (fq [fb 15 .lss 14 13 []] 0
 (.seq (fo 15 0)
 (.seq (.block 1 (fq [fm 16 14 [],
 fi 17 2 12 14 [],
 fw 18 2 17 [1],
 fz 6 (.alloc .dyn (.agg [fO,fO])) [],
 fm 5 16 [0,0,1,2,3],
 fj 2 6 18 (fa [3,2,4] 5)] 491520
 (.block 2 (fq [ff 20 0 6 [],
 fl 21 20 [0],
 fc 22 .lss 21 0 [1],
 fm 23 22 [2],
 ⟨false,⟨(some 24),.faddr 0 (.t 6),[3],(some (23,false))⟩⟩,
 ⟨false,⟨(some 25),.load none (.t 24),[4,3],(some (23,false))⟩⟩,
 ⟨false,⟨(some 26),.faddr 0 (.t 2),[3],(some (23,false))⟩⟩,
 ⟨false,⟨(some 27),.load none (.t 26),[6,3],(some (23,false))⟩⟩,
 ⟨false,⟨(some 28),.len 1 (.t 27),[7,3],(some (23,false))⟩⟩,
 ⟨false,⟨(some 29),.bin .geq (.t 25) (.t 28),[5,8,3],(some (23,false))⟩⟩,
 fz 30 (.pick (.t 23) (.c (.bool true)) (.t 29)) [3,9],
 fm 19 30 [10,3]] 1089470464
 (.cond (.t 19)
 (fq [fn 4 2 []] 15797749765664876
 .ret)
 (fq [fm 32 5 [],
 fc 33 .gtr 32 0 [0],
 fm 34 33 [1],
 ⟨false,⟨(some 35),.faddr 0 (.t 6),[2],(some (34,true))⟩⟩,
 ⟨false,⟨(some 36),.load none (.t 35),[3,2],(some (34,true))⟩⟩,
 ⟨false,⟨(some 37),.faddr 1 (.t 3),[2],(some (34,true))⟩⟩,
 ⟨false,⟨(some 38),.load none (.t 37),[5,2],(some (34,true))⟩⟩,
 ⟨false,⟨(some 39),.mov (.t 5),[2],(some (34,true))⟩⟩,
 ⟨false,⟨(some 40),.bin .sub (.t 39) (.c (.int .i64 (.ofNat 1))),[7,2],(some (34,true))⟩⟩,
 ⟨false,⟨(some 41),.iaddr none 2 (.t 38) (.t 40),[6,8,2],(some (34,true))⟩⟩,
 ⟨false,⟨(some 42),.faddr 0 (.t 41),[9,2],(some (34,true))⟩⟩,
 ⟨false,⟨(some 43),.load none (.t 42),[10,2],(some (34,true))⟩⟩,
 ⟨false,⟨(some 44),.bin .leq (.t 36) (.t 43),[4,11,2],(some (34,true))⟩⟩,
 fz 45 (.pick (.t 34) (.t 44) (.c (.bool false))) [2,12],
 fm 31 45 [13,2]] 35214437384224
 (.cond (.t 31)
 (fq [fn 4 5 []] 15797751912624204
 .ret)
 (fq [ff 47 1 6 [],
 fl 48 47 [0],
 fc 49 .eql 48 0 [1],
 fm 50 49 [2],
 ⟨false,⟨(some 51),.faddr 1 (.t 6),[3],(some (50,false))⟩⟩,
 ⟨false,⟨(some 52),.load none (.t 51),[4,3],(some (50,false))⟩⟩,
 ⟨false,⟨(some 53),.call .heap (.f 190) [(.t 52)],[5,3,3],(some (50,false))⟩⟩,
 fz 54 (.pick (.t 50) (.c (.bool true)) (.t 53)) [3,6],
 fm 46 54 [7,6]] 20125462982295616
 (.cond (.t 46)
 (fq [fn 4 2 []] 15868118509318156
 .ret)
 .skip)))))))))
 (fr [fc 55 .add 14 1 [],
 ⟨false,⟨(some 14),.mov (.t 55),[0],none⟩⟩] 36099165763141648)))))))
 (.seq (fq [ff 56 2 3 [],
 fl 57 56 [0],
 fg 58 190 [57] [1]] 231970531878924300
 (.cond (.t 58)
 (fq [fn 4 2 []] 288230376151711744
 .ret)
 .skip))
 (fq [⟨false,⟨(some 4),.mov (.c fO),[],none⟩⟩] 288230376151711744
 .ret)))))⟩
def f106:FFn:=⟨26,[.tmp 4],
 (fq [fz 4 (.mov (.c (.bool false))) []] 16
 (.seq (fq [fm 6 0 [],
 fv 7 6 [0],
 fm 8 1 [],
 fv 9 8 [2],
 fb 10 .neq 7 9 [1,3]] 960
 (.cond (.t 10)
 (fq [fz 4 (.mov (.c (.bool false))) []] 1027
 .ret)
 .skip))
 (.seq (fq [fm 11 0 [],
 fv 12 11 [0],
 fn 13 0 []] 3088
 (.block 0 (.loop (fq [fb 14 .lss 13 12 []] 0
 (.seq (fo 14 0)
 (.seq (.block 1 (fq [fm 15 13 [],
 fm 5 15 [0,0]] 49152
 (fq [fm 16 0 [],
 fm 17 5 [],
 fi 18 3 16 17 [0,1],
 fw 19 3 18 [2],
 fm 20 1 [],
 fm 21 5 [],
 fi 22 3 20 21 [4,5],
 fw 23 3 22 [6],
 fz 24 (.eq (.flat true [.i,.i,.i]) true (.t 19) (.t 23)) [3,7]] 16711712
 (.cond (.t 24)
 (fq [fz 4 (.mov (.c (.bool false))) []] 16789507
 .ret)
 .skip))))
 (fr [fc 25 .add 13 1 [],
 ⟨false,⟨(some 13),.mov (.t 25),[0],none⟩⟩] 50331664)))))))
 (fq [fz 4 (.mov (.c (.bool true))) []] 12291
 .ret))))⟩
def f110:FFn:=⟨19,[.tmp 4],
 (fq [fn 4 0 []] 16
 (.seq (fq [fm 6 0 [],
 fv 7 6 [0],
 fn 8 0 []] 64
 (.block 0 (.loop (fq [fb 9 .lss 8 7 []] 0
 (.seq (fo 9 0)
 (.seq (.block 1 (fq [fm 10 8 [],
 fm 5 10 [0,0]] 1536
 (fq [fm 11 1 [],
 fm 12 0 [],
 fm 13 5 [],
 fi 14 1 12 13 [1,2],
 fl 15 14 [3],
 fz 16 (.call .heap (.t 11) [(.t 15)]) [0,4]] 63488
 (.cond (.t 16)
 (fq [fm 17 5 [],
 fm 4 17 [0,0]] 197027
 .ret)
 .skip))))
 (fr [fc 18 .add 8 1 [],
 ⟨false,⟨(some 8),.mov (.t 18),[0],none⟩⟩] 327728)))))))
 (fq [fz 4 (.mov (.c (.int .i64 (.negSucc 0)))) []] 387
 .ret)))⟩
def f111:FFn:=⟨19,[.tmp 4],
 (fq [fn 4 0 []] 16
 (.seq (fq [fm 6 0 [],
 fv 7 6 [0],
 fn 8 0 []] 64
 (.block 0 (.loop (fq [fb 9 .lss 8 7 []] 0
 (.seq (fo 9 0)
 (.seq (.block 1 (fq [fm 10 8 [],
 fm 5 10 [0,0]] 1536
 (fq [fm 11 1 [],
 fm 12 0 [],
 fm 13 5 [],
 fi 14 1 12 13 [1,2],
 fl 15 14 [3],
 fb 16 .eql 11 15 [0,4]] 63488
 (.cond (.t 16)
 (fq [fm 17 5 [],
 fm 4 17 [0,0]] 197027
 .ret)
 .skip))))
 (fr [fc 18 .add 8 1 [],
 ⟨false,⟨(some 8),.mov (.t 18),[0],none⟩⟩] 327728)))))))
 (fq [fz 4 (.mov (.c (.int .i64 (.negSucc 0)))) []] 387
 .ret)))⟩
def f112:FFn:=⟨29,[.tmp 2],
 (fq [fz 1 (.box .dyn (.t 0)) [],
 fn 2 0 []] 5
 (.seq (fq [ff 5 0 1 [],
 fl 6 5 [0],
 fz 7 (.call .heap (.f 192) [(.t 6),(fk 32)]) [1],
 fm 3 7 [2,2,0,1,2]] 224
 (fq [fm 8 3 [],
 fc 9 .neq 8 0 [0]] 256
 (.cond (.t 9)
 (fq [fm 10 3 [],
 fm 2 10 [0,0]] 1546
 .ret)
 .skip)))
 (.seq (.block 0 (fq [ff 12 1 1 [],
 fl 13 12 [0],
 fc 14 .lss 13 0 [1],
 fm 11 14 [2]] 29196
 (.cond (.t 11)
 (fq [fn 2 2 []] 2050
 .ret)
 (fq [ff 16 1 1 [],
 fl 17 16 [0],
 fc 18 .gtr 17 4096 [1],
 fm 15 18 [2]] 460800
 (.cond (.t 15)
 (fq [fn 2 3 []] 32770
 .ret)
 .skip)))))
 (.seq (fq [ff 19 2 1 [],
 fl 20 19 [0],
 ff 21 1 1 [],
 fl 22 21 [2],
 fg 23 192 [20,22] [1,3],
 fm 4 23 (fa [4,4] 5)] 16285700
 (fq [fm 24 4 [],
 fc 25 .neq 24 0 [0]] 16777216
 (.cond (.t 25)
 (fq [fm 26 4 [],
 fm 2 26 [0,0]] 100663314
 .ret)
 .skip)))
 (fq [fw 27 4 1 [],
 fg 28 193 [27] [0],
 ⟨false,⟨(some 2),.mov (.t 28),[1,1,0,1],none⟩⟩] 436207634
 .ret)))))⟩
def f115:FFn:=⟨9,[.tmp 4],
 (fq [fz 4 (.mov (.c (.bool false))) []] 16
 (fq [fm 5 0 [],
 fm 6 1 [],
 fg 7 195 [5,6] [0,1],
 fc 8 .geq 7 0 [2],
 fm 4 8 [3,2,0,1,2,3]] 483
 .ret))⟩
def f135:FFn:=⟨55,[.tmp 2],
 (fq [fz 2 (.mov (.c (.bool false))) []] 4
 (.seq (fq [fm 6 0 [],
 fz 7 (.len 0 (.t 6)) [0],
 fn 8 0 []] 64
 (.block 0 (.loop (fq [fb 9 .lss 8 7 []] 0
 (.seq (fo 9 0)
 (.seq (.block 1 (fq [fm 10 8 [],
 fm 3 10 [0,0]] 1536
 (fq [fm 11 0 [],
 fm 12 3 [],
 fz 13 (.index none (.t 11) (.t 12)) [0,1],
 fm 4 13 [2,0,1,2]] 14336
 (fq [fm 14 4 [],
 fz 15 (.bin .geq (.t 14) (.c (.int .u8 (.ofNat 97)))) [0],
 fm 16 15 [1],
 ⟨false,⟨(some 17),.mov (.t 4),[2],(some (16,true))⟩⟩,
 ⟨false,⟨(some 18),.bin .leq (.t 17) (.c (.int .u8 (.ofNat 122))),[3,2],(some (16,true))⟩⟩,
 fz 19 (.pick (.t 16) (.t 18) (.c (.bool false))) [2,4],
 fm 20 19 [5,2],
 ⟨false,⟨(some 21),.mov (.t 4),[6],(some (20,false))⟩⟩,
 ⟨false,⟨(some 22),.bin .geq (.t 21) (.c (.int .u8 (.ofNat 65))),[7,6],(some (20,false))⟩⟩,
 ⟨false,⟨(some 23),.mov (.t 22),[8,6,6],(some (20,false))⟩⟩,
 ⟨false,⟨(some 24),.mov (.t 4),[9],(some (23,true))⟩⟩,
 ⟨false,⟨(some 25),.bin .leq (.t 24) (.c (.int .u8 (.ofNat 90))),[10,9],(some (23,true))⟩⟩,
 ⟨false,⟨(some 26),.pick (.t 23) (.t 25) (.c (.bool false)),[9,11,6],(some (20,false))⟩⟩,
 fz 27 (.pick (.t 20) (.c (.bool true)) (.t 26)) [6,12],
 fm 28 27 [13,9],
 ⟨false,⟨(some 29),.mov (.t 4),[14],(some (28,false))⟩⟩,
 ⟨false,⟨(some 30),.bin .eql (.t 29) (.c (.int .u8 (.ofNat 95))),[15,14],(some (28,false))⟩⟩,
 fz 31 (.pick (.t 28) (.c (.bool true)) (.t 30)) [14,16],
 fm 5 31 (fa [17,14] 18)] 2551824384
 (fq [fm 32 5 [],
 fu 33 32 [0],
 fm 34 33 [1],
 ⟨false,⟨(some 35),.mov (.t 3),[2],(some (34,true))⟩⟩,
 ⟨false,⟨(some 36),.bin .eql (.t 35) (.c fO),[3,2],(some (34,true))⟩⟩,
 ⟨false,⟨(some 37),.mov (.t 36),[4,2,2],(some (34,true))⟩⟩,
 ⟨false,⟨(some 38),.mov (.t 4),[5],(some (37,false))⟩⟩,
 ⟨false,⟨(some 39),.bin .lss (.t 38) (.c (.int .u8 (.ofNat 48))),[6,5],(some (37,false))⟩⟩,
 ⟨false,⟨(some 40),.pick (.t 37) (.c (.bool true)) (.t 39),[5,7,2],(some (34,true))⟩⟩,
 ⟨false,⟨(some 41),.mov (.t 40),[8,5,2],(some (34,true))⟩⟩,
 ⟨false,⟨(some 42),.mov (.t 4),[9],(some (41,false))⟩⟩,
 ⟨false,⟨(some 43),.bin .gtr (.t 42) (.c (.int .u8 (.ofNat 57))),[10,9],(some (41,false))⟩⟩,
 ⟨false,⟨(some 44),.pick (.t 41) (.c (.bool true)) (.t 43),[9,11,2],(some (34,true))⟩⟩,
 fz 45 (.pick (.t 34) (.t 44) (.c (.bool false))) [2,12]] 30064771128
 (.cond (.t 45)
 (fq [fz 2 (.mov (.c (.bool false))) []] 15832934823362945
 .ret)
 .skip))))))
 (fr [fc 46 .add 8 1 [],
 ⟨false,⟨(some 8),.mov (.t 46),[0],none⟩⟩] 105553116266500)))))))
 (fq [fm 47 0 [],
 fz 48 (.len 0 (.t 47)) [0],
 fc 49 .gtr 48 0 [1],
 fm 50 49 [2],
 ⟨false,⟨(some 51),.mov (.t 0),[3],(some (50,true))⟩⟩,
 ⟨false,⟨(some 52),.len 0 (.t 51),[4,3],(some (50,true))⟩⟩,
 ⟨false,⟨(some 53),.bin .leq (.t 52) (.c (.int .i64 (.ofNat 32))),[5,3],(some (50,true))⟩⟩,
 fz 54 (.pick (.t 50) (.t 53) (.c (.bool false))) [3,6],
 fm 2 54 (fa [7,3] 8)] 35923211286086017
 .ret)))⟩
def f144:FFn:=⟨54,[.tmp 4,.tmp 5],
 (fq [fn 4 0 [],
 fz 5 (.mov (.c (.bool false))) [0]] 48
 (fq [fm 10 0 [],
 fv 11 10 [0],
 fm 6 11 [1,0,1]] 3072
 (fq [fm 12 6 [],
 fn 7 0 [],
 fm 8 12 [0,1,0,1]] 4096
 (.seq (.block 0 (.loop (.seq (fq [fm 13 7 [],
 fm 14 8 [],
 fb 15 .lss 13 14 [0,1]] 24576
 (fo 15 0))
 (.block 1 (fq [fm 16 7 [],
 fm 17 8 [],
 fb 18 .add 16 17 [0,1],
 fz 19 (.conv .u64 (.t 18)) [2],
 fz 20 (.bin .shr (.t 19) (.c (.int .u64 (.ofNat 1)))) [3],
 fz 21 (.conv .i64 (.t 20)) [4],
 fm 9 21 (fa [5] 6)] 4161536
 (fq [fm 22 0 [],
 fm 23 9 [],
 fi 24 1 22 23 [0,1],
 fl 25 24 [2],
 fm 26 1 [],
 fg 27 197 [25,26] [3,4]] 130023424
 (.cond (.t 27)
 (fr [fm 28 9 [],
 fc 29 .add 28 1 [0],
 ⟨false,⟨(some 7),.mov (.t 29),[1,0,1],none⟩⟩] 939524608)
 (fr [fm 30 9 [],
 ⟨false,⟨(some 8),.mov (.t 30),[0,0],none⟩⟩] 1207960064))))))))
 (fq [fm 31 7 [],
 fm 32 7 [],
 fm 33 6 [],
 fb 34 .lss 32 33 [1,2],
 fm 35 34 [3],
 ⟨false,⟨(some 36),.mov (.t 0),[4],(some (35,true))⟩⟩,
 ⟨false,⟨(some 37),.mov (.t 7),[4],(some (35,true))⟩⟩,
 ⟨false,⟨(some 38),.iaddr none 1 (.t 36) (.t 37),[5,6,4],(some (35,true))⟩⟩,
 ⟨false,⟨(some 39),.load none (.t 38),[7,4],(some (35,true))⟩⟩,
 ⟨false,⟨(some 40),.mov (.t 1),[4],(some (35,true))⟩⟩,
 ⟨false,⟨(some 41),.bin .eql (.t 39) (.t 40),[8,9,4],(some (35,true))⟩⟩,
 ⟨false,⟨(some 42),.mov (.t 41),[10,4,4],(some (35,true))⟩⟩,
 ⟨false,⟨(some 43),.mov (.t 0),[11],(some (42,false))⟩⟩,
 ⟨false,⟨(some 44),.mov (.t 7),[11],(some (42,false))⟩⟩,
 ⟨false,⟨(some 45),.iaddr none 1 (.t 43) (.t 44),[12,13,11],(some (42,false))⟩⟩,
 ⟨false,⟨(some 46),.load none (.t 45),[14,11],(some (42,false))⟩⟩,
 ⟨false,⟨(some 47),.call .heap (.f 198) [(.t 46)],[15,11,11],(some (42,false))⟩⟩,
 ⟨false,⟨(some 48),.mov (.t 47),[16,16,11],(some (42,false))⟩⟩,
 ⟨false,⟨(some 49),.mov (.t 1),[17],(some (48,true))⟩⟩,
 ⟨false,⟨(some 50),.call .heap (.f 198) [(.t 49)],[18,17,17],(some (48,true))⟩⟩,
 ⟨false,⟨(some 51),.pick (.t 48) (.t 50) (.c (.bool false)),[17,19,11],(some (42,false))⟩⟩,
 ⟨false,⟨(some 52),.pick (.t 42) (.c (.bool true)) (.t 51),[11,20,4],(some (35,true))⟩⟩,
 fz 53 (.pick (.t 35) (.t 52) (.c (.bool false))) [4,21],
 fm 4 31 [0,19,0],
 fm 5 53 (fa [22,23] 24)] 18014396361998787
 .ret)))))⟩
def f148:FFn:=⟨8,[.tmp 2],
 (fq [fz 2 (.mov (.c fN)) []] 4
 (.seq (fq [fm 3 0 [],
 fz 4 (.eqn false (.t 3)) [0]] 8
 (.cond (.t 4)
 (fq [fz 2 (.mov (.c fN)) []] 17
 .ret)
 .skip))
 (fq [fz 5 (.bslice false .dyn 2 0 [] []) [],
 fm 6 0 [],
 fz 7 (.append .dyn 2 16 (.t 5) (.t 6)) [0,1],
 ⟨false,⟨(some 2),.mov (.t 7),[2,2,0,1,2],none⟩⟩] 241
 .ret)))⟩
def f149:FFn:=⟨8,[.tmp 2],
 (fq [fz 2 (.mov (.c fN)) []] 4
 (.seq (fq [fm 3 0 [],
 fz 4 (.eqn false (.t 3)) [0]] 8
 (.cond (.t 4)
 (fq [fz 2 (.mov (.c fN)) []] 17
 .ret)
 .skip))
 (fq [fz 5 (.bslice false .dyn 2 0 [] []) [],
 fm 6 0 [],
 fz 7 (.append .dyn 2 16 (.t 5) (.t 6)) [0,1],
 ⟨false,⟨(some 2),.mov (.t 7),[2,2,0,1,2],none⟩⟩] 241
 .ret)))⟩
def f150:FFn:=⟨105,[.cell 2 (some 4)],
 (fq [fz 1 (.box .dyn (.t 0)) [],
 fz 2 (.alloc .dyn (.agg [fN,fO,fN,fN])) []] 1
 (fq [ff 12 0 1 [],
 fl 13 12 [0],
 fg 14 41 [13] [1],
 fz 15 (.build [fN,fO,fN,fN] [(0,1,(.t 14))]) [2],
 fz 3 (.alloc .dyn (.agg [fN,fO,fN,fN])) [],
 fj 4 3 15 (fa [4,3,2] 5)] 61440
 (.seq (fq [ff 16 1 1 [],
 fl 17 16 [0],
 fc 18 .eql 17 0 [1]] 196608
 (.cond (.t 18)
 (fq [fw 19 4 3 [],
 fj 4 2 19 [0,0]] 786442
 .ret)
 .skip))
 (fq [ff 20 1 1 [],
 fl 21 20 [0],
 fz 22 (.mkslice .dyn 1 8 [fO] (.t 21) (.t 21)) [1,1],
 fm 4 22 [2,0,1,2]] 7602176
 (.seq (fq [fm 23 4 [],
 fv 24 23 [0],
 fn 25 0 []] 8388608
 (.block 0 (.loop (fq [fb 26 .lss 25 24 []] 0
 (.seq (fo 26 0)
 (.seq (.block 1 (fq [fm 27 25 [],
 fm 5 27 [0,0]] 201326592
 (fr [fm 28 4 [],
 fm 29 5 [],
 fi 30 1 28 29 [0,1,0,1],
 ⟨false,⟨none,.store 1 (.t 30) (.c (.int .i64 (.negSucc 0))),[2,0,1],none⟩⟩] 1879048224)))
 (fr [fc 31 .add 25 1 [],
 ⟨false,⟨(some 25),.mov (.t 31),[0],none⟩⟩] 2147483648)))))))
 (fq [fm 32 4 [],
 fz 33 (.iaddr none 1 (.t 32) (fk 0)) [0,0],
 ⟨false,⟨none,.store 1 (.t 33) (.c fO),[1,0],none⟩⟩] 12935233536
 (fq [fz 34 (.bslice false .dyn 1 1 [fO] [(0,1,(fk 0))]) [],
 fm 6 34 [0,0]] 17179869184
 (.seq (fq [fn 7 0 []] 0
 (.block 2 (.loop (.seq (fq [fm 35 7 [],
 fm 36 6 [],
 fv 37 36 [1],
 fb 38 .lss 35 37 [0,2]] 240518168576
 (fo 38 2))
 (.seq (.block 3 (.seq (fq [ff 42 2 1 [],
 fl 43 42 [0],
 fm 44 6 [],
 fm 45 7 [],
 fi 46 1 44 45 [2,3],
 fl 47 46 [4],
 fg 48 144 [43,47] [1,5],
 fm 41 48 [6],
 fe 49 0 41 [7],
 fe 50 1 41 [7],
 fm 8 49 (fa [8,6] 9),
 fm 9 50 (fa [9,10] 11)] 2249875668336896
 (fq [fm 51 9 []] 512
 (.cond (.t 51)
 (fr [ff 52 2 3 [],
 fl 53 52 [0],
 fm 54 7 [],
 fz 55 (.bslice false .dyn 1 1 [fO] [(0,1,(.t 54))]) [2],
 fz 56 (.append .dyn 1 8 (.t 53) (.t 55)) [1,3],
 ff 57 2 3 (fa [] 5),
 fj 1 57 56 (fa [5,4,4] 5)] 285978576338026496)
 .skip)))
 (fq [fw 58 4 1 [],
 fm 59 6 [],
 fm 60 7 [],
 fi 61 1 59 60 [1,2],
 fl 62 61 [3],
 fg 63 199 [58,62] [0,4],
 fv 64 63 [5],
 fn 65 0 []] 8937393460516749312
 (.block 4 (.loop (fq [fb 66 .lss 65 64 []] 0
 (.seq (fo 66 4)
 (.seq (.block 5 (fq [fi 67 3 63 65 [],
 fw 68 3 67 [0],
 fz 11 (.alloc .dyn (.agg [fO,fO,fO])) [],
 fj 3 11 68 [2,1,0,1,2]] 516508834063867445248
 (.seq (fq [fm 69 4 [],
 ff 70 2 11 [],
 fl 71 70 [1],
 fi 72 1 69 71 [0,2],
 fl 73 72 [3],
 fc 74 .lss 73 0 [4]] 18299170121119875203072
 (.cond (.t 74)
 (fq [fm 75 4 [],
 ff 76 2 11 [],
 fl 77 76 [1],
 fm 78 6 [],
 fv 79 78 [3],
 fi 80 1 75 77 (fa [0,2] 5),
 fj 1 80 79 (fa [5,4] 5)] 2398962173297779768557568
 (fr [fm 81 6 [],
 ff 82 2 11 [],
 fl 83 82 [1],
 fz 84 (.bslice false .dyn 1 1 [fO] [(0,1,(.t 83))]) [2],
 fz 85 (.append .dyn 1 8 (.t 81) (.t 84)) [0,3],
 ⟨false,⟨(some 6),.mov (.t 85),[4,4,0,1,2,3,4],none⟩⟩] 74953400816107008831782912))
 .skip))
 (fr [ff 86 3 3 [],
 fl 87 86 [0],
 fm 88 7 [],
 ff 89 1 11 [],
 fl 90 89 [3],
 fm 91 4 [],
 ff 92 2 11 [],
 fl 93 92 [6],
 fi 94 1 91 93 [5,7],
 fl 95 94 [8],
 fz 96 (.build [fO,fO,fO] [(0,1,(.t 88)),(1,1,(.t 90)),(2,1,(.t 95))]) [2,4,9],
 fz 97 (.bslice false .dyn 3 1 [fO,fO,fO] [(0,3,(.t 96))]) [10],
 fz 98 (.append .dyn 3 24 (.t 87) (.t 97)) [1,11],
 ff 99 3 3 (fa [] 13),
 fj 1 99 98 (fa [13,12,12] 13)] 1267573247865239996708102866944))))
 (fr [fc 100 .add 65 1 [],
 ⟨false,⟨(some 65),.mov (.t 100),[0],none⟩⟩] 1267650600228229401496703205376)))))))))
 (fr [fm 39 7 [],
 fc 40 .add 39 1 [0],
 ⟨false,⟨(some 7),.mov (.t 40),[1,0,1],none⟩⟩] 64563605907250872320))))))
 (fq [fm 101 6 [],
 fv 102 101 [0],
 ff 103 1 3 [0,1],
 fj 1 103 102 [2,1,0,1]] 17747108403195211620953844875474
 (fq [fw 104 4 3 [],
 fj 4 2 104 [0,0]] 20282409603651670423947251286024
 .ret))))))))))⟩
def f154:FFn:=⟨19,[.tmp 4,.tmp 5],
 (fq [fn 4 0 [],
 fz 5 (.mov (.c .nilif)) [0]] 48
 (fq [fm 6 0 [],
 fg 7 200 [6] [0]] 192
 (fq [fm 8 0 [],
 fm 9 0 [],
 fz 10 (.nilchk (.t 9)) [1],
 ff 11 1 10 [2],
 fl 12 11 [3],
 fm 13 1 [],
 fz 14 (.appendT 5 .dyn 1 1 (.t 12) (.t 13)) [4,5],
 fz 15 (.nilchk (.t 8)) (fa [0] 7),
 ff 16 1 15 (fa [7] 7),
 fj 1 16 14 (fa [8,6,6] 7)] 130817
 (fq [fm 17 1 [],
 fz 18 (.len 0 (.t 17)) [0],
 fm 4 18 [1,0,1],
 fz 5 (.mov (.c .nilif)) [2,0,1,2]] 393218
 .ret))))⟩
def f155:FFn:=⟨5,[.tmp 2],
 (fq [fz 2 (.mov (.c (.str []))) []] 4
 (fq [fm 3 0 [],
 fg 4 201 [3] [0],
 fm 2 4 [1,1,0,1]] 25
 .ret))⟩
def f156:FFn:=⟨14,[.tmp 2],
 (fq [fz 2 (.mov (.c (.str []))) []] 4
 (fq [fm 3 0 [],
 fz 4 (.nilchk (.t 3)) [0],
 ff 5 1 4 [1],
 fl 6 5 [2],
 fz 7 (.usd (.t 6)) [3],
 fm 8 0 [],
 fz 9 (.nilchk (.t 8)) [5],
 ff 10 1 9 [6],
 fl 11 10 [7],
 fv 12 11 [8],
 fz 13 (.ustr 5 (.t 7) (.t 12)) [4,9],
 fm 2 13 (fa [10] 11)] 16377
 .ret))⟩
def f157:FFn:=⟨14,[.tmp 4],
 (fq [fz 2 (.box .dyn (.t 0)) [],
 fn 4 0 []] 17
 (.seq (fq [fw 6 3 2 [],
 fg 7 32 [6] [0],
 fm 5 7 [1,1,0,1]] 192
 (fq [fm 8 5 [],
 fc 9 .neq 8 0 [0]] 256
 (.cond (.t 9)
 (fq [fm 10 5 [],
 fm 4 10 [0,0]] 1574
 .ret)
 .skip)))
 (fq [fw 11 3 2 [],
 fm 12 1 [],
 fg 13 202 [11,12] [0,1],
 ⟨false,⟨(some 4),.mov (.t 13),[2,2,0,1,2],none⟩⟩] 14886
 .ret)))⟩
def f158:FFn:=⟨8,[.tmp 4],
 (fq [fz 3 (.box .dyn (.t 1)) [],
 fn 4 0 []] 18
 (fq [fm 5 0 [],
 fz 6 (.mkfn 204 [] [(.t 3)]) [],
 fg 7 203 [5,6] [0,1],
 fm 4 7 [2,2,0,1,2]] 233
 .ret))⟩
def f159:FFn:=⟨35,[.tmp 2],
 (fq [fz 1 (.box .dyn (.t 0)) [],
 fz 2 (.mov (.c fN)) []] 5
 (fq [fz 3 (.mov (.c fN)) []] 0
 (.seq (fq [ff 8 1 1 [],
 fl 9 8 [0],
 fv 10 9 [1],
 fn 11 0 []] 256
 (.block 0 (.loop (fq [fb 12 .lss 11 10 []] 0
 (.seq (fo 12 0)
 (.seq (.block 1 (fq [fi 13 2 9 11 [],
 fw 14 2 13 [0],
 fz 5 (.alloc .dyn (.agg [(.str []),fN])) [],
 fj 2 5 14 [2,1,0,1,2]] 28672
 (fr [fm 15 3 [],
 fw 16 2 5 [],
 fg 17 205 [16] [1],
 fz 18 (.bslice false .dyn 1 1 [.nilfn] [(0,1,(.t 17))]) [2],
 fz 19 (.append .dyn 1 8 (.t 15) (.t 18)) [0,3,2],
 ⟨false,⟨(some 3),.mov (.t 19),[4,4,0,1,2,3,4],none⟩⟩] 1015840)))
 (fr [fc 20 .add 11 1 [],
 ⟨false,⟨(some 11),.mov (.t 20),[0],none⟩⟩] 1048576)))))))
 (.seq (fq [ff 21 2 1 [],
 fl 22 21 [0],
 fv 23 22 [1],
 fn 24 0 []] 2100738
 (.block 2 (.loop (fq [fb 25 .lss 24 23 []] 0
 (.seq (fo 25 2)
 (.seq (.block 3 (fq [fi 26 3 22 24 [],
 fw 27 3 26 [0],
 fz 7 (.alloc .dyn (.agg [(.str []),fN,fO])) [],
 fj 3 7 27 [2,1,0,1,2]] 234881024
 (fr [fm 28 3 [],
 fw 29 3 7 [],
 fg 30 206 [29] [1],
 fz 31 (.bslice false .dyn 1 1 [.nilfn] [(0,1,(.t 30))]) [2],
 fz 32 (.append .dyn 1 8 (.t 28) (.t 31)) [0,3,2],
 ⟨false,⟨(some 3),.mov (.t 32),[4,4,0,1,2,3,4],none⟩⟩] 8321499264)))
 (fr [fc 33 .add 24 1 [],
 ⟨false,⟨(some 24),.mov (.t 33),[0],none⟩⟩] 8589934592)))))))
 (fq [fm 34 3 [],
 fm 2 34 [0,0]] 17209229320
 .ret)))))⟩
def f160:FFn:=⟨39,[],
 (fq [fl 11 1 [],
 fz 12 (.nilchk (.t 11)) [0],
 ff 13 5 12 [1],
 fw 14 4 13 [2],
 fl 15 2 [],
 fg 16 161 [14,15] [3,4],
 fm 10 16 [5],
 fe 17 0 10 [6],
 fe 18 1 10 [6],
 fm 5 17 (fa [7,5] 8),
 fm 6 18 (fa [8,9] 10)] 523332
 (fq [fm 19 5 [],
 fv 20 19 [0],
 fn 21 0 []] 32
 (.block 0 (.loop (fq [fb 22 .lss 21 20 []] 0
 (.seq (fo 22 0)
 (.seq (.block 1 (fq [fi 23 1 19 21 [],
 fl 24 23 [0],
 fm 8 24 [1,0,1]] 29360128
 (fq [fl 25 1 [],
 fl 26 3 [],
 fm 27 8 [],
 fg 28 162 [25,26,27] [0,1,2],
 fm 9 28 [3,3,0,1,2,3]] 503316480
 (fq [fm 29 9 [],
 fc 30 .geq 29 0 [0],
 fm 31 30 [1],
 ⟨false,⟨(some 32),.mov (.t 0),[2],(some (31,true))⟩⟩,
 ⟨false,⟨(some 33),.mov (.t 8),[2],(some (31,true))⟩⟩,
 ⟨false,⟨(some 34),.mov (.t 9),[2],(some (31,true))⟩⟩,
 ⟨false,⟨(some 35),.call .heap (.t 32) [(.t 33),(.t 34)],[3,4,5,2,2],(some (31,true))⟩⟩,
 ⟨false,⟨(some 36),.un .not (.t 35),[6,2],(some (31,true))⟩⟩,
 fz 37 (.pick (.t 31) (.t 36) (.c (.bool false))) [2,7]] 3758097152
 (.cond (.t 37)
 .ret
 .skip)))))
 (fr [fc 38 .add 21 1 [],
 ⟨false,⟨(some 21),.mov (.t 38),[0],none⟩⟩] 412316860416))))))))⟩
def f161:FFn:=⟨31,[.tmp 4,.tmp 5],
 (fq [fz 2 (.box .dyn (.t 0)) [],
 fz 4 (.mov (.c fN)) [],
 fn 5 0 [1]] 49
 (.seq (fq [fw 10 4 2 [],
 fm 11 1 [],
 fg 12 207 [10,11] [0,1],
 fm 6 12 [2,2,0,1,2]] 7168
 (fq [fm 13 6 [],
 fc 14 .neq 13 0 [0]] 8192
 (.cond (.t 14)
 (fq [fm 15 6 [],
 fz 4 (.mov (.c fN)) [],
 fm 5 15 [0,1,0,1]] 49222
 .ret)
 .skip)))
 (fq [fz 7 (.mov (.c fN)) []] 16496
 (.seq (fq [fw 16 4 2 [],
 fm 17 1 [],
 fg 18 199 [16,17] [0,1],
 fv 19 18 [2],
 fn 20 0 []] 196614
 (.block 0 (.loop (fq [fb 21 .lss 20 19 []] 0
 (.seq (fo 21 0)
 (.seq (.block 1 (fq [fi 22 3 18 20 [],
 fw 23 3 22 [0],
 fz 9 (.alloc .dyn (.agg [fO,fO,fO])) [],
 fj 3 9 23 [2,1,0,1,2]] 14680064
 (fr [fm 24 7 [],
 ff 25 1 9 [],
 fl 26 25 [1],
 fz 27 (.bslice false .dyn 1 1 [fO] [(0,1,(.t 26))]) [2],
 fz 28 (.append .dyn 1 8 (.t 24) (.t 27)) [0,3],
 ⟨false,⟨(some 7),.mov (.t 28),[4,4,0,1,2,3,4],none⟩⟩] 520094208)))
 (fr [fc 29 .add 20 1 [],
 ⟨false,⟨(some 20),.mov (.t 29),[0],none⟩⟩] 536870912)))))))
 (fq [fm 30 7 [],
 fm 4 30 [0,0],
 fn 5 0 [1,0,1]] 1075576960
 .ret)))))⟩
def f162:FFn:=⟨45,[.tmp 6],
 (fq [fn 6 0 []] 64
 (.seq (fq [fm 12 0 [],
 fz 13 (.nilchk (.t 12)) [0],
 ff 14 0 13 [1],
 ff 15 2 14 [2],
 fl 16 15 [3],
 fv 17 16 [4],
 fn 18 0 []] 61441
 (.block 0 (.loop (fq [fb 19 .lss 18 17 []] 0
 (.seq (fo 19 0)
 (.seq (.block 1 (fq [fm 20 18 [],
 fi 21 5 16 18 [],
 fw 22 5 21 [1],
 fz 8 (.alloc .dyn (.agg [(.str []),fN,fO,fN,fN])) [],
 fm 7 20 [0,0,1,2,3],
 fj 5 8 22 (fa [3,2,4] 5)] 7864320
 (.seq (fq [ff 23 1 8 [],
 ff 24 0 23 [0],
 fl 25 24 [1],
 fm 26 2 [],
 fg 27 189 [25,26] [2,3],
 fu 28 27 [4]] 260046848
 (.cond (.t 28)
 (.exit 1)
 .skip))
 (fq [ff 30 1 8 [],
 fw 31 4 30 [0],
 fm 32 1 [],
 fm 33 7 [],
 fi 34 1 32 33 [2,3],
 fl 35 34 [4],
 fm 36 2 [],
 fg 37 208 [31,35,36] [1,5,6],
 fm 29 37 [7],
 fe 38 0 29 [8],
 fe 39 1 29 [8],
 fe 40 2 29 [8],
 fm 9 38 (fa [9,7] 10),
 fm 10 39 [10,12,0,1,2,3,4,5,6,7,8,9,10,12],
 fm 11 40 (fa [11,13] 14)] 2198754822912
 (fq [fm 41 10 [],
 fu 42 41 [0]] 2199023256576
 (.cond (.t 42)
 (fq [fm 43 7 [],
 fm 6 43 [0,0]] 13194139992198
 .ret)
 .skip))))))
 (fr [fc 44 .add 18 1 [],
 ⟨false,⟨(some 18),.mov (.t 44),[0],none⟩⟩] 21990232555712)))))))
 (fq [fz 6 (.mov (.c (.int .i64 (.negSucc 0)))) []] 458758
 .ret)))⟩
def f163:FFn:=⟨148,[],
 (fq [fz 10 (.mov (.c (.bool true))) []] 0
 (fq [fz 11 (.mov (.c (.bool true))) []] 0
 (.block 0 (.loop (.block 1 (fq [fm 21 2 [],
 fm 22 1 [],
 fb 23 .sub 21 22 [0,1],
 fm 12 23 [2,0,1,2]] 14680064
 (.seq (fq [fm 24 12 [],
 fc 25 .leq 24 12 [0]] 16777216
 (.cond (.t 25)
 (fq [fm 26 0 [],
 fm 27 1 [],
 fm 28 2 [],
 fm 29 4 [],
 fg 30 209 [26,27,28,29] [0,1,2,3]] 158437011730205359057689123871
 .ret)
 .skip))
 (.seq (fq [fm 31 3 [],
 fc 32 .eql 31 0 [0]] 2181038080
 (.cond (.t 32)
 (fq [fm 33 0 [],
 fm 34 1 [],
 fm 35 2 [],
 fm 36 4 [],
 fg 37 210 [33,34,35,36] [0,1,2,3]] 158437011730205359326158134303
 .ret)
 .skip))
 (.seq (fq [fm 38 10 [],
 fu 39 38 [0]] 279172874240
 (.cond (.t 39)
 (fq [fm 40 0 [],
 fm 41 1 [],
 fm 42 2 [],
 fm 43 4 [],
 fg 44 211 [40,41,42,43] [0,1,2,3]] 34634616274944
 (fr [fm 45 3 [],
 fc 46 .sub 45 1 [0],
 ⟨false,⟨(some 3),.mov (.t 46),[1,0,1],none⟩⟩] 105553116266496))
 .skip))
 (fq [fm 48 0 [],
 fm 49 1 [],
 fm 50 2 [],
 fm 51 4 [],
 fg 52 212 [48,49,50,51] [0,1,2,3],
 fm 47 52 [4],
 fe 53 0 47 [5],
 fe 54 1 47 [5],
 fm 13 53 (fa [6,4] 7),
 fm 14 54 (fa [7,8] 9)] 35888609286422528
 (.seq (fq [fm 55 14 [],
 fc 56 .eql 55 2 [0]] 36028797018963968
 (.cond (.t 56)
 (fq [fm 57 0 [],
 fm 58 1 [],
 fm 59 2 [],
 fm 60 4 [],
 fg 61 213 [57,58,59,60] [0,1,2,3]] 4539628424389476352
 (fq [fm 62 2 [],
 fc 63 .sub 62 1 [0],
 fm 64 13 [],
 fm 65 1 [],
 fb 66 .sub 64 65 [2,3],
 fb 67 .sub 63 66 [1,4],
 ⟨false,⟨(some 13),.mov (.t 67),[5,0,1,2,3,4,5],none⟩⟩] 290536219160925437952
 (fr [fn 14 1 []] 0)))
 .skip))
 (.seq (fq [fm 68 10 [],
 fm 69 68 [0],
 ⟨false,⟨(some 70),.mov (.t 11),[1],(some (69,true))⟩⟩,
 fz 71 (.pick (.t 69) (.t 70) (.c (.bool false))) [1,2],
 fm 72 71 [3,1],
 ⟨false,⟨(some 73),.mov (.t 14),[4],(some (72,true))⟩⟩,
 ⟨false,⟨(some 74),.bin .eql (.t 73) (.c (.int .i64 (.ofNat 1))),[5,4],(some (72,true))⟩⟩,
 fz 75 (.pick (.t 72) (.t 74) (.c (.bool false))) [4,6]] 7969065497436564242432
 (.cond (.t 75)
 (fq [fm 76 0 [],
 fm 77 1 [],
 fm 78 2 [],
 fm 79 4 [],
 fg 80 214 [76,77,78,79] [0,1,2,3]] 1171146887751672012996608
 (.cond (.t 80)
 .ret
 .skip))
 .skip))
 (.seq (fq [fm 81 1 [],
 fc 82 .gtr 81 0 [0],
 fm 83 82 [1],
 ⟨false,⟨(some 84),.mov (.t 4),[2],(some (83,true))⟩⟩,
 ⟨false,⟨(some 85),.mov (.t 0),[2],(some (83,true))⟩⟩,
 ⟨false,⟨(some 86),.mov (.t 1),[2],(some (83,true))⟩⟩,
 ⟨false,⟨(some 87),.bin .sub (.t 86) (.c (.int .i64 (.ofNat 1))),[5,2],(some (83,true))⟩⟩,
 ⟨false,⟨(some 88),.iaddr none 3 (.t 85) (.t 87),[4,6,2],(some (83,true))⟩⟩,
 ⟨false,⟨(some 89),.load (some 3) (.t 88),[7,2],(some (83,true))⟩⟩,
 ⟨false,⟨(some 90),.mov (.t 0),[2],(some (83,true))⟩⟩,
 ⟨false,⟨(some 91),.mov (.t 13),[2],(some (83,true))⟩⟩,
 ⟨false,⟨(some 92),.iaddr none 3 (.t 90) (.t 91),[9,10,2],(some (83,true))⟩⟩,
 ⟨false,⟨(some 93),.load (some 3) (.t 92),[11,2],(some (83,true))⟩⟩,
 ⟨false,⟨(some 94),.call .heap (.t 84) [(.t 89),(.t 93)],[3,8,12,2,2],(some (83,true))⟩⟩,
 ⟨false,⟨(some 95),.bin .lss (.t 94) (.c fO),[13,2],(some (83,true))⟩⟩,
 ⟨false,⟨(some 96),.un .not (.t 95),[14,2],(some (83,true))⟩⟩,
 fz 97 (.pick (.t 83) (.t 96) (.c (.bool false))) [2,15]] 18171666226082394782302208
 (.cond (.t 97)
 (fq [fm 98 0 [],
 fm 99 1 [],
 fm 100 2 [],
 fm 101 13 [],
 fm 102 4 [],
 fg 103 215 [98,99,100,101,102] (fa [] 5),
 fm 15 103 (fa [5,5] 6)] 20123953278623141748760163397634
 (fq [fm 104 15 [],
 fm 1 104 [0,0]] 20282409603651670423947251318784
 (.exit 1)))
 .skip))
 (fq [fm 106 0 [],
 fm 107 1 [],
 fm 108 2 [],
 fm 109 13 [],
 fm 110 4 [],
 fg 111 216 [106,107,108,109,110] (fa [] 5),
 fm 105 111 [5],
 fe 112 0 105 [6],
 fe 113 1 105 [6],
 fm 16 112 (fa [7,5] 8),
 fm 17 113 (fa [8,9] 10)] 20728781071257035701949277902220288
 (fq [fm 114 17 [],
 fm 11 114 [0,0]] 20769187434139310514121985317011456
 (fq [fm 115 16 [],
 fm 116 1 [],
 fb 117 .sub 115 116 [0,1],
 fm 118 2 [],
 fm 119 16 [],
 fb 120 .sub 118 119 [3,4],
 fm 18 117 [2,0,1,2],
 fm 19 120 (fa [5,6] 7)] 2616917616701553124779370149926928384
 (fq [fm 121 12 [],
 fc 122 .quo 121 8 [0],
 fm 20 122 [1,0,1]] 7975367974709495237422842361682071552
 (fq [fm 123 18 [],
 fm 124 19 [],
 fb 125 .lss 123 124 [0,1]] 31901471898837980949691369446728269824
 (.cond (.t 125)
 (fq [fm 126 18 [],
 fm 127 20 [],
 fb 128 .geq 126 127 [0,1],
 fm 10 128 [2,0,1,2]] 638029437976759618993827388934567231488
 (fq [fm 129 0 [],
 fm 130 1 [],
 fm 131 16 [],
 fm 132 3 [],
 fm 133 4 [],
 fg 134 163 [129,130,131,132,133] (fa [] 5)] 42875578232038246396385200536402794643458
 (fr [fm 135 16 [],
 fc 136 .add 135 1 [0],
 fm 1 136 [1,0,1]] 130668428897640369969935849253798993264640)))
 (fq [fm 137 19 [],
 fm 138 20 [],
 fb 139 .geq 137 138 [0,1],
 fm 10 139 [2,0,1,2]] 1219614538340508570360667514861386242719744
 (fq [fm 140 0 [],
 fm 141 16 [],
 fc 142 .add 141 1 [1],
 fm 143 2 [],
 fm 144 3 [],
 fm 145 4 [],
 fg 146 163 [140,142,143,144,145] [0,2,3,4,5]] 177012165013336821185939763789146369453719556
 (fr [fm 147 16 [],
 fm 2 147 [0,0]] 178405961588244985132285746181186892047908864))))))))))))))))))))))⟩
def f164:FFn:=⟨8,[.tmp 2],
 (fq [fn 2 0 []] 4
 (.seq (.cond (.c (.bool false))
 (fq [fm 3 0 [],
 fz 4 (.conv .u32 (.t 3)) [0],
 fg 5 217 [4] [1],
 fm 2 5 [2,2,0,1,2]] 57
 .ret)
 .skip)
 (fq [fm 6 0 [],
 fg 7 218 [6] [0],
 ⟨false,⟨(some 2),.mov (.t 7),[1,1,0,1],none⟩⟩] 193
 .ret)))⟩
def f166:FFn:=⟨7,[.tmp 3],
 (fq [fz 3 (.mov (.c (.bool false))) []] 8
 (fq [fm 4 0 [],
 fl 5 1 [],
 fb 6 .geq 4 5 [0,1],
 fm 3 6 [2,0,1,2]] 115
 .ret))⟩
def f167:FFn:=⟨10,[.tmp 4],
 (fq [fz 4 (.mov (.c (.bool false))) []] 16
 (fq [fm 5 0 [],
 fm 6 1 [],
 fg 7 219 [5,6] [0,1],
 fv 8 7 [2],
 fc 9 .eql 8 0 [3],
 fm 4 9 (fa [4,2] 5)] 995
 .ret))⟩
def f168:FFn:=⟨74,[.tmp 6],
 (fq [fz 6 (.mov (.c fN)) []] 64
 (fq [fz 7 (.mov (.c fN)) []] 0
 (.seq (.block 0 (.loop (.seq (fq [fm 11 0 [],
 fv 12 11 [0],
 fc 13 .gtr 12 0 [1],
 fm 14 13 [2],
 ⟨false,⟨(some 15),.mov (.t 1),[3],(some (14,false))⟩⟩,
 ⟨false,⟨(some 16),.len 1 (.t 15),[4,3],(some (14,false))⟩⟩,
 ⟨false,⟨(some 17),.bin .gtr (.t 16) (.c fO),[5,3],(some (14,false))⟩⟩,
 fz 18 (.pick (.t 14) (.c (.bool true)) (.t 17)) [3,6]] 30720
 (fo 18 0))
 (.block 1 (fq [fm 19 0 [],
 fv 20 19 [0],
 fc 21 .gtr 20 0 [1],
 fm 22 21 [2],
 ⟨false,⟨(some 23),.mov (.t 1),[3],(some (22,true))⟩⟩,
 ⟨false,⟨(some 24),.len 1 (.t 23),[4,3],(some (22,true))⟩⟩,
 ⟨false,⟨(some 25),.bin .eql (.t 24) (.c fO),[5,3],(some (22,true))⟩⟩,
 ⟨false,⟨(some 26),.mov (.t 25),[6,3,3],(some (22,true))⟩⟩,
 ⟨false,⟨(some 27),.mov (.t 0),[7],(some (26,false))⟩⟩,
 ⟨false,⟨(some 28),.iaddr none 1 (.t 27) (.c fO),[8,7],(some (26,false))⟩⟩,
 ⟨false,⟨(some 29),.load none (.t 28),[9,7],(some (26,false))⟩⟩,
 ⟨false,⟨(some 30),.mov (.t 1),[7],(some (26,false))⟩⟩,
 ⟨false,⟨(some 31),.iaddr none 1 (.t 30) (.c fO),[11,7],(some (26,false))⟩⟩,
 ⟨false,⟨(some 32),.load none (.t 31),[12,7],(some (26,false))⟩⟩,
 ⟨false,⟨(some 33),.bin .leq (.t 29) (.t 32),[10,13,7],(some (26,false))⟩⟩,
 ⟨false,⟨(some 34),.pick (.t 26) (.c (.bool true)) (.t 33),[7,14,3],(some (22,true))⟩⟩,
 fz 35 (.pick (.t 22) (.t 34) (.c (.bool false))) [3,15],
 fm 8 35 (fa [16,7] 17)] 34367864832
 (fq [fm 36 1 [],
 fv 37 36 [0],
 fc 38 .gtr 37 0 [1],
 fm 39 38 [2],
 ⟨false,⟨(some 40),.mov (.t 0),[3],(some (39,true))⟩⟩,
 ⟨false,⟨(some 41),.len 1 (.t 40),[4,3],(some (39,true))⟩⟩,
 ⟨false,⟨(some 42),.bin .eql (.t 41) (.c fO),[5,3],(some (39,true))⟩⟩,
 ⟨false,⟨(some 43),.mov (.t 42),[6,3,3],(some (39,true))⟩⟩,
 ⟨false,⟨(some 44),.mov (.t 1),[7],(some (43,false))⟩⟩,
 ⟨false,⟨(some 45),.iaddr none 1 (.t 44) (.c fO),[8,7],(some (43,false))⟩⟩,
 ⟨false,⟨(some 46),.load none (.t 45),[9,7],(some (43,false))⟩⟩,
 ⟨false,⟨(some 47),.mov (.t 0),[7],(some (43,false))⟩⟩,
 ⟨false,⟨(some 48),.iaddr none 1 (.t 47) (.c fO),[11,7],(some (43,false))⟩⟩,
 ⟨false,⟨(some 49),.load none (.t 48),[12,7],(some (43,false))⟩⟩,
 ⟨false,⟨(some 50),.bin .leq (.t 46) (.t 49),[10,13,7],(some (43,false))⟩⟩,
 ⟨false,⟨(some 51),.pick (.t 43) (.c (.bool true)) (.t 50),[7,14,3],(some (39,true))⟩⟩,
 fz 52 (.pick (.t 39) (.t 51) (.c (.bool false))) [3,15],
 fm 9 52 (fa [16,7] 17)] 4504630419521536
 (fq [fn 10 0 []] 0
 (.seq (fq [fm 53 8 []] 0
 (.cond (.t 53)
 (fr [fm 54 0 [],
 fz 55 (.iaddr none 1 (.t 54) (fk 0)) [0],
 fl 56 55 [1],
 fm 57 0 [],
 fz 58 (.slice (some 1) (.t 57) (some (fk 1)) none none) [3],
 ⟨false,⟨(some 10),.mov (.t 56),[2,0,1,2],none⟩⟩,
 ⟨false,⟨(some 0),.mov (.t 58),[4,5,0,1,2,3,4,5],none⟩⟩] 567453553048682496)
 .skip))
 (.seq (fq [fm 59 9 []] 9007199254740992
 (.cond (.t 59)
 (fr [fm 60 1 [],
 fz 61 (.iaddr none 1 (.t 60) (fk 0)) [0],
 fl 62 61 [1],
 fm 63 1 [],
 fz 64 (.slice (some 1) (.t 63) (some (fk 1)) none none) [3],
 ⟨false,⟨(some 10),.mov (.t 62),[2,0,1,2],none⟩⟩,
 ⟨false,⟨(some 1),.mov (.t 64),[4,5,0,1,2,3,4,5],none⟩⟩] 36317027395115679744)
 .skip))
 (fq [fm 65 2 [],
 fm 66 8 [],
 fm 67 9 [],
 fz 68 (.call .heap (.t 65) [(.t 66),(.t 67)]) [0,1,2]] 258830877784237146880
 (.cond (.t 68)
 (fr [fm 69 7 [],
 fm 70 10 [],
 fz 71 (.bslice false .dyn 1 1 [fO] [(0,1,(.t 70))]) [1],
 fz 72 (.append .dyn 1 8 (.t 69) (.t 71)) [0,2],
 ⟨false,⟨(some 7),.mov (.t 72),[3,3,0,1,2,3],none⟩⟩] 9149585060559937602560)
 .skip)))))))))))
 (fq [fm 73 7 [],
 fm 6 73 [0,0]] 9444737468273757749383
 .ret))))⟩
def f169:FFn:=⟨9,[.tmp 4],
 (fq [fz 4 (.mov (.c (.bool false))) []] 16
 (fq [fm 5 0 [],
 fm 6 5 [0],
 fx 7 (.mov (.t 1)) [1] 6 false,
 fz 8 (.pick (.t 6) (.c (.bool true)) (.t 7)) [1,2],
 fm 4 8 [3,1,0,1,2,3]] 483
 .ret))⟩
def f183:FFn:=⟨11,[],
 (fq [fm 3 0 [],
 fv 4 3 [0],
 fm 2 4 [1,0,1]] 24
 (fr [fm 5 0 [],
 fm 6 2 [],
 fm 7 2 [],
 fz 8 (.conv .u64 (.t 7)) [2],
 fg 9 164 [8] [3],
 fz 10 (.call .heap (.f 223) [(.t 5),(fk 0),(.t 6),(.t 9)]) [0,1,4,4]] 2021))⟩
def f184:FFn:=⟨61,[.tmp 2],
 (fq [fz 2 (.mov (.c fN)) []] 4
 (.seq (fq [fm 6 0 [],
 fv 7 6 [0],
 fc 8 .lss 7 2 [1]] 192
 (.cond (.t 8)
 (fq [fm 9 0 [],
 fm 2 9 [0,0]] 769
 .ret)
 .skip))
 (.seq (fq [fn 3 1 []] 260
 (.block 0 (.loop (.seq (fq [fm 10 3 [],
 fm 11 0 [],
 fv 12 11 [1],
 fb 13 .lss 10 12 [0,2]] 7168
 (fo 13 0))
 (.seq (.block 1 (fq [fm 16 0 [],
 fm 17 3 [],
 fi 18 1 16 17 [0,1],
 fl 19 18 [2],
 fm 20 0 [],
 fm 21 3 [],
 fc 22 .sub 21 1 [5],
 fi 23 1 20 22 [4,6],
 fl 24 23 [7],
 fb 25 .eql 19 24 [3,8]] 33497088
 (.cond (.t 25)
 (fq [fm 26 0 [],
 fm 27 3 [],
 fz 28 (.slice (some 1) (.t 26) (some (.t 27)) none none) [0,1],
 fm 4 28 [2,0,1,2]] 503316480
 (.seq (fq [fn 5 1 []] 0
 (.block 2 (.loop (.seq (fq [fm 29 5 [],
 fm 30 4 [],
 fv 31 30 [1],
 fb 32 .lss 29 31 [0,2]] 3758096384
 (fo 32 2))
 (.seq (.block 3 (fq [fm 35 4 [],
 fm 36 5 [],
 fi 37 1 35 36 [0,1],
 fl 38 37 [2],
 fm 39 4 [],
 fm 40 5 [],
 fc 41 .sub 40 1 [5],
 fi 42 1 39 41 [4,6],
 fl 43 42 [7],
 fb 44 .neq 38 43 [3,8]] 17562121273344
 (.cond (.t 44)
 (fq [fm 45 0 [],
 fm 46 3 [],
 fm 47 4 [],
 fm 48 5 [],
 fi 49 1 47 48 [2,3],
 fl 50 49 [4],
 fi 51 1 45 46 (fa [0,1] 6),
 fj 1 51 50 (fa [6,5] 6)] 4486007441326080
 (fr [fm 52 3 [],
 fc 53 .add 52 1 [0],
 ⟨false,⟨(some 3),.mov (.t 53),[1,0,1],none⟩⟩] 13510798882111488))
 .skip)))
 (fr [fm 33 5 [],
 fc 34 .add 33 1 [0],
 ⟨false,⟨(some 5),.mov (.t 34),[1,0,1],none⟩⟩] 17617955848192))))))
 (fq [fm 54 0 [],
 fm 55 3 [],
 fz 56 (.slice (some 1) (.t 54) (some (.t 55)) none none) [0,1],
 ⟨false,⟨none,.clear 1 8 [fO] (.t 56),[2],none⟩⟩] 126100789566373936
 (fq [fm 57 0 [],
 fm 58 3 [],
 fz 59 (.slice (some 1) (.t 57) none (some (.t 58)) none) [0,1],
 fm 2 59 [2,0,1,2]] 1008806316530991113
 .ret))))
 .skip)))
 (fr [fm 14 3 [],
 fc 15 .add 14 1 [0],
 ⟨false,⟨(some 3),.mov (.t 15),[1,0,1],none⟩⟩] 33603588))))))
 (fq [fm 60 0 [],
 fm 2 60 [0,0]] 1152921504606846985
 .ret))))⟩
def f187:FFn:=⟨18,[.tmp 2],
 (fq [fz 2 (.mov (.c fN)) []] 4
 (fq [fz 3 (.mov (.c fN)) []] 0
 (.seq (fq [fm 6 0 [],
 fv 7 6 [0],
 fn 8 0 []] 1
 (.block 0 (.loop (fq [fb 9 .lss 8 7 []] 0
 (.seq (fo 9 0)
 (.seq (.block 1 (fq [fi 10 4 6 8 [],
 fw 11 4 10 [0],
 fz 5 (.alloc .dyn (.agg [fN,fO,fN,fN])) [],
 fj 4 5 11 [2,1,0,1,2]] 3584
 (fr [fm 12 3 [],
 ff 13 0 5 [],
 fl 14 13 [1],
 fg 15 84 [12,14] [0,2],
 ⟨false,⟨(some 3),.mov (.t 15),[3,3,0,1,2,3],none⟩⟩] 61472)))
 (fr [fc 16 .add 8 1 [],
 ⟨false,⟨(some 8),.mov (.t 16),[0],none⟩⟩] 65536)))))))
 (fq [fm 17 3 [],
 fm 2 17 [0,0]] 131528
 .ret))))⟩
def f188:FFn:=⟨17,[.tmp 4],
 (fq [fz 4 (.mov (.c .nilif)) []] 16
 (fq [fm 5 0 [],
 fg 6 200 [5] [0]] 96
 (fq [fm 7 0 [],
 fm 8 0 [],
 fz 9 (.nilchk (.t 8)) [1],
 ff 10 1 9 [2],
 fl 11 10 [3],
 fm 12 1 [],
 fz 13 (.bslice false .dyn 1 1 [(.int .u8 (.ofNat 0))] [(0,1,(.t 12))]) [5],
 fz 14 (.appendT 5 .dyn 1 1 (.t 11) (.t 13)) [4,6],
 fz 15 (.nilchk (.t 7)) (fa [0] 8),
 ff 16 1 15 (fa [8] 8),
 fj 1 16 14 (fa [9,7,7] 8)] 130947
 (fq [fz 4 (.mov (.c .nilif)) []] 0
 .ret))))⟩
def f189:FFn:=⟨14,[.tmp 4],
 (fq [fz 4 (.mov (.c (.bool false))) []] 16
 (fq [fm 8 0 [],
 fm 9 1 [],
 fg 10 144 [8,9] [0,1],
 fm 7 10 [2],
 fe 11 0 7 [3],
 fe 12 1 7 [3],
 fm 5 11 (fa [4,2] 5),
 fm 6 12 (fa [5,6] 7)] 8099
 (fq [fm 13 6 [],
 fm 4 13 [0,0]] 8256
 .ret)))⟩
def f190:FFn:=⟨9,[.tmp 2],
 (fq [fz 2 (.mov (.c (.bool false))) []] 4
 (fq [fm 3 0 [],
 fz 4 (.bin .lss (.t 3) (.c (.int .i64 (.negSucc 65535)))) [0],
 fm 5 4 [1],
 fx 6 (.mov (.t 0)) [2] 5 false,
 fx 7 (.bin .gtr (.t 6) (fk 65536)) [3,2] 5 false,
 fz 8 (.pick (.t 5) (.c (.bool true)) (.t 7)) [2,4],
 fm 2 8 (fa [5,2] 6)] 505
 .ret))⟩
def f192:FFn:=⟨35,[.tmp 4],
 (fq [fn 4 0 []] 16
 (.seq (fq [fm 7 0 [],
 fv 8 7 [0],
 fn 9 0 []] 0
 (.block 0 (.loop (fq [fb 10 .lss 9 8 []] 0
 (.seq (fo 10 0)
 (.seq (.block 1 (fq [fm 11 9 [],
 fi 12 1 7 9 [],
 fl 13 12 [1],
 fm 5 11 [0,0,1,2],
 fm 6 13 [2,3,0,1,2,3]] 15360
 (.block 2 (fq [fm 15 6 [],
 fc 16 .lss 15 0 [0],
 fm 17 16 [1],
 ⟨false,⟨(some 18),.mov (.t 6),[2],(some (17,false))⟩⟩,
 ⟨false,⟨(some 19),.mov (.t 1),[2],(some (17,false))⟩⟩,
 ⟨false,⟨(some 20),.bin .geq (.t 18) (.t 19),[3,4,2],(some (17,false))⟩⟩,
 fz 21 (.pick (.t 17) (.c (.bool true)) (.t 20)) [2,5],
 fm 14 21 [6,2]] 2326528
 (.cond (.t 14)
 (fq [fn 4 2 []] 8524678115
 .ret)
 (fq [fm 23 5 [],
 fc 24 .gtr 23 0 [0],
 fm 25 24 [1],
 ⟨false,⟨(some 26),.mov (.t 6),[2],(some (25,true))⟩⟩,
 ⟨false,⟨(some 27),.mov (.t 0),[2],(some (25,true))⟩⟩,
 ⟨false,⟨(some 28),.mov (.t 5),[2],(some (25,true))⟩⟩,
 ⟨false,⟨(some 29),.bin .sub (.t 28) (.c (.int .i64 (.ofNat 1))),[5,2],(some (25,true))⟩⟩,
 ⟨false,⟨(some 30),.iaddr none 1 (.t 27) (.t 29),[4,6,2],(some (25,true))⟩⟩,
 ⟨false,⟨(some 31),.load none (.t 30),[7,2],(some (25,true))⟩⟩,
 ⟨false,⟨(some 32),.bin .leq (.t 26) (.t 31),[3,8,2],(some (25,true))⟩⟩,
 fz 33 (.pick (.t 25) (.t 32) (.c (.bool false))) [2,9],
 fm 22 33 [10,2]] 8648671328
 (.cond (.t 22)
 (fq [fn 4 5 []] 8528855939
 .ret)
 .skip)))))))
 (fr [fc 34 .add 9 1 [],
 ⟨false,⟨(some 9),.mov (.t 34),[0],none⟩⟩] 17184063504)))))))
 (fq [fn 4 0 []] 8524661635
 .ret)))⟩
def f193:FFn:=⟨72,[.tmp 2],
 (fq [fz 1 (.box .dyn (.t 0)) [],
 fn 2 0 []] 5
 (.seq (fq [ff 6 3 1 [],
 fl 7 6 [0],
 fv 8 7 [1],
 fn 9 0 []] 64
 (.block 0 (.loop (fq [fb 10 .lss 9 8 []] 0
 (.seq (fo 10 0)
 (.seq (.block 1 (fq [fm 11 9 [],
 fi 12 3 7 9 [],
 fw 13 3 12 [1],
 fz 4 (.alloc .dyn (.agg [fO,fO,fO])) [],
 fm 3 11 [0,0,1,2,3],
 fj 3 4 13 (fa [3,2,4] 5)] 15360
 (.seq (.block 2 (fq [ff 15 0 4 [],
 fl 16 15 [0],
 fc 17 .lss 16 0 [1],
 fm 18 17 [2],
 ⟨false,⟨(some 19),.faddr 0 (.t 4),[3],(some (18,false))⟩⟩,
 ⟨false,⟨(some 20),.load none (.t 19),[4,3],(some (18,false))⟩⟩,
 ⟨false,⟨(some 21),.faddr 1 (.t 1),[3],(some (18,false))⟩⟩,
 ⟨false,⟨(some 22),.load none (.t 21),[6,3],(some (18,false))⟩⟩,
 ⟨false,⟨(some 23),.bin .geq (.t 20) (.t 22),[5,7,3],(some (18,false))⟩⟩,
 fz 24 (.pick (.t 18) (.c (.bool true)) (.t 23)) [3,8],
 fm 25 24 [9,3],
 ⟨false,⟨(some 26),.faddr 2 (.t 4),[10],(some (25,false))⟩⟩,
 ⟨false,⟨(some 27),.load none (.t 26),[11,10],(some (25,false))⟩⟩,
 ⟨false,⟨(some 28),.bin .lss (.t 27) (.c fO),[12,10],(some (25,false))⟩⟩,
 fz 29 (.pick (.t 25) (.c (.bool true)) (.t 28)) [10,13],
 fm 30 29 [14,10],
 ⟨false,⟨(some 31),.faddr 2 (.t 4),[15],(some (30,false))⟩⟩,
 ⟨false,⟨(some 32),.load none (.t 31),[16,15],(some (30,false))⟩⟩,
 ⟨false,⟨(some 33),.faddr 1 (.t 1),[15],(some (30,false))⟩⟩,
 ⟨false,⟨(some 34),.load none (.t 33),[18,15],(some (30,false))⟩⟩,
 ⟨false,⟨(some 35),.bin .geq (.t 32) (.t 34),[17,19,15],(some (30,false))⟩⟩,
 fz 36 (.pick (.t 30) (.c (.bool true)) (.t 35)) [15,20],
 fm 14 36 [21,15]] 70380912640
 (.cond (.t 14)
 (fq [fn 2 2 []] 1180303390408317617050
 .ret)
 (fq [ff 38 0 1 [],
 fl 39 38 [0],
 ff 40 1 4 [],
 fl 41 40 [2],
 fg 42 38 [39,41] [1,3],
 fu 43 42 [4],
 fm 37 43 [5,4]] 17317308153856
 (.cond (.t 37)
 (fq [fn 2 9 []] 1180303390545756554138
 .ret)
 .skip)))))
 (.seq (fq [fm 44 3 [],
 fc 45 .eql 44 0 [0]] 17729624997892
 (.cond (.t 45)
 (.exit 1)
 .skip))
 (fq [ff 46 3 1 [],
 fl 47 46 [0],
 fm 48 3 [],
 fc 49 .sub 48 1 [2],
 fi 50 3 47 49 [1,3],
 fw 51 3 50 [4],
 fz 5 (.alloc .dyn (.agg [fO,fO,fO])) [],
 fj 3 5 51 (fa [6,5] 7)] 4468415255281672
 (fq [ff 52 0 4 [],
 fl 53 52 [0],
 ff 54 0 5 [],
 fl 55 54 [2],
 fb 56 .lss 53 55 [1,3],
 fm 57 56 [4],
 ⟨false,⟨(some 58),.faddr 0 (.t 4),[5],(some (57,false))⟩⟩,
 ⟨false,⟨(some 59),.load none (.t 58),[6,5],(some (57,false))⟩⟩,
 ⟨false,⟨(some 60),.faddr 0 (.t 5),[5],(some (57,false))⟩⟩,
 ⟨false,⟨(some 61),.load none (.t 60),[8,5],(some (57,false))⟩⟩,
 ⟨false,⟨(some 62),.bin .eql (.t 59) (.t 61),[7,9,5],(some (57,false))⟩⟩,
 ⟨false,⟨(some 63),.mov (.t 62),[10,5,5],(some (57,false))⟩⟩,
 ⟨false,⟨(some 64),.faddr 1 (.t 4),[11],(some (63,true))⟩⟩,
 ⟨false,⟨(some 65),.load none (.t 64),[12,11],(some (63,true))⟩⟩,
 ⟨false,⟨(some 66),.faddr 1 (.t 5),[11],(some (63,true))⟩⟩,
 ⟨false,⟨(some 67),.load none (.t 66),[14,11],(some (63,true))⟩⟩,
 ⟨false,⟨(some 68),.bin .leq (.t 65) (.t 67),[13,15,11],(some (63,true))⟩⟩,
 ⟨false,⟨(some 69),.pick (.t 63) (.t 68) (.c (.bool false)),[11,16,5],(some (57,false))⟩⟩,
 fz 70 (.pick (.t 57) (.c (.bool true)) (.t 69)) [5,17]] 283726776524341296
 (.cond (.t 70)
 (fq [fn 2 5 []] 2360895011125728904066
 .ret)
 .skip)))))))
 (fr [fc 71 .add 9 1 [],
 ⟨false,⟨(some 9),.mov (.t 71),[0],none⟩⟩] 3541774862152233910276)))))))
 (fq [fn 2 0 []] 1180303390408317600642
 .ret)))⟩
def f195:FFn:=⟨19,[.tmp 4],
 (fq [fn 4 0 []] 16
 (.seq (fq [fm 6 0 [],
 fv 7 6 [0],
 fn 8 0 []] 64
 (.block 0 (.loop (fq [fb 9 .lss 8 7 []] 0
 (.seq (fo 9 0)
 (.seq (.block 1 (fq [fm 10 8 [],
 fm 5 10 [0,0]] 1536
 (fq [fm 11 1 [],
 fm 12 0 [],
 fm 13 5 [],
 fi 14 2 12 13 [1,2],
 fw 15 2 14 [3],
 fz 16 (.call .heap (.t 11) [(.t 15)]) [0,4]] 63488
 (.cond (.t 16)
 (fq [fm 17 5 [],
 fm 4 17 [0,0]] 197027
 .ret)
 .skip))))
 (fr [fc 18 .add 8 1 [],
 ⟨false,⟨(some 8),.mov (.t 18),[0],none⟩⟩] 327728)))))))
 (fq [fz 4 (.mov (.c (.int .i64 (.negSucc 0)))) []] 387
 .ret)))⟩
def f197:FFn:=⟨17,[.tmp 4],
 (fq [fz 4 (.mov (.c (.bool false))) []] 16
 (fq [fm 5 0 [],
 fg 6 227 [5] [0],
 fm 7 6 [1,1],
 fx 8 (.mov (.t 1)) [2] 7 true,
 fx 9 (.call .heap (.f 227) [(.t 8)]) [3,2,2] 7 true,
 fx 10 (.un .not (.t 9)) [4,2] 7 true,
 fz 11 (.pick (.t 7) (.t 10) (.c (.bool false))) [2,5],
 fm 12 11 [6,4],
 fx 13 (.mov (.t 0)) [7] 12 false,
 fx 14 (.mov (.t 1)) [7] 12 false,
 fx 15 (.bin .lss (.t 13) (.t 14)) [8,9,7] 12 false,
 fz 16 (.pick (.t 12) (.c (.bool true)) (.t 15)) [7,10],
 fm 4 16 (fa [11,7] 12)] 131043
 .ret))⟩
def f198:FFn:=⟨6,[.tmp 2],
 (fq [fz 2 (.mov (.c (.bool false))) []] 4
 (fq [fm 3 0 [],
 fm 4 0 [],
 fb 5 .neq 3 4 [0,1],
 fm 2 5 [2,0,1,2]] 57
 .ret))⟩
def f199:FFn:=⟨29,[.tmp 4],
 (fq [fz 2 (.box .dyn (.t 0)) [],
 fz 4 (.mov (.c fN)) []] 17
 (fq [ff 10 3 2 [],
 fl 11 10 [0],
 fm 12 1 [],
 fz 13 (.call .heap (.f 228) [(.t 11),(.t 12),(.f 229)]) [1,2],
 fm 9 13 [3],
 fe 14 0 9 [4],
 fe 15 1 9 [4],
 fm 5 14 (fa [5,3] 6),
 fm 6 15 (fa [6,7] 8)] 65088
 (fq [ff 17 3 2 [],
 fl 18 17 [0],
 fm 19 1 [],
 fc 20 .add 19 1 [2],
 fz 21 (.call .heap (.f 228) [(.t 18),(.t 20),(.f 230)]) [1,3],
 fm 16 21 [4],
 fe 22 0 16 [5],
 fe 23 1 16 [5],
 fm 7 22 (fa [6,4] 7),
 fm 8 23 (fa [7,8] 9)] 16711938
 (fq [ff 24 3 2 [],
 fl 25 24 [0],
 fm 26 5 [],
 fm 27 7 [],
 fz 28 (.slice (some 3) (.t 25) (some (.t 26)) (some (.t 27)) none) [1,2,3],
 fm 4 28 (fa [4] 5)] 520093860
 .ret))))⟩
def f200:FFn:=⟨20,[],
 (fq [fm 2 0 [],
 fz 3 (.nilchk (.t 2)) [0],
 ff 4 0 3 [1],
 fl 5 4 [2],
 fz 6 (.eq (.nil 1) false (.t 5) (.c .nilptr)) [3]] 60
 (.cond (.t 6)
 (fr [fm 7 0 [],
 fm 8 0 [],
 fz 9 (.convP 238 2 (.t 8)) [1],
 fz 10 (.ext 2 231 [(.t 9)]) [2],
 fz 11 (.convP 238 2 (.t 10)) [3],
 fz 12 (.nilchk (.t 7)) (fa [0] 5),
 ff 13 0 12 (fa [5] 5),
 fj 1 13 11 (fa [6,4,3] 5)] 16321)
 (fq [fm 14 0 [],
 fz 15 (.nilchk (.t 14)) [0],
 ff 16 0 15 [1],
 fl 17 16 [2],
 fm 18 0 [],
 fz 19 (.eqp true (.t 17) (.t 18)) [3,4]] 507969
 (.cond (.t 19)
 .bad
 .skip))))⟩
def f201:FFn:=⟨5,[.tmp 2],
 (fq [fz 2 (.mov (.c (.str []))) []] 4
 (fq [fm 3 0 [],
 fz 4 (.call .heap (.f 232) [(.t 3),(fk 10)]) [0],
 fm 2 4 [1,1,0,1]] 25
 .ret))⟩
def f202:FFn:=⟨32,[.tmp 4],
 (fq [fz 2 (.box .dyn (.t 0)) [],
 fn 4 0 []] 17
 (.seq (fq [fm 7 1 [],
 fv 8 7 [0],
 ff 9 0 2 [],
 fl 10 9 [2],
 fv 11 10 [3],
 fb 12 .neq 8 11 [1,4]] 3968
 (.cond (.t 12)
 (fq [fn 4 4 []] 4102
 .ret)
 .skip))
 (.seq (fq [fm 13 1 [],
 fv 14 13 [0],
 fn 15 0 []] 4114
 (.block 0 (.loop (fq [fb 16 .lss 15 14 []] 0
 (.seq (fo 16 0)
 (.seq (.block 1 (fq [fm 17 15 [],
 fi 18 1 13 15 [],
 fl 19 18 [1],
 fm 5 17 [0,0,1,2],
 fm 6 19 [2,3,0,1,2,3]] 983040
 (fq [fm 20 6 [],
 fc 21 .lss 20 0 [0],
 fm 22 21 [1],
 ⟨false,⟨(some 23),.mov (.t 6),[2],(some (22,false))⟩⟩,
 ⟨false,⟨(some 24),.faddr 0 (.t 2),[2],(some (22,false))⟩⟩,
 ⟨false,⟨(some 25),.load none (.t 24),[4,2],(some (22,false))⟩⟩,
 ⟨false,⟨(some 26),.mov (.t 5),[2],(some (22,false))⟩⟩,
 ⟨false,⟨(some 27),.iaddr none 1 (.t 25) (.t 26),[5,6,2],(some (22,false))⟩⟩,
 ⟨false,⟨(some 28),.load none (.t 27),[7,2],(some (22,false))⟩⟩,
 ⟨false,⟨(some 29),.bin .geq (.t 23) (.t 28),[3,8,2],(some (22,false))⟩⟩,
 fz 30 (.pick (.t 22) (.c (.bool true)) (.t 29)) [2,9]] 7340128
 (.cond (.t 30)
 (fq [fn 4 2 []] 2139152388
 .ret)
 .skip))))
 (fr [fc 31 .add 15 1 [],
 ⟨false,⟨(some 15),.mov (.t 31),[0],none⟩⟩] 3221225488)))))))
 (fq [fn 4 0 []] 1065410564
 .ret))))⟩
def f203:FFn:=⟨19,[.tmp 4],
 (fq [fn 4 0 []] 16
 (.seq (fq [fm 6 0 [],
 fv 7 6 [0],
 fn 8 0 []] 64
 (.block 0 (.loop (fq [fb 9 .lss 8 7 []] 0
 (.seq (fo 9 0)
 (.seq (.block 1 (fq [fm 10 8 [],
 fm 5 10 [0,0]] 1536
 (fq [fm 11 1 [],
 fm 12 0 [],
 fm 13 5 [],
 fi 14 1 12 13 [1,2],
 fl 15 14 [3],
 fz 16 (.call .heap (.t 11) [(.t 15)]) [0,4]] 63488
 (.cond (.t 16)
 (fq [fm 17 5 [],
 fm 4 17 [0,0]] 197027
 .ret)
 .skip))))
 (fr [fc 18 .add 8 1 [],
 ⟨false,⟨(some 8),.mov (.t 18),[0],none⟩⟩] 327728)))))))
 (fq [fz 4 (.mov (.c (.int .i64 (.negSucc 0)))) []] 387
 .ret)))⟩
def f204:FFn:=⟨7,[.tmp 3],
 (fq [fz 3 (.mov (.c (.bool false))) []] 8
 (fq [fm 4 0 [],
 fl 5 1 [],
 fz 6 (.call .heap (.t 4) [(.t 5)]) [0,1],
 fm 3 6 [2,2,0,1,2]] 115
 .ret))⟩
def f205:FFn:=⟨4,[.tmp 2],
 (fq [fz 1 (.box .dyn (.t 0)) [],
 fz 2 (.mov (.c .nilfn)) []] 5
 (fq [fz 3 (.mkfn 233 [] [(.t 1)]) [],
 fm 2 3 [0,0]] 10
 .ret))⟩
def f206:FFn:=⟨4,[.tmp 2],
 (fq [fz 1 (.box .dyn (.t 0)) [],
 fz 2 (.mov (.c .nilfn)) []] 5
 (fq [fz 3 (.mkfn 235 [] [(.t 1)]) [],
 fm 2 3 [0,0]] 10
 .ret))⟩
def f207:FFn:=⟨19,[.tmp 4],
 (fq [fz 2 (.box .dyn (.t 0)) [],
 fn 4 0 []] 17
 (.seq (fq [fw 6 4 2 [],
 fg 7 112 [6] [0],
 fm 5 7 [1,1,0,1]] 192
 (fq [fm 8 5 [],
 fc 9 .neq 8 0 [0]] 256
 (.cond (.t 9)
 (fq [fm 10 5 [],
 fm 4 10 [0,0]] 1574
 .ret)
 .skip)))
 (.seq (fq [fm 11 1 [],
 fc 12 .lss 11 0 [0],
 fm 13 12 [1],
 fx 14 (.mov (.t 1)) [2] 13 false,
 fx 15 (.faddr 1 (.t 2)) [2] 13 false,
 fx 16 (.load none (.t 15)) [4,2] 13 false,
 fx 17 (.bin .geq (.t 14) (.t 16)) [3,5,2] 13 false,
 fz 18 (.pick (.t 13) (.c (.bool true)) (.t 17)) [2,6]] 260662
 (.cond (.t 18)
 (fq [fn 4 2 []] 262144
 .ret)
 .skip))
 (fq [⟨false,⟨(some 4),.mov (.c fO),[],none⟩⟩] 262144
 .ret))))⟩
def f208:FFn:=⟨28,[.tmp 6,.tmp 7,.tmp 8],
 (fq [fz 3 (.box .dyn (.t 0)) [],
 fn 6 0 [],
 fz 7 (.mov (.c (.bool false))) [1],
 fn 8 0 [2]] 449
 (.seq (fq [fw 10 4 3 [],
 fm 11 1 [],
 fg 12 207 [10,11] [0,1],
 fm 8 12 [2,2,0,1,2]] 7168
 (fq [fm 13 8 [],
 fc 14 .neq 13 0 [0]] 8192
 (.cond (.t 14)
 (fq [fm 15 8 [],
 fn 6 0 [],
 fz 7 (.mov (.c (.bool false))) [1,1],
 ⟨false,⟨(some 8),.mov (.t 15),[0,2,0,1,2],none⟩⟩] 49166
 .ret)
 .skip)))
 (.seq (fq [ff 16 0 3 [],
 fl 17 16 [0],
 fm 18 2 [],
 fg 19 38 [17,18] [1,2],
 fu 20 19 [3]] 999872
 (.cond (.t 20)
 (fq [fn 6 0 [],
 fz 7 (.mov (.c (.bool false))) [0,0],
 fn 8 9 [1,0,1]] 1048590
 .ret)
 .skip))
 (.seq (fq [fw 21 4 3 [],
 fm 22 1 [],
 fm 23 2 [],
 fg 24 226 [21,22,23] [0,1,2],
 fm 9 24 [3,3,0,1,2,3]] 32506318
 (fq [fm 25 9 [],
 fc 26 .geq 25 0 [0]] 33554432
 (.cond (.t 26)
 (fq [fm 27 9 [],
 fm 6 27 [0,0],
 fz 7 (.mov (.c (.bool true))) [1,0,1],
 fn 8 0 [2,0,1,2]] 201327104
 .ret)
 .skip)))
 (fq [⟨false,⟨(some 6),.mov (.c fO),[],none⟩⟩,
 ⟨false,⟨(some 7),.mov (.c (.bool false)),[0,0],none⟩⟩,
 ⟨false,⟨(some 8),.mov (.c fO),[1,0,1],none⟩⟩] 67109376
 .ret)))))⟩
def f209:FFn:=⟨53,[],
 (fq [fm 10 1 [],
 fc 11 .add 10 1 [0],
 fm 8 11 [1,0,1]] 3072
 (.block 0 (.loop (.seq (fq [fm 12 8 [],
 fm 13 2 [],
 fb 14 .lss 12 13 [0,1]] 12288
 (fo 14 0))
 (.seq (.block 1 (fq [fm 17 8 [],
 fm 9 17 [0,0]] 147456
 (.block 2 (.loop (.seq (fq [fm 18 9 [],
 fm 19 1 [],
 fb 20 .gtr 18 19 [0,1],
 fm 21 20 [2],
 ⟨false,⟨(some 22),.mov (.t 3),[3],(some (21,true))⟩⟩,
 ⟨false,⟨(some 23),.mov (.t 0),[3],(some (21,true))⟩⟩,
 ⟨false,⟨(some 24),.mov (.t 9),[3],(some (21,true))⟩⟩,
 ⟨false,⟨(some 25),.iaddr none 3 (.t 23) (.t 24),[5,6,3],(some (21,true))⟩⟩,
 ⟨false,⟨(some 26),.load (some 3) (.t 25),[7,3],(some (21,true))⟩⟩,
 ⟨false,⟨(some 27),.mov (.t 0),[3],(some (21,true))⟩⟩,
 ⟨false,⟨(some 28),.mov (.t 9),[3],(some (21,true))⟩⟩,
 ⟨false,⟨(some 29),.bin .sub (.t 28) (.c (.int .i64 (.ofNat 1))),[10,3],(some (21,true))⟩⟩,
 ⟨false,⟨(some 30),.iaddr none 3 (.t 27) (.t 29),[9,11,3],(some (21,true))⟩⟩,
 ⟨false,⟨(some 31),.load (some 3) (.t 30),[12,3],(some (21,true))⟩⟩,
 ⟨false,⟨(some 32),.call .heap (.t 22) [(.t 26),(.t 31)],[4,8,13,3,3],(some (21,true))⟩⟩,
 ⟨false,⟨(some 33),.bin .lss (.t 32) (.c fO),[14,3],(some (21,true))⟩⟩,
 fz 34 (.pick (.t 21) (.t 33) (.c (.bool false))) [3,15]] 3932160
 (fo 34 2))
 (.seq (.block 3 (fr [fm 37 0 [],
 fm 38 9 [],
 fm 39 0 [],
 fm 40 9 [],
 fc 41 .sub 40 1 [3],
 fm 42 0 [],
 fm 43 9 [],
 fc 44 .sub 43 1 [6],
 fi 45 3 42 44 [5,7],
 fw 46 3 45 [8],
 fm 47 0 [],
 fm 48 9 [],
 fi 49 3 47 48 [10,11],
 fw 50 3 49 [12],
 fi 51 3 37 38 [0,1,0,1,5,6,7,8,9,13],
 fj 3 51 46 [14,9,0,1,5,6,7,8,9,13],
 fi 52 3 39 41 (fa [2,4] 16),
 fj 3 52 50 (fa [16,13,15] 16)] 9007078995656704))
 (fr [fm 35 9 [],
 fc 36 .sub 35 1 [0],
 ⟨false,⟨(some 9),.mov (.t 36),[1,0,1],none⟩⟩] 103079215104)))))))
 (fr [fm 15 8 [],
 fc 16 .add 15 1 [0],
 ⟨false,⟨(some 8),.mov (.t 16),[1,0,1],none⟩⟩] 98816))))))⟩
def f218:FFn:=⟨25,[.tmp 2],
 (fq [fn 2 0 []] 0
 (.seq (fq [fm 3 0 [],
 fz 4 (.bin .geq (.t 3) (.c (.int .u64 (.ofNat 4294967296)))) [0]] 8
 (.cond (.t 4)
 (fq [fm 5 0 [],
 fz 6 (.bin .shr (.t 5) (.c (.int .u64 (.ofNat 32)))) [0],
 ⟨false,⟨(some 0),.mov (.t 6),[1,0,1],none⟩⟩] 116
 (fr [fn 2 32 []] 0))
 .skip))
 (.seq (fq [fm 7 0 [],
 fz 8 (.bin .geq (.t 7) (.c (.int .u64 (.ofNat 65536)))) [0]] 144
 (.cond (.t 8)
 (fq [fm 9 0 [],
 fz 10 (.bin .shr (.t 9) (.c (.int .u64 (.ofNat 16)))) [0],
 ⟨false,⟨(some 0),.mov (.t 10),[1,0,1],none⟩⟩] 1792
 (fr [fm 11 2 [],
 fc 12 .add 11 16 [0],
 ⟨false,⟨(some 2),.mov (.t 12),[1,0,1],none⟩⟩] 6144))
 .skip))
 (.seq (fq [fm 13 0 [],
 fz 14 (.bin .geq (.t 13) (.c (.int .u64 (.ofNat 256)))) [0]] 8448
 (.cond (.t 14)
 (fq [fm 15 0 [],
 fz 16 (.bin .shr (.t 15) (.c (.int .u64 (.ofNat 8)))) [0],
 ⟨false,⟨(some 0),.mov (.t 16),[1,0,1],none⟩⟩] 114688
 (fr [fm 17 2 [],
 fc 18 .add 17 8 [0],
 ⟨false,⟨(some 2),.mov (.t 18),[1,0,1],none⟩⟩] 393216))
 .skip))
 (fq [fm 19 2 [],
 fm 20 0 [],
 fz 21 (.conv .u8 (.t 20)) [1],
 fz 22 (.index none (.c (.str [0,1,2,2,3,3,3,3,4,4,4,4,4,4,4,4,5,5,5,5,5,5,5,5,5,5,5,5,5,5,5,5,6,6,6,6,6,6,6,6,6,6,6,6,6,6,6,6,6,6,6,6,6,6,6,6,6,6,6,6,6,6,6,6,7,7,7,7,7,7,7,7,7,7,7,7,7,7,7,7,7,7,7,7,7,7,7,7,7,7,7,7,7,7,7,7,7,7,7,7,7,7,7,7,7,7,7,7,7,7,7,7,7,7,7,7,7,7,7,7,7,7,7,7,7,7,7,7,8,8,8,8,8,8,8,8,8,8,8,8,8,8,8,8,8,8,8,8,8,8,8,8,8,8,8,8,8,8,8,8,8,8,8,8,8,8,8,8,8,8,8,8,8,8,8,8,8,8,8,8,8,8,8,8,8,8,8,8,8,8,8,8,8,8,8,8,8,8,8,8,8,8,8,8,8,8,8,8,8,8,8,8,8,8,8,8,8,8,8,8,8,8,8,8,8,8,8,8,8,8,8,8,8,8,8,8,8,8,8,8,8,8,8,8,8,8,8,8,8,8,8,8,8,8,8,8])) (.t 21)) [2],
 fz 23 (.conv .i64 (.t 22)) [3],
 fb 24 .add 19 23 [0,4],
 ⟨false,⟨(some 2),.mov (.t 24),[5,0,1,2,3,4,5],none⟩⟩] 33046529
 .ret)))))⟩
def f219:FFn:=⟨8,[.tmp 4],
 (fq [fz 4 (.mov (.c fN)) []] 16
 (fq [fm 5 0 [],
 fm 6 1 [],
 fz 7 (.call .heap (.f 168) [(.t 5),(.t 6),(.f 242)]) [0,1],
 fm 4 7 [2,2,0,1,2]] 227
 .ret))⟩
def f223:FFn:=⟨134,[],
 (fq [fz 8 (.mov (.c (.bool true))) []] 0
 (fq [fz 9 (.mov (.c (.bool true))) []] 0
 (.block 0 (.loop (.block 1 (fq [fm 19 2 [],
 fm 20 1 [],
 fb 21 .sub 19 20 [0,1],
 fm 10 21 [2,0,1,2]] 3670016
 (.seq (fq [fm 22 10 [],
 fc 23 .leq 22 12 [0]] 4194304
 (.cond (.t 23)
 (fq [fm 24 0 [],
 fm 25 1 [],
 fm 26 2 [],
 fg 27 251 [24,25,26] [0,1,2]] 154667177631247541668415247
 .ret)
 .skip))
 (.seq (fq [fm 28 3 [],
 fc 29 .eql 28 0 [0]] 276824064
 (.cond (.t 29)
 (fq [fm 30 0 [],
 fm 31 1 [],
 fm 32 2 [],
 fg 33 252 [30,31,32] [0,1,2]] 154667177631247558051366671
 .ret)
 .skip))
 (.seq (fq [fm 34 8 [],
 fu 35 34 [0]] 17716740096
 (.cond (.t 35)
 (fq [fm 36 0 [],
 fm 37 1 [],
 fm 38 2 [],
 fg 39 253 [36,37,38] [0,1,2]] 1065151889408
 (fr [fm 40 3 [],
 fc 41 .sub 40 1 [0],
 ⟨false,⟨(some 3),.mov (.t 41),[1,0,1],none⟩⟩] 3298534883328))
 .skip))
 (fq [fm 43 0 [],
 fm 44 1 [],
 fm 45 2 [],
 fg 46 254 [43,44,45] [0,1,2],
 fm 42 46 [3],
 fe 47 0 42 [4],
 fe 48 1 42 [4],
 fm 11 47 (fa [5,3] 6),
 fm 12 48 (fa [6,7] 8)] 558586266648576
 (.seq (fq [fm 49 12 [],
 fc 50 .eql 49 2 [0]] 562949953421312
 (.cond (.t 50)
 (fq [fm 51 0 [],
 fm 52 1 [],
 fm 53 2 [],
 fg 54 255 [51,52,53] [0,1,2]] 34902897112125440
 (fq [fm 55 2 [],
 fc 56 .sub 55 1 [0],
 fm 57 11 [],
 fm 58 1 [],
 fb 59 .sub 57 58 [2,3],
 fb 60 .sub 56 59 [1,4],
 ⟨false,⟨(some 11),.mov (.t 60),[5,0,1,2,3,4,5],none⟩⟩] 2269814212194729984
 (fr [fn 12 1 []] 0)))
 .skip))
 (.seq (fq [fm 61 8 [],
 fm 62 61 [0],
 ⟨false,⟨(some 63),.mov (.t 9),[1],(some (62,true))⟩⟩,
 fz 64 (.pick (.t 62) (.t 63) (.c (.bool false))) [1,2],
 fm 65 64 [3,1],
 ⟨false,⟨(some 66),.mov (.t 12),[4],(some (65,true))⟩⟩,
 ⟨false,⟨(some 67),.bin .eql (.t 66) (.c (.int .i64 (.ofNat 1))),[5,4],(some (65,true))⟩⟩,
 fz 68 (.pick (.t 65) (.t 67) (.c (.bool false))) [4,6]] 62258887148676583424
 (.cond (.t 68)
 (fq [fm 69 0 [],
 fm 70 1 [],
 fm 71 2 [],
 fg 72 256 [69,70,71] [0,1,2]] 4427218577690292387840
 (.cond (.t 72)
 .ret
 .skip))
 .skip))
 (.seq (fq [fm 73 1 [],
 fc 74 .gtr 73 0 [0],
 fm 75 74 [1],
 ⟨false,⟨(some 76),.mov (.t 0),[2],(some (75,true))⟩⟩,
 ⟨false,⟨(some 77),.mov (.t 1),[2],(some (75,true))⟩⟩,
 ⟨false,⟨(some 78),.bin .sub (.t 77) (.c (.int .i64 (.ofNat 1))),[4,2],(some (75,true))⟩⟩,
 ⟨false,⟨(some 79),.iaddr none 1 (.t 76) (.t 78),[3,5,2],(some (75,true))⟩⟩,
 ⟨false,⟨(some 80),.load none (.t 79),[6,2],(some (75,true))⟩⟩,
 ⟨false,⟨(some 81),.mov (.t 0),[2],(some (75,true))⟩⟩,
 ⟨false,⟨(some 82),.mov (.t 11),[2],(some (75,true))⟩⟩,
 ⟨false,⟨(some 83),.iaddr none 1 (.t 81) (.t 82),[8,9,2],(some (75,true))⟩⟩,
 ⟨false,⟨(some 84),.load none (.t 83),[10,2],(some (75,true))⟩⟩,
 ⟨false,⟨(some 85),.call .heap (.f 197) [(.t 80),(.t 84)],[7,11,2,2],(some (75,true))⟩⟩,
 ⟨false,⟨(some 86),.un .not (.t 85),[12,2],(some (75,true))⟩⟩,
 fz 87 (.pick (.t 75) (.t 86) (.c (.bool false))) [2,13]] 71130645148224031031296
 (.cond (.t 87)
 (fq [fm 88 0 [],
 fm 89 1 [],
 fm 90 2 [],
 fm 91 11 [],
 fg 92 257 [88,89,90,91] [0,1,2,3],
 fm 13 92 (fa [4,4] 5)] 9748777809372369664830606338
 (fq [fm 93 13 [],
 fm 1 93 [0,0]] 9903520314283042199193001984
 (.exit 1)))
 .skip))
 (fq [fm 95 0 [],
 fm 96 1 [],
 fm 97 2 [],
 fm 98 11 [],
 fg 99 258 [95,96,97,98] [0,1,2,3],
 fm 94 99 [4],
 fe 100 0 94 [5],
 fe 101 1 94 [5],
 fm 14 100 (fa [6,4] 7),
 fm 15 101 (fa [7,8] 9)] 5050950102789262194122789227264
 (fq [fm 102 15 [],
 fm 9 102 [0,0]] 5070602400912917605986812854272
 (fq [fm 103 14 [],
 fm 104 1 [],
 fb 105 .sub 103 104 [0,1],
 fm 106 2 [],
 fm 107 14 [],
 fb 108 .sub 106 107 [3,4],
 fm 16 105 [2,0,1,2],
 fm 17 108 (fa [5,6] 7)] 638895902515027618354338415509504
 (fq [fm 109 10 [],
 fc 110 .quo 109 8 [0],
 fm 18 110 [1,0,1]] 1947111321950560360698936123458560
 (fq [fm 111 16 [],
 fm 112 17 [],
 fb 113 .lss 111 112 [0,1]] 7788445287802241442795744493830144
 (.cond (.t 113)
 (fq [fm 114 16 [],
 fm 115 18 [],
 fb 116 .geq 114 115 [0,1],
 fm 8 116 [2,0,1,2]] 155768905756044828855914889877061632
 (fq [fm 117 0 [],
 fm 118 1 [],
 fm 119 14 [],
 fm 120 3 [],
 fg 121 223 [117,118,119,120] [0,1,2,3]] 5150758483666549007502252358586335234
 (fr [fm 122 14 [],
 fc 123 .add 122 1 [0],
 fm 1 123 [1,0,1]] 15950735949418990474845684723364151296)))
 (fq [fm 124 17 [],
 fm 125 18 [],
 fb 126 .geq 124 125 [0,1],
 fm 8 126 [2,0,1,2]] 148883920121627647420483451744057491456
 (fq [fm 127 0 [],
 fm 128 14 [],
 fc 129 .add 128 1 [1],
 fm 130 2 [],
 fm 131 3 [],
 fg 132 223 [127,129,130,131] [0,2,3,4]] 10718894558009561599096300134100698660868
 (fr [fm 133 14 [],
 fm 2 133 [0,0]] 10889035741470030830827987437816582782976))))))))))))))))))))))⟩
def f226:FFn:=⟨22,[.tmp 6],
 (fq [fz 3 (.box .dyn (.t 0)) [],
 fz 5 (.box .dyn (.t 2)) [],
 fn 6 0 []] 69
 (fq [fw 9 4 3 [],
 fm 10 1 [],
 fg 11 199 [9,10] [0,1],
 fm 7 11 [2,2,0,1,2]] 3594
 (fq [fm 12 7 [],
 fz 13 (.mkfn 262 [] [(.t 5)]) [],
 fg 14 48 [12,13] [0,1],
 fm 8 14 [2,2,0,1,2]] 28704
 (.seq (fq [fm 15 8 [],
 fc 16 .lss 15 0 [0]] 32768
 (.cond (.t 16)
 (fq [fz 6 (.mov (.c (.int .i64 (.negSucc 0)))) []] 65920
 .ret)
 .skip))
 (fq [fm 17 7 [],
 fm 18 8 [],
 fi 19 3 17 18 [0,1],
 ff 20 2 19 [2],
 fl 21 20 [3],
 ⟨false,⟨(some 6),.mov (.t 21),[4,0,1,2,3,4],none⟩⟩] 4129152
 .ret)))))⟩
def f227:FFn:=⟨6,[.tmp 2],
 (fq [fz 2 (.mov (.c (.bool false))) []] 4
 (fq [fm 3 0 [],
 fm 4 0 [],
 fb 5 .neq 3 4 [0,1],
 fm 2 5 [2,0,1,2]] 57
 .ret))⟩
def f228:FFn:=⟨49,[.tmp 6,.tmp 7],
 (fq [fn 6 0 [],
 fz 7 (.mov (.c (.bool false))) [0]] 192
 (fq [fm 12 0 [],
 fv 13 12 [0],
 fm 8 13 [1,0,1]] 12288
 (fq [fm 14 8 [],
 fn 9 0 [],
 fm 10 14 [0,1,0,1]] 16384
 (.seq (.block 0 (.loop (.seq (fq [fm 15 9 [],
 fm 16 10 [],
 fb 17 .lss 15 16 [0,1]] 98304
 (fo 17 0))
 (.block 1 (fq [fm 18 9 [],
 fm 19 10 [],
 fb 20 .add 18 19 [0,1],
 fz 21 (.conv .u64 (.t 20)) [2],
 fz 22 (.bin .shr (.t 21) (.c (.int .u64 (.ofNat 1)))) [3],
 fz 23 (.conv .i64 (.t 22)) [4],
 fm 11 23 (fa [5] 6)] 16646144
 (fq [fm 24 2 [],
 fm 25 0 [],
 fm 26 11 [],
 fi 27 3 25 26 [1,2],
 fw 28 3 27 [3],
 fm 29 1 [],
 fz 30 (.call .heap (.t 24) [(.t 28),(.t 29)]) [0,4,5],
 fc 31 .lss 30 0 [6]] 2130706432
 (.cond (.t 31)
 (fr [fm 32 11 [],
 fc 33 .add 32 1 [0],
 ⟨false,⟨(some 9),.mov (.t 33),[1,0,1],none⟩⟩] 15032387584)
 (fr [fm 34 11 [],
 ⟨false,⟨(some 10),.mov (.t 34),[0,0],none⟩⟩] 19327354880))))))))
 (fq [fm 35 9 [],
 fm 36 9 [],
 fm 37 8 [],
 fb 38 .lss 36 37 [1,2],
 fm 39 38 [3],
 ⟨false,⟨(some 40),.mov (.t 2),[4],(some (39,true))⟩⟩,
 ⟨false,⟨(some 41),.mov (.t 0),[4],(some (39,true))⟩⟩,
 ⟨false,⟨(some 42),.mov (.t 9),[4],(some (39,true))⟩⟩,
 ⟨false,⟨(some 43),.iaddr none 3 (.t 41) (.t 42),[6,7,4],(some (39,true))⟩⟩,
 ⟨false,⟨(some 44),.load (some 3) (.t 43),[8,4],(some (39,true))⟩⟩,
 ⟨false,⟨(some 45),.mov (.t 1),[4],(some (39,true))⟩⟩,
 ⟨false,⟨(some 46),.call .heap (.t 40) [(.t 44),(.t 45)],[5,9,10,4,4],(some (39,true))⟩⟩,
 ⟨false,⟨(some 47),.bin .eql (.t 46) (.c fO),[11,4],(some (39,true))⟩⟩,
 fz 48 (.pick (.t 39) (.t 47) (.c (.bool false))) [4,12],
 fm 6 35 [0,11,0],
 fm 7 48 (fa [13,14] 15)] 562915593684743
 .ret)))))⟩
def f229:FFn:=⟨9,[.tmp 4],
 (fq [fz 2 (.box .dyn (.t 0)) [],
 fn 4 0 []] 17
 (fq [ff 5 0 2 [],
 fl 6 5 [0],
 fm 7 1 [],
 fb 8 .sub 6 7 [1,2],
 fm 4 8 [3,0,1,2,3]] 486
 .ret))⟩
def f230:FFn:=⟨9,[.tmp 4],
 (fq [fz 2 (.box .dyn (.t 0)) [],
 fn 4 0 []] 17
 (fq [ff 5 0 2 [],
 fl 6 5 [0],
 fm 7 1 [],
 fb 8 .sub 6 7 [1,2],
 fm 4 8 [3,0,1,2,3]] 486
 .ret))⟩
def f232:FFn:=⟨54,[.tmp 4],
 (fq [fz 4 (.mov (.c (.str []))) []] 16
 (.seq (fq [fm 10 1 [],
 fc 11 .eql 10 10 [0]] 1024
 (.cond (.t 11)
 (.seq (fq [fm 12 0 [],
 fz 13 (.bin .leq (fk 0) (.t 12)) [0],
 fm 14 13 [1],
 fx 15 (.mov (.t 0)) [2] 14 true,
 fx 16 (.bin .lss (.t 15) (fk 100)) [3,2] 14 true,
 fz 17 (.pick (.t 14) (.t 16) (.c (.bool false))) [2,4]] 129026
 (.cond (.t 17)
 (fq [fm 18 0 [],
 fg 19 263 [18] [0],
 fm 4 19 [1,1,0,1]] 917505
 .ret)
 .skip))
 (fq [fz 5 (.alloc .dyn (.agg [(.int .u8 (.ofNat 0)),(.int .u8 (.ofNat 0)),(.int .u8 (.ofNat 0)),(.int .u8 (.ofNat 0)),(.int .u8 (.ofNat 0)),(.int .u8 (.ofNat 0)),(.int .u8 (.ofNat 0)),(.int .u8 (.ofNat 0)),(.int .u8 (.ofNat 0)),(.int .u8 (.ofNat 0)),(.int .u8 (.ofNat 0)),(.int .u8 (.ofNat 0)),(.int .u8 (.ofNat 0)),(.int .u8 (.ofNat 0)),(.int .u8 (.ofNat 0)),(.int .u8 (.ofNat 0)),(.int .u8 (.ofNat 0)),(.int .u8 (.ofNat 0)),(.int .u8 (.ofNat 0)),(.int .u8 (.ofNat 0)),(.int .u8 (.ofNat 0)),(.int .u8 (.ofNat 0)),(.int .u8 (.ofNat 0)),(.int .u8 (.ofNat 0))])) []] 131088
 (fq [fm 20 0 [],
 fz 21 (.conv .u64 (.t 20)) [0],
 fm 6 21 [1,0,1]] 3145728
 (.seq (fq [fm 22 0 [],
 fc 23 .lss 22 0 [0]] 4194304
 (.cond (.t 23)
 (fr [fm 24 6 [],
 fz 25 (.un .neg (.t 24)) [0],
 ⟨false,⟨(some 6),.mov (.t 25),[1,0,1],none⟩⟩] 58720256)
 .skip))
 (fq [fm 26 6 [],
 fg 27 264 [26] [0],
 fm 7 27 [1,1,0,1]] 209715200
 (fq [fm 28 7 [],
 fz 29 (.bin .add (fk 1) (.t 28)) [0],
 fz 30 .bad [1],
 fm 31 6 [],
 fg 32 265 [30,31] [2,3]] 8321499200
 (.seq (fq [fm 33 0 [],
 fc 34 .lss 33 0 [0]] 8589934593
 (.cond (.t 34)
 (fq [fz 35 (.iaddr (some 24) 1 (.t 5) (fk 0)) [],
 ⟨false,⟨none,.store 1 (.t 35) (.c (.int .u8 (.ofNat 45))),[0],none⟩⟩] 51539607584
 (fq [fm 36 7 [],
 fz 37 (.bin .add (fk 1) (.t 36)) [0],
 fz 38 .bad [1],
 fz 39 (.convB (.t 38)) [2],
 fm 4 39 [3,0,1,2,3]] 1030792151168
 .ret))
 .skip))
 (fq [fm 40 7 [],
 fz 41 (.bin .add (fk 1) (.t 40)) [0],
 fz 42 .bad [1],
 fz 43 (.convB (.t 42)) [2],
 ⟨false,⟨(some 4),.mov (.t 43),[3,0,1,2,3],none⟩⟩] 16509854285984
 .ret))))))))
 .skip))
 (fq [fm 45 0 [],
 fz 46 (.conv .u64 (.t 45)) [0],
 fm 47 1 [],
 fm 48 0 [],
 fc 49 .lss 48 0 [3],
 fz 50 (.call .heap (.f 266) [(.c fN),(.t 46),(.t 47),(.t 49),(.c (.bool false))]) [1,2,4],
 fm 44 50 [5],
 fe 51 0 44 [6],
 fe 52 1 44 [6],
 fm 8 51 (fa [7,5] 8),
 fm 9 52 (fa [8,9] 10)] 8989607068698899
 (fq [fm 53 9 [],
 fm 4 53 [0,0]] 9007199254741504
 .ret))))⟩
def f233:FFn:=⟨9,[.tmp 3],
 (fq [fz 2 (.box .dyn (.t 0)) [],
 fz 3 (.mov (.c (.bool false))) []] 9
 (fq [ff 4 1 1 [],
 fl 5 4 [0],
 fz 6 (.mkfn 234 [] [(.t 2)]) [],
 fg 7 115 [5,6] [1,2],
 fu 8 7 [3],
 fm 3 8 (fa [4,3] 5)] 502
 .ret))⟩
def f234:FFn:=⟨12,[.tmp 3],
 (fq [fz 2 (.box .dyn (.t 0)) [],
 fz 3 (.mov (.c (.bool false))) []] 9
 (fq [fl 4 1 [],
 ff 5 0 2 [],
 fl 6 5 [1],
 fi 7 1 4 6 [0,2],
 fl 8 7 [3],
 ff 9 1 2 [],
 fl 10 9 [5],
 fb 11 .neq 8 10 [4,6],
 fm 3 11 (fa [7] 8)] 4086
 .ret))⟩
def f235:FFn:=⟨10,[.tmp 3],
 (fq [fz 3 (.mov (.c (.bool false))) []] 8
 (.seq (.region [fw 4 3 1 [],
 fm 5 0 [],
 fg 6 236 [4,5] [0,1],
 ff 7 2 1 [],
 fl 8 7 [3],
 fb 9 .gtr 6 8 [2,4],
 fm 3 9 (fa [5,2] 6)] [(2,4)] 1011)
 .ret))⟩
def f236:FFn:=⟨27,[.tmp 4],
 (fq [fz 2 (.box .dyn (.t 0)) [],
 fn 4 0 []] 17
 (fq [fn 5 0 []] 0
 (.seq (fq [ff 8 1 2 [],
 fl 9 8 [0],
 fv 10 9 [1],
 fn 11 0 []] 260
 (.block 0 (.loop (fq [fb 12 .lss 11 10 []] 0
 (.seq (fo 12 0)
 (.seq (.block 1 (fq [fi 13 2 9 11 [],
 fw 14 2 13 [0],
 fz 7 (.alloc .dyn (.agg [fO,fO])) [],
 fj 2 7 14 [2,1,0,1,2]] 28672
 (fr [fm 15 5 [],
 ff 16 1 7 [],
 fl 17 16 [1],
 fm 18 1 [],
 ff 19 0 7 [],
 fl 20 19 [4],
 fi 21 1 18 20 [3,5],
 fl 22 21 [6],
 fb 23 .mul 17 22 [2,7],
 fb 24 .add 15 23 [0,8],
 ⟨false,⟨(some 5),.mov (.t 24),[9,0,1,2,3,4,5,6,7,8,9],none⟩⟩] 33521792)))
 (fr [fc 25 .add 11 1 [],
 ⟨false,⟨(some 11),.mov (.t 25),[0],none⟩⟩] 33554432)))))))
 (fq [fm 26 5 [],
 fm 4 26 [0,0]] 67112482
 .ret))))⟩
def f242:FFn:=⟨10,[.tmp 4],
 (fq [fz 4 (.mov (.c (.bool false))) []] 16
 (fq [fm 5 0 [],
 fm 6 5 [0],
 fx 7 (.mov (.t 1)) [1] 6 true,
 fx 8 (.un .not (.t 7)) [2,1] 6 true,
 fz 9 (.pick (.t 6) (.t 8) (.c (.bool false))) [1,3],
 fm 4 9 (fa [4,1] 5)] 995
 .ret))⟩
def f251:FFn:=⟨49,[],
 (fq [fm 8 1 [],
 fc 9 .add 8 1 [0],
 fm 6 9 [1,0,1]] 768
 (.block 0 (.loop (.seq (fq [fm 10 6 [],
 fm 11 2 [],
 fb 12 .lss 10 11 [0,1]] 3072
 (fo 12 0))
 (.seq (.block 1 (fq [fm 15 6 [],
 fm 7 15 [0,0]] 36864
 (.block 2 (.loop (.seq (fq [fm 16 7 [],
 fm 17 1 [],
 fb 18 .gtr 16 17 [0,1],
 fm 19 18 [2],
 ⟨false,⟨(some 20),.mov (.t 0),[3],(some (19,true))⟩⟩,
 ⟨false,⟨(some 21),.mov (.t 7),[3],(some (19,true))⟩⟩,
 ⟨false,⟨(some 22),.iaddr none 1 (.t 20) (.t 21),[4,5,3],(some (19,true))⟩⟩,
 ⟨false,⟨(some 23),.load none (.t 22),[6,3],(some (19,true))⟩⟩,
 ⟨false,⟨(some 24),.mov (.t 0),[3],(some (19,true))⟩⟩,
 ⟨false,⟨(some 25),.mov (.t 7),[3],(some (19,true))⟩⟩,
 ⟨false,⟨(some 26),.bin .sub (.t 25) (.c (.int .i64 (.ofNat 1))),[9,3],(some (19,true))⟩⟩,
 ⟨false,⟨(some 27),.iaddr none 1 (.t 24) (.t 26),[8,10,3],(some (19,true))⟩⟩,
 ⟨false,⟨(some 28),.load none (.t 27),[11,3],(some (19,true))⟩⟩,
 ⟨false,⟨(some 29),.call .heap (.f 197) [(.t 23),(.t 28)],[7,12,3,3],(some (19,true))⟩⟩,
 fz 30 (.pick (.t 19) (.t 29) (.c (.bool false))) [3,13]] 983040
 (fo 30 2))
 (.seq (.block 3 (fr [fm 33 0 [],
 fm 34 7 [],
 fm 35 0 [],
 fm 36 7 [],
 fc 37 .sub 36 1 [3],
 fm 38 0 [],
 fm 39 7 [],
 fc 40 .sub 39 1 [6],
 fi 41 1 38 40 [5,7],
 fl 42 41 [8],
 fm 43 0 [],
 fm 44 7 [],
 fi 45 1 43 44 [10,11],
 fl 46 45 [12],
 fi 47 1 33 34 [0,1,0,1,5,6,7,8,9,13],
 fj 1 47 42 [14,9,0,1,5,6,7,8,9,13],
 fi 48 1 35 37 (fa [2,4] 16),
 fj 1 48 46 (fa [16,13,15] 16)] 562942437228544))
 (fr [fm 31 7 [],
 fc 32 .sub 31 1 [0],
 ⟨false,⟨(some 7),.mov (.t 32),[1,0,1],none⟩⟩] 6442450944)))))))
 (fr [fm 13 6 [],
 fc 14 .add 13 1 [0],
 ⟨false,⟨(some 6),.mov (.t 14),[1,0,1],none⟩⟩] 24704))))))⟩
def f263:FFn:=⟨15,[.tmp 2],
 (fq [fz 2 (.mov (.c (.str []))) []] 4
 (.seq (fq [fm 3 0 [],
 fc 4 .lss 3 10 [0]] 8
 (.cond (.t 4)
 (fq [fm 5 0 [],
 fm 6 0 [],
 fc 7 .add 6 1 [1],
 fz 8 (.slice none (.c (.str [48,49,50,51,52,53,54,55,56,57,97,98,99,100,101,102,103,104,105,106,107,108,109,110,111,112,113,114,115,116,117,118,119,120,121,122])) (some (.t 5)) (some (.t 7)) none) [0,2],
 fm 2 8 [3,0,1,2,3]] 497
 .ret)
 .skip))
 (fq [fm 9 0 [],
 fc 10 .mul 9 2 [0],
 fm 11 0 [],
 fc 12 .mul 11 2 [2],
 fc 13 .add 12 2 [3],
 fz 14 (.slice none (.c (.str [48,48,48,49,48,50,48,51,48,52,48,53,48,54,48,55,48,56,48,57,49,48,49,49,49,50,49,51,49,52,49,53,49,54,49,55,49,56,49,57,50,48,50,49,50,50,50,51,50,52,50,53,50,54,50,55,50,56,50,57,51,48,51,49,51,50,51,51,51,52,51,53,51,54,51,55,51,56,51,57,52,48,52,49,52,50,52,51,52,52,52,53,52,54,52,55,52,56,52,57,53,48,53,49,53,50,53,51,53,52,53,53,53,54,53,55,53,56,53,57,54,48,54,49,54,50,54,51,54,52,54,53,54,54,54,55,54,56,54,57,55,48,55,49,55,50,55,51,55,52,55,53,55,54,55,55,55,56,55,57,56,48,56,49,56,50,56,51,56,52,56,53,56,54,56,55,56,56,56,57,57,48,57,49,57,50,57,51,57,52,57,53,57,54,57,55,57,56,57,57])) (some (.t 10)) (some (.t 13)) none) [1,4],
 ⟨false,⟨(some 2),.mov (.t 14),[5,0,1,2,3,4,5],none⟩⟩] 32273
 .ret)))⟩
end Go.AM.SK
namespace Go.AM.SK
open Go.Proofs
def ft:FT2:=(.n 154 (.n 82 (.n 45 (.n 28 (.n 18 (.n 16 (.l 15 f15) (.n 17 (.l 16 f16) (.l 17 f17))) (.n 19 (.l 18 f18) (.n 21 (.l 19 f19) (.l 21 f21)))) (.n 33 (.n 31 (.l 28 f28) (.n 32 (.l 31 f31) (.l 32 f32))) (.n 38 (.n 36 (.l 33 f33) (.l 36 f36)) (.n 41 (.l 38 f38) (.l 41 f41))))) (.n 71 (.n 68 (.n 48 (.l 45 f45) (.n 60 (.l 48 f48) (.l 60 f60))) (.n 69 (.l 68 f68) (.n 70 (.l 69 f69) (.l 70 f70)))) (.n 74 (.n 72 (.l 71 f71) (.n 73 (.l 72 f72) (.l 73 f73))) (.n 76 (.n 75 (.l 74 f74) (.l 75 f75)) (.n 77 (.l 76 f76) (.l 77 f77)))))) (.n 103 (.n 96 (.n 85 (.n 83 (.l 82 f82) (.n 84 (.l 83 f83) (.l 84 f84))) (.n 90 (.l 85 f85) (.n 95 (.l 90 f90) (.l 95 f95)))) (.n 99 (.n 97 (.l 96 f96) (.n 98 (.l 97 f97) (.l 98 f98))) (.n 101 (.n 100 (.l 99 f99) (.l 100 f100)) (.n 102 (.l 101 f101) (.l 102 f102))))) (.n 112 (.n 106 (.n 104 (.l 103 f103) (.n 105 (.l 104 f104) (.l 105 f105))) (.n 110 (.l 106 f106) (.n 111 (.l 110 f110) (.l 111 f111)))) (.n 144 (.n 115 (.l 112 f112) (.n 135 (.l 115 f115) (.l 135 f135))) (.n 149 (.n 148 (.l 144 f144) (.l 148 f148)) (.n 150 (.l 149 f149) (.l 150 f150))))))) (.n 199 (.n 168 (.n 160 (.n 157 (.n 155 (.l 154 f154) (.n 156 (.l 155 f155) (.l 156 f156))) (.n 158 (.l 157 f157) (.n 159 (.l 158 f158) (.l 159 f159)))) (.n 163 (.n 161 (.l 160 f160) (.n 162 (.l 161 f161) (.l 162 f162))) (.n 166 (.n 164 (.l 163 f163) (.l 164 f164)) (.n 167 (.l 166 f166) (.l 167 f167))))) (.n 189 (.n 184 (.n 169 (.l 168 f168) (.n 183 (.l 169 f169) (.l 183 f183))) (.n 187 (.l 184 f184) (.n 188 (.l 187 f187) (.l 188 f188)))) (.n 193 (.n 190 (.l 189 f189) (.n 192 (.l 190 f190) (.l 192 f192))) (.n 197 (.n 195 (.l 193 f193) (.l 195 f195)) (.n 198 (.l 197 f197) (.l 198 f198)))))) (.n 223 (.n 205 (.n 202 (.n 200 (.l 199 f199) (.n 201 (.l 200 f200) (.l 201 f201))) (.n 203 (.l 202 f202) (.n 204 (.l 203 f203) (.l 204 f204)))) (.n 208 (.n 206 (.l 205 f205) (.n 207 (.l 206 f206) (.l 207 f207))) (.n 218 (.n 209 (.l 208 f208) (.l 209 f209)) (.n 219 (.l 218 f218) (.l 219 f219))))) (.n 233 (.n 228 (.n 226 (.l 223 f223) (.n 227 (.l 226 f226) (.l 227 f227))) (.n 230 (.n 229 (.l 228 f228) (.l 229 f229)) (.n 232 (.l 230 f230) (.l 232 f232)))) (.n 236 (.n 234 (.l 233 f233) (.n 235 (.l 234 f234) (.l 235 f235))) (.n 251 (.n 242 (.l 236 f236) (.l 242 f242)) (.n 263 (.l 251 f251) (.l 263 f263))))))))
theorem ft_ok:ft.OK Tryz.prog:=⟨⟨⟨⟨⟨⟨kk,⟨kk,kk⟩⟩,⟨kk,⟨kk,kk⟩⟩⟩,⟨⟨kk,⟨kk,kk⟩⟩,⟨⟨kk,kk⟩,⟨kk,kk⟩⟩⟩⟩,⟨⟨⟨kk,⟨kk,kk⟩⟩,⟨kk,⟨kk,kk⟩⟩⟩,⟨⟨kk,⟨kk,kk⟩⟩,⟨⟨kk,kk⟩,⟨kk,kk⟩⟩⟩⟩⟩,⟨⟨⟨⟨kk,⟨kk,kk⟩⟩,⟨kk,⟨kk,kk⟩⟩⟩,⟨⟨kk,⟨kk,kk⟩⟩,⟨⟨kk,kk⟩,⟨kk,kk⟩⟩⟩⟩,⟨⟨⟨kk,⟨kk,kk⟩⟩,⟨kk,⟨kk,kk⟩⟩⟩,⟨⟨kk,⟨kk,kk⟩⟩,⟨⟨kk,kk⟩,⟨kk,kk⟩⟩⟩⟩⟩⟩,⟨⟨⟨⟨⟨kk,⟨kk,kk⟩⟩,⟨kk,⟨kk,kk⟩⟩⟩,⟨⟨kk,⟨kk,kk⟩⟩,⟨⟨kk,kk⟩,⟨kk,kk⟩⟩⟩⟩,⟨⟨⟨kk,⟨kk,kk⟩⟩,⟨kk,⟨kk,kk⟩⟩⟩,⟨⟨kk,⟨kk,kk⟩⟩,⟨⟨kk,kk⟩,⟨kk,kk⟩⟩⟩⟩⟩,⟨⟨⟨⟨kk,⟨kk,kk⟩⟩,⟨kk,⟨kk,kk⟩⟩⟩,⟨⟨kk,⟨kk,kk⟩⟩,⟨⟨kk,kk⟩,⟨kk,kk⟩⟩⟩⟩,⟨⟨⟨kk,⟨kk,kk⟩⟩,⟨⟨kk,kk⟩,⟨kk,kk⟩⟩⟩,⟨⟨kk,⟨kk,kk⟩⟩,⟨⟨kk,kk⟩,⟨kk,kk⟩⟩⟩⟩⟩⟩⟩
end Go.AM.SK
namespace Go.AM.SP
open Go.Proofs
noncomputable section
def isTrue:AV->Bool| .bool true=>true|_=>false
theorem QmC:∀u,isTrue u=true->u= .bool true:=by
 intro u h
 unfold isTrue at h
 split at h
 ·rfl
 ·cases h
def nameB (s:List UInt8):Bool:=callR ansB noOrc SK.ft.get (exR ansB noOrc SK.ft.get 1000) (.c .pure) 135 [.str s] .e 64 (fun u _ _=>isTrue u)
theorem QbJ {s:List UInt8} (h:nameB s=true):PSpec Tryz.prog 135 [.str s] (.bool true):=
 Qbl (t:=SK.ft) SK.ft_ok QcE (d:=1000) isTrue QmC h
theorem QoS:PSpec Tryz.prog 135 [.str [97]] (.bool true):=QbJ (by kernel_rfl)
theorem QoT:PSpec Tryz.prog 135 [.str [98]] (.bool true):=QbJ (by kernel_rfl)
theorem Qjk:PSpec Tryz.prog 135 [.str [99]] (.bool true):=QbJ (by kernel_rfl)
theorem QoU:PSpec Tryz.prog 135 [.str [100]] (.bool true):=QbJ (by kernel_rfl)
theorem QoV:PSpec Tryz.prog 135 [.str [101]] (.bool true):=QbJ (by kernel_rfl)
theorem Qoa:PSpec Tryz.prog 135 [.str [99,48]] (.bool true):=QbJ (by kernel_rfl)
theorem Qob:PSpec Tryz.prog 135 [.str [99,49]] (.bool true):=QbJ (by kernel_rfl)
theorem Qoc:PSpec Tryz.prog 135 [.str [99,50]] (.bool true):=QbJ (by kernel_rfl)
theorem Qod:PSpec Tryz.prog 135 [.str [114,48]] (.bool true):=QbJ (by kernel_rfl)
theorem Qoe:PSpec Tryz.prog 135 [.str [114,49]] (.bool true):=QbJ (by kernel_rfl)
end
end Go.AM.SP
namespace Go.AM.SO
open Go.Proofs Go.AM.SD Go.AM.SE
structure Evt where
 c:Bool
 o:Bool
 f:Bool
 flt:Nat
def Evt.Ok (e:Evt):Prop:=e.flt<=4/\(e.flt≠0->e.c=false/\e.o=false)
def evC (i:Nat) (e:Evt):List AV:=[.str [UInt8.ofNat (97+i)],.bool e.c,.bool e.o,.bool e.f,.int .i64 (e.flt:Int)]
abbrev evsC (e:Nat->Evt):List AV:=evC 0 (e 0)++evC 1 (e 1)++evC 2 (e 2)++evC 3 (e 3)++evC 4 (e 4)
abbrev evsV (e:Nat->Evt):AV:= .fsl (evsC e) 5 5
theorem QoW (e:Nat->Evt) {i:Nat} (hi:i<5):((evsC e).drop (i*5)).take 5=evC i (e i):=by
 have:i=0\/i=1\/i=2\/i=3\/i=4:=by omega
 rcases this with rfl|rfl|rfl|rfl|rfl<;>rfl
theorem Qof (e:Nat->Evt):(evsC e).length=25:=rfl
theorem Qog {i:Nat} (hi:i<5):PSpec Tryz.prog 135 [.str [UInt8.ofNat (97+i)]] (.bool true):=by
 have:i=0\/i=1\/i=2\/i=3\/i=4:=by omega
 rcases this with rfl|rfl|rfl|rfl|rfl
 ·exact SP.QoS
 ·exact SP.QoT
 ·exact SP.Qjk
 ·exact SP.QoU
 ·exact SP.QoV
end Go.AM.SO
namespace Go.AM.SO
open Go.Proofs Go.AM.SD Go.AM.SE
def nmL (i:Nat):List (List UInt8):=(List.range i).map fun j=>[UInt8.ofNat (97+j)]
theorem Qny {i:Nat}:nmL (i+1)=nmL i++[[UInt8.ofNat (97+i)]]:=by
 unfold nmL
 rw[List.range_succ,List.map_append];rfl
theorem Qoh {i:Nat} (hi:i<5):[UInt8.ofNat (97+i)]∉nmL i:=by
 have:i=0\/i=1\/i=2\/i=3\/i=4:=by omega
 rcases this with rfl|rfl|rfl|rfl|rfl<;>decide
abbrev yes:List UInt8->AV:=fun _=> .bool true
theorem QfV {x:List UInt8}:updS yes x (.bool true)=yes:=by
 funext y;simp[updS]
theorem QmD (e:Nat->Evt):noRefs [evsV e]=true:=rfl
theorem _root_.Go.AM.au9 {p:Prop} (h:p:=by repeat (first|exact RT.nil|(refine RT.cons ?_ ?_; · (first|exact Rn.any|exact Rn.x1 rfl rfl|exact Rn.x2 rfl rfl|exact Rn.x3 rfl rfl|exact Rn.x4 rfl rfl|exact Rn.x5 rfl|exact Rn.x6 rfl|exact Rn.x7 rfl|(refine Rn.slot ?_ ?_;(first|rfl|(rw[Int.natCast_add];rfl));(first|rfl|(simp only[noRef,noRefs,Qai,Bool.and_self,Bool.and_true,Bool.true_and,Qaa,Qay,Qab];done)))|(refine Rn.fn ?_ ?_<;>(repeat' (first|exact RnL.nil|refine RnL.cons ?_ ?_|exact Rn.same rfl|exact Rn.x6 rfl|exact Rn.x2 rfl rfl|exact Rn.x5 rfl|exact Rn.x1 rfl rfl))))))):p:=h
theorem check82 (e:Nat->Evt) (he:∀i,i<5->(e i).Ok):PSpec Tryz.prog 82 [evsV e] (.int .i64 0):=by
  refine PSpec.Qau 64 ok82 rfl (QmD e) rfl ?_
  simp(disch:=first|omega|(simp only[lenW]<;>omega)) only[s82,wW,wV,simprocAttr]
  refine QaJ 100 (fun i:Nat=>[(10,evsV e),(11,.int .i64 5),(12,.int .i64 i),(3,.map 68 0)]) (fun i=>[(68,.map 0 (mapS yes (nmL i)))]) (fun i=>i<=5) (fun i=>5-i) 0 ⟨[(68,.blk 68 0)],rfl,au0,?_,au9⟩ (Nat.zero_le _) ?_
  · exact RB.map rfl rfl rfl trivial RB.nil
  rintro i hi
  by_cases hlt:i<5
  · have hlt2 : (i : Int) < 5 := by omega
    have hat:=QoW e hlt
    have hln:5<=(List.drop (i*5) (evsC e)).length:=by rw[List.length_drop,Qof];omega
    have hev:evC i (e i)=[.str [UInt8.ofNat (97+i)],.bool (e i).c,.bool (e i).o,.bool (e i).f,.int .i64 ((e i).flt:Int)]:=rfl
    obtain⟨h4,hc⟩:=he i hlt
    generalize e i=ei at hat hev h4 hc
    obtain⟨ec,eo,ef,efl⟩:=ei
    dsimp only at hat hev h4 hc
    have hnm:=Qoh hlt
    have hs:=@Qny i
    have hne:=Qog hlt
    generalize UInt8.ofNat (97+i)=ch at hev hnm hs hne
    simp(disch:=first|omega|(simp only[lenW]<;>omega)) only[hlt2,hat,hln,hev,wW,wV,simprocAttr]
    refine cp hne ?_
    simp(disch:=first|omega|(simp only[lenW]<;>omega)) only[wW,wV,simprocAttr]
    refine QeP rfl hnm ?_
    have k1:¬(efl:Int)<0:=by omega
    have k2:¬4<(efl:Int):=by omega
    by_cases h0:efl=0
    · have k3 : (efl : Int) = 0 := by omega
      simp(disch:=first|omega|(simp only[lenW]<;>omega)) only[k1,k2,k3,wW,wV,simprocAttr]
      refine Qdo gg hnm (by omega) ?_
      simp(disch:=first|omega|(simp only[lenW]<;>omega)) only[QfV,wW,wV,simprocAttr]
      refine⟨i+1,by omega,by omega,?_⟩
      rw[hs]
      refine⟨[(68,.blk 68 0)],rfl,au0,?_,au9⟩
      exact RB.map rfl rfl gg (RnM.mapS fun _ _=>Rn.same rfl) RB.nil
    · have k3 : ¬ (efl : Int) = 0 := by omega
      obtain⟨rfl,rfl⟩:=hc h0
      simp(disch:=first|omega|(simp only[lenW]<;>omega)) only[k1,k2,k3,wW,wV,simprocAttr]
      refine Qdo gg hnm (by omega) ?_
      simp(disch:=first|omega|(simp only[lenW]<;>omega)) only[QfV,wW,wV,simprocAttr]
      refine⟨i+1,by omega,by omega,?_⟩
      rw[hs]
      refine⟨[(68,.blk 68 0)],rfl,au0,?_,au9⟩
      exact RB.map rfl rfl gg (RnM.mapS fun _ _=>Rn.same rfl) RB.nil
  · have hlt2 : ¬ (i : Int) < 5 := by omega
    simp(disch:=first|omega|(simp only[lenW]<;>omega)) only[hlt2,wW,wV,simprocAttr]
    exact⟨.inr trivial,_,rfl,rfl⟩
end Go.AM.SO
namespace Go.AM.SO
open Go.Proofs Go.AM.SD Go.AM.SE
def evOf (b:Nat):Evt:=if 48<=b/\b<52 then⟨false,false,false,b-47⟩else⟨decide (b&&&1=1),decide (b&&&2=2),decide (b&&&4=4),0⟩
theorem Qoi (b:Nat):(evOf b).Ok:=by
 unfold evOf
 split
 ·exact⟨by dsimp only;omega,fun _=>⟨rfl,rfl⟩⟩
 ·exact⟨by dsimp only;omega,fun h=>absurd rfl h⟩
theorem andN (b m:Nat) (hb:b<256) (hm:m<256):(BitVec.ofInt 8 (b:Int)&&&BitVec.ofInt 8 (m:Int)).toNat=b&&&m:=by
 rw[BitVec.toNat_and,BitVec.toNat_ofInt,BitVec.toNat_ofInt]
 have h1:((b:Int) % ((2^8:Nat):Int)).toNat=b:=by omega
 have h2:((m:Int) % ((2^8:Nat):Int)).toNat=m:=by omega
 rw[h1,h2]
theorem Qjl (b m:Nat) (hm:m<256):b&&&m<256:=Nat.lt_of_le_of_lt Nat.and_le_right hm
theorem QmE {b:Nat} (hb:b<256):aBin .and (.int .u8 (b:Int)) (.int .u8 1)=some (.int .u8 ((b&&&1:Nat):Int)):=by
 have:=andN b 1 hb (by omega)
 have h2:=Qjl b 1 (by omega)
 simp only[aBin,if_true]
 rw[show IntKind.u8.bits=8 from rfl,show(1:Int)=((1:Nat):Int) from rfl,this,wr_u8 (by omega) (by omega)]
theorem QmF {b:Nat} (hb:b<256):aBin .and (.int .u8 (b:Int)) (.int .u8 2)=some (.int .u8 ((b&&&2:Nat):Int)):=by
 have:=andN b 2 hb (by omega)
 have h2:=Qjl b 2 (by omega)
 simp only[aBin,if_true]
 rw[show IntKind.u8.bits=8 from rfl,show(2:Int)=((2:Nat):Int) from rfl,this,wr_u8 (by omega) (by omega)]
theorem QmG {b:Nat} (hb:b<256):aBin .and (.int .u8 (b:Int)) (.int .u8 4)=some (.int .u8 ((b&&&4:Nat):Int)):=by
 have:=andN b 4 hb (by omega)
 have h2:=Qjl b 4 (by omega)
 simp only[aBin,if_true]
 rw[show IntKind.u8.bits=8 from rfl,show(4:Int)=((4:Nat):Int) from rfl,this,wr_u8 (by omega) (by omega)]
def evP (F:List Nat) (i:Nat):List AV:=(List.range i).flatMap fun j=>evC j (evOf (F.getD j 0))
theorem Qjm {F:List Nat} {i:Nat}:evP F (i+1)=evP F i++evC i (evOf (F.getD i 0)):=by
 unfold evP
 rw[List.range_succ,List.flatMap_append];simp
theorem QgV {F:List Nat}:∀{i:Nat},(evP F i).length=i*5
 |0=>rfl
 |i+1=>by rw[Qjm,List.length_append,QgV];simp[evC];omega
end Go.AM.SO
namespace Go.AM.SO
open Go.Proofs Go.AM.SD Go.AM.SE
structure Cel where
 ev:Nat->Evt
 cs:List (Nat×Aut)
 rs:List (Nat×Aut)
 xs:List (Nat×List (Nat×Nat))
 ks:List (List (Nat×Int)×Int)
def itC (ch:UInt8) (x:Nat×Aut):List AV:=[.str [ch,UInt8.ofNat (48+x.1)],sliN x.2.al,.int .i64 (x.2.n:Int),sliN x.2.ms,egsN x.2.es]
def loC (x:Nat×Nat):List AV:=[.int .i64 (x.1:Int),.int .i64 (x.2:Int)]
abbrev los (l:List (Nat×Nat)):AV:= .fsl (l.flatMap loC) l.length 2
def exC (x:Nat×List (Nat×Nat)):List AV:=[.str [101,UInt8.ofNat (48+x.1)],los x.2]
def teC (x:Nat×Int):List AV:=[.int .i64 (x.1:Int),.int .i64 x.2]
abbrev tes (l:List (Nat×Int)):AV:= .fsl (l.flatMap teC) l.length 2
def coC (x:List (Nat×Int)×Int):List AV:=[.str [107],tes x.1,.int .i64 x.2]
abbrev its (ch:UInt8) (l:List (Nat×Aut)):AV:= .fsl (l.flatMap (itC ch)) l.length 5
abbrev exs (l:List (Nat×List (Nat×Nat))):AV:= .fsl (l.flatMap exC) l.length 2
abbrev cos (l:List (List (Nat×Int)×Int)):AV:= .fsl (l.flatMap coC) l.length 3
abbrev celV (c:Cel):AV:= .agg [evsV c.ev,its 99 c.cs,its 114 c.rs,exs c.xs,cos c.ks]
structure WfI (a:Aut):Prop where
 wf:WfA a
 pos:0<a.n
 n3:a.n<=3
 can:restr a (fun _=>true)=a
 el:a.es.length<=25
structure WfCel (c:Cel):Prop where
 ev:∀i,i<5->(c.ev i).Ok
 c0:0<c.cs.length
 c3:c.cs.length<=3
 r2:c.rs.length<=2
 x2:c.xs.length<=2
 k1:c.ks.length<=1
 cn:c.cs.map (·.1)=List.range c.cs.length
 rn:c.rs.map (·.1)=List.range c.rs.length
 xn:(c.xs.map (·.1)).Pairwise (· < ·)/\∀x∈c.xs,x.1<2
 ca:∀x∈c.cs,WfI x.2
 ra:∀x∈c.rs,WfI x.2
 rsub:∀x∈c.rs,∀e∈x.2.al,∃y∈c.cs,e∈y.2.al
 xl:∀x∈c.xs,x.2≠[]/\(x.2.map (·.1)).Pairwise (· < ·)/\∀l∈x.2,∃y,c.cs[l.1]?=some y/\l.2<y.2.n
 kl:∀x∈c.ks,x.1≠[]/\(x.1.map (·.1)).Pairwise (· < ·)/\(∀t∈x.1,t.1<c.cs.length/\t.2≠0/\ -4<t.2/\t.2<4)/\ -8<x.2/\x.2<8
theorem Qlr {l:List Nat} (h:l.Pairwise (· < ·)) {p q:Nat} (hpq:p<q) (hq:q<l.length):l.getD p 0<l.getD q 0:=by
 rw[List.getD_eq_getElem?_getD,List.getD_eq_getElem?_getD,List.getElem?_eq_getElem (by omega),List.getElem?_eq_getElem hq]
 exact List.pairwise_iff_getElem.1 h p q (by omega) hq hpq
theorem partLt {n b:Nat}:∀x∈SD.part n b,x<n:=fun x hx=>(Qi7.1 hx).1
theorem Qoj {al:List Nat} {st mk:Nat} {T:List Nat} (hs:al.Pairwise (· < ·)) (h5:∀x∈al,x<5):WfA (gRaw al st mk T):=by
 have hr:=Qef (st:=st) (mk:=mk) (T:=T) (Qcn hs h5)
 have hesn:=hr.esn
 have hn5:=hr.n5
 unfold gRaw at hesn hn5⊢
 split
 ·exact⟨hs,h5,by simp,by simp,by simp,by simp,by simp,by simp⟩
 ·rename_i hst
  rw[if_neg hst]at hesn hn5
  have hev:∀i,∀e∈gRow al (1+st % 5) T i al.length,e.1=i/\∃j,j<al.length/\e.2.1=al.getD j 0:=fun i e he=>by
   unfold gRow at he
   obtain⟨j,hj,hm⟩:=List.mem_filterMap.1 he
   unfold gEd at hm
   split at hm
   ·cases hm;exact⟨rfl,j,List.mem_range.1 hj,rfl⟩
   ·cases hm
  refine⟨hs,h5,hn5,QcK _ _,partLt,?_,hesn,fun e he=>?_⟩
  ·show (gPre _ _ _ _).Pairwise _
   unfold gPre
   refine Qb1 (fun i _=>?_) (List.pairwise_lt_range.imp fun hij x hx y hy=> .inl ?_)
   ·unfold gRow
    refine List.Pairwise.filterMap _ (R:=fun j j'=>j<j'/\j'<al.length) ?_ (List.pairwise_lt_range.imp_of_mem fun _ hb h=>⟨h,List.mem_range.1 hb⟩)
    rintro x y ⟨hxy,hy⟩ p hp q hq
    unfold gEd at hp hq
    split at hp
    ·split at hq
     ·cases hp;cases hq;exact .inr ⟨rfl,Qlr hs hxy hy⟩
     ·cases hq
    ·cases hp
   ·rw[(hev _ x hx).1,(hev _ y hy).1];exact hij
  ·unfold gPre at he
   obtain⟨i,_,he⟩:=List.mem_flatMap.1 he
   obtain⟨_,j,hj,hje⟩:=hev i e he
   show e.2.1∈al
   rw[hje,List.getD_eq_getElem?_getD,List.getElem?_eq_getElem hj]
   exact List.getElem_mem hj
theorem Qok {al:List Nat} {st mk:Nat} {T:List Nat} (hs:al.Pairwise (· < ·)) (h5:∀x∈al,x<5):restr (mkA al st mk T) (fun _=>true)=mkA al st mk T:=by
 have h:=Qoj (st:=st) (mk:=mk) (T:=T) hs h5
 show restr (canon _) _=canon _
 rw[QjX h];exact QjV h
theorem Qjn {es:List Ed} {s:Nat}:∀{L:List Nat} {out:List Nat},out.length<=(L.foldl (fEv es s) out).length
 |[],out=>Nat.le_refl _
 | e :: L, out => by
  rw[List.foldl_cons]
  refine Nat.le_trans ?_ (Qjn (L:=L))
  unfold fEv
  split
  ·split
   ·exact Nat.le_refl _
   ·simp
  ·exact Nat.le_refl _
theorem QmH {al:List Nat} {es:List Ed}:∀(k i:Nat) (out:List Nat),out.length<=(fQ al es k i out).length
 |0,_,_=>Nat.le_refl _
 |k+1,i,out=>by
  unfold fQ
  split
  ·exact Nat.le_trans Qjn (QmH k (i+1) _)
  ·exact Nat.le_refl _
theorem QkL {al:List Nat} {st mk:Nat} {T:List Nat} (hs:al.Pairwise (· < ·)) (h5:∀x∈al,x<5) (h3:st<3):WfI (mkA al st mk T):=by
 have hr:=Qef (st:=st) (mk:=mk) (T:=T) (Qcn hs h5)
 have e:gRaw al st mk T=⟨al,1+st % 5,SD.part (1+st % 5) mk,gPre al (1+st % 5) T (1+st % 5)⟩:=if_neg (by omega)
 have hn:(gRaw al st mk T).n<=3:=by rw[e];dsimp only;omega
 have hf:(found (gRaw al st mk T)).length<=(gRaw al st mk T).n:=QaQ _ _ (Qec hr.esn).1.nd (Qec hr.esn).1.lt
 have h1:=QfO (gRaw al st mk T) (found (gRaw al st mk T)) (found (gRaw al st mk T)).length
 refine⟨QoP hs h5,?_,Nat.le_trans hf hn,Qok hs h5,?_⟩
 ·show 0 < (found (gRaw al st mk T)).length
  have h0:0<(gRaw al st mk T).n:=by rw[e];dsimp only;omega
  unfold found
  rw[if_pos h0]
  exact Nat.lt_of_lt_of_le (by simp) (QmH _ _ _)
 ·have h2 : (mkA al st mk T).es.length = (cPre (gRaw al st mk T) (found (gRaw al st mk T)) (found (gRaw al st mk T)).length).length := rfl
  rw[h2]
  have h4:(gRaw al st mk T).al.length<=5:=by rw[e];exact Qcn hs h5
  refine Nat.le_trans h1 (Nat.le_trans (Nat.mul_le_mul (Nat.le_trans hf hn) h4) (by decide))
structure Pln where
 L:List Nat
 X:List Nat
 xn:Nat
 f0:Int
 f1:Int
 f2:Int
 bd:Int
structure POk (p:Pln):Prop where
 L:p.L.length=147
 L8:∀x∈p.L,x<256
 X:p.X.length=p.xn*4
 X8:∀x∈p.X,x<256
 f0: -128<=p.f0/\p.f0<128
 f1: -128<=p.f1/\p.f1<128
 f2: -128<=p.f2/\p.f2<128
 bd: -128<=p.bd/\p.bd<128
abbrev plnC (p:Pln):List AV:=u8s p.L++[.fsl (u8s p.X) p.xn 4,.int .i8 p.f0,.int .i8 p.f1,.int .i8 p.f2,.int .i8 p.bd]
abbrev plnV (p:Pln):AV:= .agg (plnC p)
variable (p:Pln)
def pN:Nat:=1+p.L.getD 5 0 % 3
def pM:Nat:=p.L.getD 90 0 % 3
def pA (i:Nat):Aut:=mkA (SD.part 5 (p.L.getD (6+i) 0)) (p.L.getD (9+i*27) 0 % 3) (p.L.getD (9+i*27+1) 0) ((p.L.drop (9+i*27+2)).take 25)
def pAll:Nat->Nat
 |0=>0
 |i+1=>pAll i|||p.L.getD (6+i) 0 % 32
def pW (i:Nat):List Nat:=(SD.part 5 (p.L.getD (91+i) 0)).filter fun x=>(pAll p (pN p)).testBit x
def pR (i:Nat):Aut:=mkA (pW p i) (p.L.getD (93+i*27) 0 % 3) (p.L.getD (93+i*27+1) 0) ((p.L.drop (93+i*27+2)).take 25)
def pCs (n:Nat):List (Nat×Aut):=(List.range n).map fun i=>(i,pA p i)
def pRs (n:Nat):List (Nat×Aut):=(List.range n).map fun i=>(i,pR p i)
def pLo (i:Nat):Nat->List (Nat×Nat)
 |0=>[]
 |k+1=>if p.X.getD (i*4+k) 0 % ((pA p k).n+2)<(pA p k).n then pLo i k++[(k,p.X.getD (i*4+k) 0 % ((pA p k).n+2))]else pLo i k
def pXs:Nat->List (Nat×List (Nat×Nat))
 |0=>[]
 |i+1=>if 0<(pLo p i (pN p)).length then pXs i++[(i,pLo p i (pN p))]else pXs i
def pF (i:Nat):Int:=if i=0 then p.f0 else if i=1 then p.f1 else p.f2
def pT:Nat->List (Nat×Int)
 |0=>[]
 |i+1=>if pF p i=0 then pT i else pT i++[(i,(pF p i).tmod 4)]
def pT0:List (Nat×Int):=(pT p (pN p)).filter fun t=> !(decide (t.2=0))
def pKs:List (List (Nat×Int)×Int):=if 0<(pT0 p).length then[(pT0 p,p.bd.tmod 8)]else[]
def mkC:Cel:=⟨fun i=>evOf ((p.L.take 5).getD i 0),pCs p (pN p),pRs p (pM p),pXs p (min p.xn 2),pKs p⟩
variable {p}
theorem pN_le:1<=pN p/\pN p<=3:=by unfold pN;omega
theorem pM_le:pM p<=2:=by unfold pM;omega
theorem QhY (i:Nat):(pW p i).Pairwise (· < ·):=(QcK _ _).filter _
theorem pW_lt (i:Nat):∀x∈pW p i,x<5:=fun x hx=>partLt x (List.mem_filter.1 hx).1
theorem pA_wf (i:Nat):WfI (pA p i):=QkL (QcK _ _) partLt (by omega)
theorem pR_wf (i:Nat):WfI (pR p i):=QkL (QhY i) (pW_lt i) (by omega)
theorem QmI {al:List Nat} {st mk:Nat} {T:List Nat}:(mkA al st mk T).al=al:=by
 show(gRaw al st mk T).al=al
 unfold gRaw;split<;>rfl
theorem QgA {i:Nat}:∀{n:Nat},∀x∈pLo p i n,x.1<n/\x.2<(pA p x.1).n
 |0,x,h=>by cases h
 | n + 1, x, h => by
  unfold pLo at h
  split at h
  ·rename_i hc
   rcases List.mem_append.1 h with h|h
   ·have:=QgA x h;exact⟨by omega,this.2⟩
   ·simp at h;subst h;exact⟨Nat.lt_succ_self _,hc⟩
  ·have:=QgA x h;exact⟨by omega,this.2⟩
theorem Qeh {i:Nat}:∀{n:Nat},((pLo p i n).map (·.1)).Pairwise (· < ·)
 |0=>by simp[pLo]
 | n + 1 => by
  unfold pLo
  split
  ·rw [List.map_append, List.pairwise_append]
   refine⟨Qeh,by simp,fun x hx y hy=>?_⟩
   simp at hy;subst hy
   obtain⟨z,hz,rfl⟩:=List.mem_map.1 hx
   exact(QgA z hz).1
  ·exact Qeh
theorem QeU:∀{n:Nat},∀x∈pXs p n,x.1<n/\x.2=pLo p x.1 (pN p)/\x.2≠[]
 |0,x,h=>by cases h
 | n + 1, x, h => by
  unfold pXs at h
  split at h
  ·rename_i hc
   rcases List.mem_append.1 h with h|h
   ·have:=QeU x h;exact⟨by omega,this.2⟩
   ·simp at h;subst h;exact⟨Nat.lt_succ_self _,rfl,List.ne_nil_of_length_pos hc⟩
  ·have:=QeU x h;exact⟨by omega,this.2⟩
theorem Qei:∀{n:Nat},((pXs p n).map (·.1)).Pairwise (· < ·)
 |0=>by simp[pXs]
 | n + 1 => by
  unfold pXs
  split
  ·rw [List.map_append, List.pairwise_append]
   refine⟨Qei,by simp,fun x hx y hy=>?_⟩
   simp at hy;subst hy
   obtain⟨z,hz,rfl⟩:=List.mem_map.1 hx
   exact(QeU z hz).1
  ·exact Qei
theorem QgW:∀{n:Nat},(pXs p n).length<=n
 |0=>by simp[pXs]
 |n+1=>by
  have:=@QgW n
  unfold pXs
  split
  ·simp;omega
  ·omega
theorem QgX {i:Nat}:∀{n:Nat},(pLo p i n).length<=n
 |0=>by simp[pLo]
 |n+1=>by
  have:=@QgX i n
  unfold pLo
  split
  ·simp;omega
  ·omega
theorem Qjo:∀{n:Nat},(pT p n).length<=n
 |0=>by simp[pT]
 |n+1=>by
  have:=@Qjo n
  unfold pT
  split
  ·omega
  ·simp;omega
theorem pT_lt:∀{n:Nat},∀x∈pT p n,x.1<n/\ -4<x.2/\x.2<4
 |0,x,h=>by cases h
 | n + 1, x, h => by
  unfold pT at h
  split at h
  ·have:=pT_lt x h;exact⟨by omega,this.2⟩
  ·rcases List.mem_append.1 h with h | h
   ·have:=pT_lt x h;exact⟨by omega,this.2⟩
   ·simp at h; subst h
    refine⟨Nat.lt_succ_self _,?_,?_⟩
    ·have:=Int.lt_tmod_of_pos (pF p n) (show(0:Int)<4 by decide);dsimp only;omega
    ·exact Int.tmod_lt_of_pos (pF p n) (show(0:Int)<4 by decide)
theorem QeV:∀{n:Nat},((pT p n).map (·.1)).Pairwise (· < ·)
 |0=>by simp[pT]
 | n + 1 => by
  unfold pT
  split
  ·exact QeV
  ·rw [List.map_append, List.pairwise_append]
   refine⟨QeV,by simp,fun x hx y hy=>?_⟩
   simp at hy;subst hy
   obtain⟨z,hz,rfl⟩:=List.mem_map.1 hx
   exact(pT_lt z hz).1
theorem Qjp {e:Nat}:∀{n:Nat},(pAll p n).testBit e=true->e<5->∃i,i<n/\(p.L.getD (6+i) 0).testBit e=true
 |0,h,_=>by simp[pAll]at h
 | n + 1, h, h5 => by
  unfold pAll at h
  rw[Nat.testBit_or,Bool.or_eq_true]at h
  rcases h with h|h
  ·obtain⟨i,hi,h⟩:=Qjp h h5;exact⟨i,by omega,h⟩
  ·rw [show 32 = 2 ^ 5 from rfl, Nat.testBit_mod_two_pow] at h
   simp at h
   exact⟨n,Nat.lt_succ_self _,h.2⟩
theorem QmJ {n i:Nat} (h:i<n):(pCs p n)[i]?=some (i,pA p i):=by
 unfold pCs
 rw[List.getElem?_map,List.getElem?_range h];rfl
theorem QoX:WfCel (mkC p):=by
 have h1:=@pN_le p
 have h2:=@pM_le p
 have hc:(pCs p (pN p)).length=pN p:=by simp[pCs]
 have hr:(pRs p (pM p)).length=pM p:=by simp[pRs]
 have hx:=@QgW p (min p.xn 2)
 refine⟨fun i _=>Qoi _,?_,?_,?_,?_,?_,?_,?_,⟨Qei,fun x hx=>?_⟩,fun x hx=>?_,fun x hx=>?_,fun x hx e he=>?_,fun x hx=>?_,fun x hx=>?_⟩
 ·show 0 < (pCs p (pN p)).length
  omega
 ·show (pCs p (pN p)).length <= 3
  omega
 ·show (pRs p (pM p)).length <= 2
  omega
 ·show (pXs p _).length <= 2
  omega
 ·show (pKs p).length <= 1
  unfold pKs;split<;>simp
 ·show (pCs p (pN p)).map (·.1) = List.range (pCs p (pN p)).length
  rw[hc]
  simp[pCs,List.map_map,Function.comp_def]
 ·show (pRs p (pM p)).map (·.1) = List.range (pRs p (pM p)).length
  rw[hr]
  simp[pRs,List.map_map,Function.comp_def]
 ·have:=(QeU x hx).1;omega
 ·obtain ⟨i, _, rfl⟩ := List.mem_map.1 (show x ∈ pCs p (pN p) from hx)
  exact pA_wf i
 ·obtain ⟨i, _, rfl⟩ := List.mem_map.1 (show x ∈ pRs p (pM p) from hx)
  exact pR_wf i
 ·obtain ⟨i, _, rfl⟩ := List.mem_map.1 (show x ∈ pRs p (pM p) from hx)
  dsimp only at he
  rw[show(pR p i).al=pW p i from QmI]at he
  obtain⟨h5,hb⟩:=List.mem_filter.1 he
  obtain⟨j,hj,hb⟩:=Qjp hb (partLt e h5)
  refine⟨(j,pA p j),List.mem_map.2 ⟨j,List.mem_range.2 hj,rfl⟩,?_⟩
  dsimp only
  rw[show(pA p j).al=SD.part 5 (p.L.getD (6+j) 0) from QmI]
  exact Qi7.2 ⟨partLt e h5,hb⟩
 ·obtain ⟨_, h4, h5⟩ := QeU x hx
  refine⟨h5,by rw[h4];exact Qeh,fun l hl=>?_⟩
  rw[h4]at hl
  obtain⟨h6,h7⟩:=QgA l hl
  exact⟨_,QmJ h6,h7⟩
 ·have hx' : x ∈ pKs p := hx
  unfold pKs at hx'
  split at hx'
  ·rename_i h0
   simp at hx';subst hx'
   refine⟨List.ne_nil_of_length_pos h0,?_,fun t ht=>?_,?_,?_⟩
   ·exact(QeV (n:=pN p)).sublist (List.Sublist.map _ (List.filter_sublist))
   ·obtain ⟨h3, h4⟩ := List.mem_filter.1 (show t ∈ pT0 p from ht)
    have h5:=pT_lt t h3
    have h6:(mkC p).cs.length=pN p:=hc
    exact⟨by omega,by simpa using h4,h5.2⟩
   ·have:=Int.lt_tmod_of_pos p.bd (show(0:Int)<8 by decide);dsimp only;omega
   ·exact Int.tmod_lt_of_pos p.bd (show(0:Int)<8 by decide)
  ·cases hx'
end Go.AM.SO
namespace Go.AM.SO
open Go.Proofs Go.AM.SD Go.AM.SE
def stp (l:List Aut) (t:List Nat) (e:Nat):Nat->Option (List Nat)
 |0=>some t
 | k + 1 => match stp l t e k with
  |none=>none
  |some n=>match l[k]? with
   |none=>some n
   |some a=>if e∈a.al then(match stepA a.es (t.getD k 0) e with|some to=>some (n.set k to)|none=>none)else some n
def stepT (l:List Aut) (t:List Nat) (e:Nat):Option (List Nat):=stp l t e l.length
def Stp (l:List Aut) (t:List Nat) (e:Nat) (n:List Nat) (k:Nat):Prop:=
 n.length=t.length/\(∀i,k<=i->n[i]?=t[i]?)/\∀i a,i<k->l[i]?=some a->if e∈a.al then stepA a.es (t.getD i 0) e=n[i]? else n[i]?=t[i]?
theorem Qej {l : List Aut} {t n : List Nat} {e : Nat} : ∀ {k : Nat}, k <= l.length -> l.length <= t.length -> (stp l t e k = some n ↔ Stp l t e n k)
  | 0, _, _ => by
    unfold stp Stp
    constructor
    · intro h;cases h;exact⟨rfl,fun _ _=>rfl,fun i a hi=>absurd hi (Nat.not_lt_zero _)⟩
    · rintro ⟨_, h, _⟩
      have:t=n:=List.ext_getElem? fun i=>(h i (Nat.zero_le _)).symm
      rw[this]
  | k + 1, hk, hl => by
    obtain⟨a,ha⟩:=Qak (l:=l) (i:=k) (by omega)
    have hkt:k<t.length:=by omega
    unfold stp
    rw[ha]
    constructor
    · intro h
      cases hm:stp l t e k with
      |none=>rw[hm]at h;cases h
      | some m =>
        rw[hm]at h
        dsimp only at h
        obtain⟨h1,h2,h3⟩:=(Qej (n:=m) (by omega) hl).1 hm
        by_cases he:e∈a.al
        · rw [if_pos he] at h
          cases hs:stepA a.es (t.getD k 0) e with
          |none=>rw[hs]at h;cases h
          | some to =>
            rw[hs]at h;cases h
            refine⟨by rw[List.length_set,h1],fun i hi=>by rw[List.getElem?_set_ne (by omega)];exact h2 i (by omega),fun i b hi hb=>?_⟩
            by_cases hik:i=k
            · subst hik
              rw[ha]at hb;cases hb
              rw[if_pos he,hs,List.getElem?_set_self (by omega)]
            · rw [List.getElem?_set_ne (by omega)]
              exact h3 i b (by omega) hb
        · rw [if_neg he] at h; cases h
          refine⟨h1,fun i hi=>h2 i (by omega),fun i b hi hb=>?_⟩
          by_cases hik:i=k
          · subst hik
            rw[ha]at hb;cases hb
            rw[if_neg he];exact h2 i (Nat.le_refl _)
          · exact h3 i b (by omega) hb
    · rintro ⟨h1, h2, h3⟩
      have hka:=h3 k a (Nat.lt_succ_self _) ha
      by_cases he:e∈a.al
      · rw [if_pos he] at hka
        have hS:Stp l t e (n.set k (t.getD k 0)) k:=by
          refine⟨by rw[List.length_set,h1],fun i hi=>?_,fun i b hi hb=>?_⟩
          · by_cases hik : i = k
            · subst hik
              rw[List.getElem?_set_self (by omega),List.getD_eq_getElem?_getD,List.getElem?_eq_getElem hkt];rfl
            · rw[List.getElem?_set_ne (by omega)];exact h2 i (by omega)
          · rw[List.getElem?_set_ne (by omega)];exact h3 i b (by omega) hb
        rw[(Qej (n:=n.set k (t.getD k 0)) (by omega) hl).2 hS]
        dsimp only
        obtain⟨x,hx⟩:=Qak (l:=n) (i:=k) (by omega)
        rw[if_pos he,hka,hx]
        dsimp only
        congr 1
        apply List.ext_getElem?
        intro i
        by_cases hik:i=k
        · subst hik;rw[List.getElem?_set_self (by rw[List.length_set];omega),hx]
        · rw[List.getElem?_set_ne (by omega),List.getElem?_set_ne (by omega)]
      · rw [if_neg he] at hka
        have hS:Stp l t e n k:=⟨h1,fun i hi=>by
          by_cases hik:i=k
          · subst hik;exact hka
          · exact h2 i (by omega),fun i b hi hb=>h3 i b (by omega) hb⟩
        rw[(Qej (n:=n) (by omega) hl).2 hS]
        dsimp only
        rw[if_neg he]
theorem Qls {l:List Aut} {t n:List Nat} {e:Nat} (hl:l.length<=t.length):stepT l t e=some n↔Stp l t e n l.length:=Qej (Nat.le_refl _) hl
def pEv (l:List Aut) (i:Nat) (t:List Nat) (s:List (List Nat)×List Ed) (e:Nat):List (List Nat)×List Ed:=
 match stepT l t e with
 |none=>s
 |some n=>(if n∈s.1 then s.1 else s.1++[n],s.2++[(i,e,s.1.findIdx (· ==n))])
def pRow (l:List Aut) (ev:List Nat) (i:Nat) (t:List Nat) (s:List (List Nat)×List Ed):List (List Nat)×List Ed:=ev.foldl (pEv l i t) s
def pQ (l:List Aut) (ev:List Nat):Nat->Nat->List (List Nat)×List Ed->List (List Nat)×List Ed
 |0,_,s=>s
 |k+1,i,s=>match s.1[i]? with
  |some t=>pQ l ev k (i+1) (pRow l ev i t s)
  |none=>s
def orE (a b:Bool):Bool:=a||b
def evA (l:List Aut):List Nat:=l.foldl (fun out a=>mrg orE out a.al) []
def mkdT:List Aut->List Nat->Bool
 |[],_=>true
 |a::l,t=>a.ms.contains (t.headD 0)&&mkdT l t.tail
def box:List Aut->Nat
 |[]=>1
 |a::l=>a.n*box l
def sync0 (l:List Aut):List (List Nat)×List Ed:=pQ l (evA l) (box l+1) 0 ([List.replicate l.length 0],[])
def syncA (l:List Aut):Aut:=⟨evA l,(sync0 l).1.length,(List.range (sync0 l).1.length).filter fun i=>mkdT l ((sync0 l).1.getD i []),(sync0 l).2⟩
def InT (l:List Aut) (t:List Nat):Prop:=t.length=l.length/\∀i a,l[i]?=some a->t.getD i 0<a.n
def allT:List Aut->List (List Nat)
 |[]=>[[]]
 |a::l=>(List.range a.n).flatMap fun x=>(allT l).map (x:: ·)
theorem Qjq:∀{l:List Aut} {t:List Nat},InT l t->t∈allT l
 |[],t,⟨h,_⟩=>by simp at h;subst h;simp[allT]
 |a::l,[],⟨h,_⟩=>by simp at h
 |a::l,x::t,⟨h,h2⟩=>by
  unfold allT
  refine List.mem_flatMap.2 ⟨x,List.mem_range.2 (by simpa using h2 0 a rfl),List.mem_map.2 ⟨t,Qjq ⟨by simpa using h,fun i b hb=>?_⟩,rfl⟩⟩
  simpa using h2 (i+1) b (by simpa using hb)
theorem Qjr:∀(l:List Aut),(allT l).length=box l
 |[]=>rfl
 |a::l=>by
  unfold allT box
  rw[List.length_flatMap]
  simp only[List.length_map,Qjr l]
  rw[List.map_const',List.sum_replicate_nat,List.length_range]
theorem QhZ {α:Type} [DecidableEq α]:∀{l m:List α},l.Nodup->(∀x∈l,x∈m)->l.length<=m.length
 |[],m,_,_=>Nat.zero_le _
 |x::l,m,h,hm=>by
  rw[List.nodup_cons]at h
  have h1:=hm x (by simp)
  have h2:=QhZ (l:=l) (m:=m.erase x) h.2 fun y hy=>(List.mem_erase_of_ne (fun(e:y=x)=>h.1 (e▸hy))).2 (hm y (by simp[hy]))
  rw[List.length_erase_of_mem h1]at h2
  have:=List.length_pos_of_mem h1
  simp only[List.length_cons]
  omega
theorem QcW {l:List Aut} {T:List (List Nat)} (hn:T.Nodup) (hi:∀t∈T,InT l t):T.length<=box l:=by
 rw[<-Qjr]
 exact QhZ hn fun t ht=>Qjq (hi t ht)
theorem QmK {l:List Aut} {k:Nat} (h:∀a∈l,a.n<=k) (hk:1<=k):box l<=k^l.length:=by
 induction l with
 |nil=>simp[box]
 |cons a l ih=>
  unfold box
  rw[List.length_cons,Nat.pow_succ,Nat.mul_comm]
  exact Nat.mul_le_mul (ih fun b hb=>h b (by simp[hb])) (h a (by simp))
theorem QfW {l:List Aut} (hw:∀a∈l,∀e∈a.es,e.1<a.n/\e.2.2<a.n) {t n:List Nat} {e:Nat} (ht:InT l t) (h:stepT l t e=some n):InT l n:=by
 obtain⟨h1,h2,h3⟩:=(Qls (Nat.le_of_eq ht.1.symm)).1 h
 refine⟨by rw[h1,ht.1],fun i a ha=>?_⟩
 have hi:i<l.length:=by
  rcases Nat.lt_or_ge i l.length with h|h
  ·exact h
  ·rw[List.getElem?_eq_none h]at ha;cases ha
 have h4:=h3 i a hi ha
 by_cases he:e∈a.al
 ·rw [if_pos he] at h4
  obtain⟨x,hx⟩:=Qak (l:=n) (i:=i) (by rw[h1,ht.1];exact hi)
  rw[hx]at h4
  rw[List.getD_eq_getElem?_getD,hx]
  exact Qeb (hw a (List.mem_of_getElem? ha)) h4
 ·rw [if_neg he] at h4
  rw[List.getD_eq_getElem?_getD,h4,<-List.getD_eq_getElem?_getD]
  exact ht.2 i a ha
structure PI (l:List Aut) (s:List (List Nat)×List Ed):Prop where
 nd:s.1.Nodup
 inT:∀t∈s.1,InT l t
theorem QoY {l:List Aut} (hw:∀a∈l,∀e∈a.es,e.1<a.n/\e.2.2<a.n) {i e:Nat} {t:List Nat} {s:List (List Nat)×List Ed} (ht:InT l t) (h:PI l s):PI l (pEv l i t s e):=by
 unfold pEv
 cases hs:stepT l t e with
 |none=>exact h
 | some n =>
  have hn:=QfW hw ht hs
  dsimp only
  by_cases hm:n∈s.1
  ·simp only[if_pos hm];exact⟨h.nd,h.inT⟩
  ·simp only [if_neg hm]
   refine⟨List.nodup_append.2 ⟨h.nd,by simp,fun x hx y hy=>by simp at hy;subst hy;exact fun e=>hm (e▸hx)⟩,fun x hx=>?_⟩
   rcases List.mem_append.1 hx with hx|hx
   ·exact h.inT x hx
   ·simp at hx;subst hx;exact hn
theorem QdU {l:List Aut} (hw:∀a∈l,∀e∈a.es,e.1<a.n/\e.2.2<a.n) {i:Nat} {t:List Nat} (ht:InT l t):∀{ev:List Nat} {s:List (List Nat)×List Ed},PI l s->PI l (pRow l ev i t s)
 |[],s,h=>h
 |e::ev,s,h=>QdU hw ht (ev:=ev) (QoY hw ht h)
theorem Qol {l:List Aut} {i e:Nat} {t:List Nat} {s:List (List Nat)×List Ed}:s.1<+:(pEv l i t s e).1:=by
 unfold pEv
 cases stepT l t e with
 |none=>exact List.prefix_refl _
 |some n=>
  dsimp only
  split
  ·exact List.prefix_refl _
  ·exact List.prefix_append _ _
theorem Qek {l:List Aut} {i:Nat} {t:List Nat}:∀{ev:List Nat} {s:List (List Nat)×List Ed},s.1<+:(pRow l ev i t s).1
 |[],s=>List.prefix_refl _
 |e::ev,s=>List.IsPrefix.trans Qol (Qek (ev:=ev))
theorem pQ_ok {l:List Aut} {ev:List Nat} (hw:∀a∈l,∀e∈a.es,e.1<a.n/\e.2.2<a.n):∀{k i:Nat} {s:List (List Nat)×List Ed},PI l s->PI l (pQ l ev k i s)
 |0,_,_,h=>h
 |k+1,i,s,h=>by
  unfold pQ
  cases hs:s.1[i]? with
  |none=>exact h
  |some t=>exact pQ_ok hw (QdU hw (h.inT t (List.mem_of_getElem? hs)) h)
theorem Qjs {l:List Aut} (h0:∀a∈l,0<a.n):PI l ([List.replicate l.length 0],[]):=by
 refine⟨by simp,fun t ht=>?_⟩
 simp at ht;subst ht
 refine⟨by simp,fun i a ha=>?_⟩
 have:(List.replicate l.length 0).getD i 0=0:=by
  rw[List.getD_eq_getElem?_getD,List.getElem?_replicate];split<;>rfl
 rw[this]
 exact h0 a (List.mem_of_getElem? ha)
theorem QgY {l:List Aut} (h0:∀a∈l,0<a.n) (hw:∀a∈l,∀e∈a.es,e.1<a.n/\e.2.2<a.n):PI l (sync0 l):=pQ_ok hw (Qjs h0)
theorem Qnz {l:List Aut} (h0:∀a∈l,0<a.n) (hw:∀a∈l,∀e∈a.es,e.1<a.n/\e.2.2<a.n):(sync0 l).1.length<=box l:=QcW (QgY h0 hw).nd (QgY h0 hw).inT
end Go.AM.SO
namespace Go.AM.SU
open Go.Proofs
def s26:SFn:=⟨192,[.cell 2 (some 5)],
 (.seq (.region [Zz 1 (.box .dyn (.t 0)) [],
 Zz 2 (.alloc .dyn (.agg [.nilsl,.nilsl,.nilsl,.nilsl,.nilsl])) []] [] [0])
 (.seq (.region [Zf 17 0 1 [],
 Zw 18 5 17 [0],
 Zz 19 (.call .pure (.f 88) [(.t 18)]) [1],
 Zz 20 (.build [.nilsl,.nilsl,.nilsl,.nilsl,.nilsl] [(0,1,(.t 19))]) [2],
 Zz 3 (.alloc .dyn (.agg [.nilsl,.nilsl,.nilsl,.nilsl,.nilsl])) [],
 Zs 5 3 20 (Za [4,3,2] 5)] [] [17,18,19,20])
 (.seq (.region [Zz 4 (.alloc .dyn .nilsl) []] [] [])
 (.seq (.region [Zf 21 5 1 [],
 Zl 22 21 [0],
 Zz 23 (.bin .rem (.t 22) (.c (.int .u8 3))) [1],
 Zz 24 (.conv .i64 (.t 23)) [2],
 Zz 25 (.bin .add (.c (.int .i64 1)) (.t 24)) [3],
 Zm 5 25 (Za [4] 5)] [] [21,22,23,24,25])
 (.seq (.seq (.region [Zm 26 5 [],
 Zz 27 (.mov (.c (.int .i64 0))) []] [] [])
 (.block 0 (.loop (.seq (.region [Zb 28 .lss 27 26 []] [] [])
 (.seq (.cond (.t 28)
 .skip
 (.exit 0))
 (.seq (.block 1 (.seq (.region [Zm 29 27 [],
 Zm 6 29 [0,0]] [] [28,29])
 (.seq (.region [Zm 30 6 [],
 Zf 31 6 1 [],
 Zz 32 (.iaddr (some 3) 1 (.t 31) (.t 30)) [1,0],
 Zl 33 32 [2],
 Zz 34 (.call .pure (.f 89) [(.t 33)]) [3],
 Zm 7 34 (Za [4,4] 5)] [] [30,31,32,33,34])
 (.seq (.region [Zl 35 4 [],
 Zm 36 7 [],
 Zz 37 (.call .pure (.f 90) [(.t 35),(.t 36)]) [0,1],
 Zs 1 4 37 [2,2,0,1,2]] [] [35,36,37])
 (.region [Zf 38 1 3 [],
 Zl 39 38 [0],
 Zm 40 6 [],
 Zz 41 (.bin .add (.c (.int .i64 48)) (.t 40)) [2],
 Zz 42 (.conv .i32 (.t 41)) [3],
 Zz 43 (.convS (.t 42)) [4],
 Zz 44 (.bin .add (.c (.str [99])) (.t 43)) [5],
 Zm 45 7 [],
 Zm 46 6 [],
 Zf 47 9 1 [],
 Zz 48 (.iaddr (some 3) 27 (.t 47) (.t 46)) [9,8],
 Zw 49 27 48 [10],
 Zz 50 (.call .pure (.f 91) [(.t 45),(.t 49),(.c (.int .i64 3))]) [7,11],
 Zz 51 (.build [(.str []),.nilsl,(.int .i64 0),.nilsl,.nilsl] [(0,1,(.t 44)),(1,4,(.t 50))]) [6,12],
 Zz 52 (.bslice false .dyn 5 1 [(.str []),.nilsl,(.int .i64 0),.nilsl,.nilsl] [(0,5,(.t 51))]) [13],
 Zz 53 (.append .dyn 5 96 (.t 39) (.t 52)) [1,14,12],
 Zf 54 1 3 (Za [] 16),
 Zs 1 54 53 (Za [16,15,15] 16)] [] [6,7,38,39,40,41,42,43,44,45,46,47,48,49,50,51,52,53,54])))))
 (.region [Zz 55 (.bin .add (.t 27) (.c (.int .i64 1))) [],
 Zm 27 55 [0]] [] [55])))))))
 (.seq (.seq (.region [Zf 56 90 1 [],
 Zl 57 56 [0],
 Zz 58 (.bin .rem (.t 57) (.c (.int .u8 3))) [1],
 Zz 59 (.conv .i64 (.t 58)) [2],
 Zz 60 (.mov (.c (.int .i64 0))) []] [] [26,27,56,57,58])
 (.block 2 (.loop (.seq (.region [Zb 61 .lss 60 59 []] [] [])
 (.seq (.cond (.t 61)
 .skip
 (.exit 2))
 (.seq (.block 3 (.seq (.region [Zm 62 60 [],
 Zm 8 62 [0,0]] [] [61,62])
 (.seq (.region [Zm 63 8 [],
 Zf 64 91 1 [],
 Zz 65 (.iaddr (some 2) 1 (.t 64) (.t 63)) [1,0],
 Zl 66 65 [2],
 Zz 67 (.call .heap (.f 89) [(.t 66)]) [3],
 Zz 68 (.mkfn 92 [] [(.t 4)]) [],
 Zz 69 (.call .heap (.f 40) [(.t 67),(.t 68)]) [4,5,4],
 Zm 9 69 (Za [6,6] 7)] [] [63,64,65,66,67,68,69])
 (.region [Zf 70 2 3 [],
 Zl 71 70 [0],
 Zm 72 8 [],
 Zz 73 (.bin .add (.c (.int .i64 48)) (.t 72)) [2],
 Zz 74 (.conv .i32 (.t 73)) [3],
 Zz 75 (.convS (.t 74)) [4],
 Zz 76 (.bin .add (.c (.str [114])) (.t 75)) [5],
 Zm 77 9 [],
 Zm 78 8 [],
 Zf 79 93 1 [],
 Zz 80 (.iaddr (some 2) 27 (.t 79) (.t 78)) [9,8],
 Zw 81 27 80 [10],
 Zz 82 (.call .pure (.f 91) [(.t 77),(.t 81),(.c (.int .i64 3))]) [7,11],
 Zz 83 (.build [(.str []),.nilsl,(.int .i64 0),.nilsl,.nilsl] [(0,1,(.t 76)),(1,4,(.t 82))]) [6,12],
 Zz 84 (.bslice false .dyn 5 1 [(.str []),.nilsl,(.int .i64 0),.nilsl,.nilsl] [(0,5,(.t 83))]) [13],
 Zz 85 (.append .dyn 5 96 (.t 71) (.t 84)) [1,14,12],
 Zf 86 2 3 (Za [] 16),
 Zs 1 86 85 (Za [16,15,15] 16)] [] [8,9,70,71,72,73,74,75,76,77,78,79,80,81,82,83,84,85,86]))))
 (.region [Zz 87 (.bin .add (.t 60) (.c (.int .i64 1))) [],
 Zm 60 87 [0]] [] [87])))))))
 (.seq (.seq (.region [Zf 88 147 1 [],
 Zl 89 88 [0],
 Zv 90 89 [1],
 Zz 91 (.mov (.c (.int .i64 0))) []] [] [4,59,60,88])
 (.block 4 (.loop (.seq (.region [Zb 92 .lss 91 90 []] [] [])
 (.seq (.cond (.t 92)
 .skip
 (.exit 4))
 (.seq (.block 5 (.seq (.region [Zm 93 91 [],
 Zi 94 4 89 91 [],
 Zw 95 4 94 [1],
 Zz 11 (.alloc .dyn (.agg [(.int .u8 0),(.int .u8 0),(.int .u8 0),(.int .u8 0)])) [],
 Zm 10 93 [0,0,1,2,3],
 Zs 4 11 95 (Za [3,2,4] 5)] [] [92,93,94,95])
 (.seq (.seq (.region [Zm 96 10 [],
 Zz 97 (.bin .eql (.t 96) (.c (.int .i64 2))) [0]] [] [96])
 (.cond (.t 97)
 (.exit 4)
 .skip))
 (.seq (.region [Zm 98 10 [],
 Zz 99 (.bin .add (.c (.int .i64 48)) (.t 98)) [0],
 Zz 100 (.conv .i32 (.t 99)) [1],
 Zz 101 (.convS (.t 100)) [2],
 Zz 102 (.bin .add (.c (.str [101])) (.t 101)) [3],
 Zz 103 (.build [(.str []),.nilsl] [(0,1,(.t 102))]) [4],
 Zz 12 (.alloc .dyn (.agg [(.str []),.nilsl])) [],
 Zs 2 12 103 (Za [6,5] 7)] [] [10,97,98,99,100,101,102,103])
 (.seq (.seq (.region [Zf 104 1 3 [],
 Zl 105 104 [0],
 Zv 106 105 [1],
 Zz 107 (.mov (.c (.int .i64 0))) []] [] [104,105])
 (.block 6 (.loop (.seq (.region [Zb 108 .lss 107 106 []] [] [])
 (.seq (.cond (.t 108)
 .skip
 (.exit 6))
 (.seq (.block 7 (.seq (.region [Zm 109 107 [],
 Zm 13 109 [0,0]] [] [108,109])
 (.seq (.region [Zf 110 1 3 [],
 Zl 111 110 [0],
 Zm 112 13 [],
 Zi 113 5 111 112 [1,2],
 Zf 114 1 113 [3],
 Zf 115 1 114 [4],
 Zl 116 115 [5],
 Zm 14 116 (Za [6] 7)] [] [110,111,112,113,114,115,116])
 (.seq (.region [Zm 117 13 [],
 Zz 118 (.iaddr (some 4) 1 (.t 11) (.t 117)) [0],
 Zl 119 118 [1],
 Zz 120 (.conv .i64 (.t 119)) [2],
 Zm 121 14 [],
 Zz 122 (.bin .add (.t 121) (.c (.int .i64 2))) [4],
 Zb 123 .rem 120 122 [3,5],
 Zm 124 14 [],
 Zb 125 .lss 123 124 [6,7]] [] [117,118,119,120,121,122,123,124])
 (.cond (.t 125)
 (.region [Zf 126 1 12 [],
 Zl 127 126 [0],
 Zm 128 13 [],
 Zm 129 13 [],
 Zz 130 (.iaddr (some 4) 1 (.t 11) (.t 129)) [3],
 Zl 131 130 [4],
 Zz 132 (.conv .i64 (.t 131)) [5],
 Zm 133 14 [],
 Zz 134 (.bin .add (.t 133) (.c (.int .i64 2))) [7],
 Zb 135 .rem 132 134 [6,8],
 Zz 136 (.build [(.int .i64 0),(.int .i64 0)] [(0,1,(.t 128)),(1,1,(.t 135))]) [2,9],
 Zz 137 (.bslice false .dyn 2 1 [(.int .i64 0),(.int .i64 0)] [(0,2,(.t 136))]) [10],
 Zz 138 (.append .dyn 2 16 (.t 127) (.t 137)) [1,11],
 Zf 139 1 12 (Za [] 13),
 Zs 1 139 138 (Za [13,12,12] 13)] [] [13,14,125,126,127,128,129,130,131,132,133,134,135,136,137,138,139])
 .skip)))))
 (.region [Zz 140 (.bin .add (.t 107) (.c (.int .i64 1))) [],
 Zm 107 140 [0]] [] [13,14,125,140])))))))
 (.seq (.region [Zf 141 1 12 [],
 Zl 142 141 [0],
 Zv 143 142 [1],
 Zz 144 (.bin .gtr (.t 143) (.c (.int .i64 0))) [2]] [] [11,106,107,141,142,143])
 (.cond (.t 144)
 (.region [Zf 145 3 3 [],
 Zl 146 145 [0],
 Zw 147 2 12 [],
 Zz 148 (.bslice false .dyn 2 1 [(.str []),.nilsl] [(0,2,(.t 147))]) [2],
 Zz 149 (.append .dyn 2 40 (.t 146) (.t 148)) [1,3],
 Zf 150 3 3 (Za [] 5),
 Zs 1 150 149 (Za [5,4,4] 5)] [] [12,144,145,146,147,148,149,150])
 .skip)))))))
 (.region [Zz 151 (.bin .add (.t 91) (.c (.int .i64 1))) [],
 Zm 91 151 [0]] [] [12,144,151])))))))
 (.seq (.region [Zf 152 151 1 [],
 Zl 153 152 [0],
 Zz 154 (.conv .i64 (.t 153)) [1],
 Zz 155 (.bin .rem (.t 154) (.c (.int .i64 8))) [2],
 Zz 156 (.build [(.str []),.nilsl,(.int .i64 0)] [(0,1,(.c (.str [107]))),(2,1,(.t 155))]) [3],
 Zz 15 (.alloc .dyn (.agg [(.str []),.nilsl,(.int .i64 0)])) [],
 Zs 3 15 156 (Za [5,4] 6)] [] [89,90,91,152,153,154,155,156])
 (.seq (.seq (.region [Zm 157 5 [],
 Zz 158 (.mov (.c (.int .i64 0))) []] [] [5])
 (.block 8 (.loop (.seq (.region [Zb 159 .lss 158 157 []] [] [])
 (.seq (.cond (.t 159)
 .skip
 (.exit 8))
 (.seq (.block 9 (.seq (.region [Zm 160 158 [],
 Zm 16 160 [0,0]] [] [159,160])
 (.seq (.region [Zm 161 16 [],
 Zf 162 148 1 [],
 Zz 163 (.iaddr (some 3) 1 (.t 162) (.t 161)) [1,0],
 Zl 164 163 [2],
 Zz 165 (.bin .neq (.t 164) (.c (.int .i8 0))) [3]] [] [161,162,163,164])
 (.cond (.t 165)
 (.region [Zf 166 1 15 [],
 Zl 167 166 [0],
 Zm 168 16 [],
 Zm 169 16 [],
 Zf 170 148 1 [],
 Zz 171 (.iaddr (some 3) 1 (.t 170) (.t 169)) [4,3],
 Zl 172 171 [5],
 Zz 173 (.conv .i64 (.t 172)) [6],
 Zz 174 (.bin .rem (.t 173) (.c (.int .i64 4))) [7],
 Zz 175 (.build [(.int .i64 0),(.int .i64 0)] [(0,1,(.t 168)),(1,1,(.t 174))]) [2,8],
 Zz 176 (.bslice false .dyn 2 1 [(.int .i64 0),(.int .i64 0)] [(0,2,(.t 175))]) [9],
 Zz 177 (.append .dyn 2 16 (.t 167) (.t 176)) [1,10],
 Zf 178 1 15 (Za [] 12),
 Zs 1 178 177 (Za [12,11,11] 12)] [] [16,165,166,167,168,169,170,171,172,173,174,175,176,177,178])
 .skip))))
 (.region [Zz 179 (.bin .add (.t 158) (.c (.int .i64 1))) [],
 Zm 158 179 [0]] [] [16,165,179])))))))
 (.seq (.region [Zf 180 1 15 [],
 Zl 181 180 [0],
 Zz 182 (.call .heap (.f 93) [(.t 181),(.f 94)]) [1],
 Zf 183 1 15 [0,1,2],
 Zs 1 183 182 [3,2,2,0,1,2]] [] [1,157,158,180,181,182,183])
 (.seq (.seq (.region [Zf 184 1 15 [],
 Zl 185 184 [0],
 Zv 186 185 [1],
 Zz 187 (.bin .gtr (.t 186) (.c (.int .i64 0))) [2]] [] [184,185,186])
 (.cond (.t 187)
 (.region [Zw 188 3 15 [],
 Zz 189 (.bslice false .dyn 3 1 [(.str []),.nilsl,(.int .i64 0)] [(0,3,(.t 188))]) [0],
 Zf 190 4 3 [0,1],
 Zs 1 190 189 [2,1,0,1]] [] [15,187,188,189,190])
 .skip))
 (.seq (.region [Zw 191 5 3 [],
 Zs 5 2 191 [0,0]] [] [3,15,187,191])
 .ret))))))))))))⟩
def s40:SFn:=⟨42,[.tmp 4],
 (.seq (.region [Zz 4 (.mov (.c .nilsl)) []] [] [4])
 (.seq (.region [Zm 8 0 [],
 Zm 9 1 [],
 Zz 10 (.call .heap (.f 110) [(.t 8),(.t 9)]) [0,1],
 Zm 5 10 [2,2,0,1,2]] [] [8,9,10])
 (.seq (.seq (.region [Zm 11 5 [],
 Zz 12 (.bin .eql (.t 11) (.c (.int .i64 (-1)))) [0]] [] [11])
 (.cond (.t 12)
 (.seq (.region [Zm 13 0 [],
 Zm 4 13 [0,0]] [] [0,1,5,12,13])
 .ret)
 .skip))
 (.seq (.seq (.region [Zm 14 5 [],
 Zz 15 (.bin .add (.t 14) (.c (.int .i64 1))) [0],
 Zm 6 15 [1,0,1]] [] [4,12,14,15])
 (.block 0 (.loop (.seq (.seq (.region [Zm 16 6 [],
 Zm 17 0 [],
 Zv 18 17 [1],
 Zb 19 .lss 16 18 [0,2]] [] [16,17,18])
 (.cond (.t 19)
 .skip
 (.exit 0)))
 (.seq (.block 1 (.seq (.region [Zm 22 0 [],
 Zm 23 6 [],
 Zi 24 1 22 23 [0,1],
 Zl 25 24 [2],
 Zm 7 25 [3,0,1,2,3]] [] [19,22,23,24,25])
 (.seq (.region [Zm 26 1 [],
 Zm 27 7 [],
 Zz 28 (.call .heap (.t 26) [(.t 27)]) [0,1],
 Zz 29 (.un .not (.t 28)) [2]] [] [26,27,28])
 (.cond (.t 29)
 (.seq (.region [Zm 30 0 [],
 Zm 31 5 [],
 Zm 32 7 [],
 Zi 33 1 30 31 [0,1,0,1,2],
 Zs 1 33 32 [3,2,0,1,2]] [] [7,29,30,31,32,33])
 (.region [Zm 34 5 [],
 Zz 35 (.bin .add (.t 34) (.c (.int .i64 1))) [0],
 Zm 5 35 [1,0,1]] [] [34,35]))
 .skip))))
 (.region [Zm 20 6 [],
 Zz 21 (.bin .add (.t 20) (.c (.int .i64 1))) [0],
 Zm 6 21 [1,0,1]] [] [7,29,20,21]))))))
 (.seq (.region [Zm 36 0 [],
 Zm 37 5 [],
 Zz 38 (.slice (some 1) (.t 36) (some (.t 37)) none none) [0,1],
 Zy (.clear 1 8 [(.int .i64 0)] (.t 38)) [2]] [] [1,6,36,37,38])
 (.seq (.region [Zm 39 0 [],
 Zm 40 5 [],
 Zz 41 (.slice (some 1) (.t 39) none (some (.t 40)) none) [0,1],
 Zm 4 41 [2,0,1,2]] [] [0,5,39,40,41])
 .ret))))))⟩
def s91:SFn:=⟨16,[.cell 6 (some 4)],
 (.seq (.region [Zz 4 (.box .dyn (.t 1)) [],
 Zz 6 (.alloc .dyn (.agg [.nilsl,(.int .i64 0),.nilsl,.nilsl])) []] [] [1])
 (.seq (.region [Zf 7 0 4 [],
 Zl 8 7 [0],
 Zm 9 2 [],
 Zz 10 (.conv .u8 (.t 9)) [2],
 Zb 11 .rem 8 10 [1,3],
 Zf 12 0 4 (Za [] 5),
 Zs 1 12 11 (Za [5,4] 5)] [] [2,7,8,9,10,11,12])
 (.seq (.region [Zm 13 0 [],
 Zw 14 27 4 [],
 Zz 15 (.call .pure (.f 185) [(.t 13),(.t 14)]) [0,1],
 Zs 4 6 15 [2,2,0,1,2]] [] [0,4,13,14,15])
 .ret)))⟩
def s92:SFn:=⟨8,[.tmp 3],
 (.seq (.region [Zz 3 (.mov (.c (.bool false))) []] [] [3])
 (.seq (.region [Zl 4 1 [],
 Zm 5 0 [],
 Zz 6 (.call .pure (.f 38) [(.t 4),(.t 5)]) [0,1],
 Zz 7 (.un .not (.t 6)) [2],
 Zm 3 7 [3,2,0,1,2,3]] [] [0,1,4,5,6,7])
 .ret))⟩
def s93:SFn:=⟨42,[.tmp 4],
 (.seq (.region [Zz 4 (.mov (.c .nilsl)) []] [] [4])
 (.seq (.region [Zm 8 0 [],
 Zm 9 1 [],
 Zz 10 (.call .heap (.f 186) [(.t 8),(.t 9)]) [0,1],
 Zm 5 10 [2,2,0,1,2]] [] [8,9,10])
 (.seq (.seq (.region [Zm 11 5 [],
 Zz 12 (.bin .eql (.t 11) (.c (.int .i64 (-1)))) [0]] [] [11])
 (.cond (.t 12)
 (.seq (.region [Zm 13 0 [],
 Zm 4 13 [0,0]] [] [0,1,5,12,13])
 .ret)
 .skip))
 (.seq (.seq (.region [Zm 14 5 [],
 Zz 15 (.bin .add (.t 14) (.c (.int .i64 1))) [0],
 Zm 6 15 [1,0,1]] [] [4,12,14,15])
 (.block 0 (.loop (.seq (.seq (.region [Zm 16 6 [],
 Zm 17 0 [],
 Zv 18 17 [1],
 Zb 19 .lss 16 18 [0,2]] [] [16,17,18])
 (.cond (.t 19)
 .skip
 (.exit 0)))
 (.seq (.block 1 (.seq (.region [Zm 22 0 [],
 Zm 23 6 [],
 Zi 24 2 22 23 [0,1],
 Zw 25 2 24 [2],
 Zz 7 (.alloc .dyn (.agg [(.int .i64 0),(.int .i64 0)])) [],
 Zs 2 7 25 (Za [4,3] 5)] [] [19,22,23,24,25])
 (.seq (.region [Zm 26 1 [],
 Zw 27 2 7 [],
 Zz 28 (.call .heap (.t 26) [(.t 27)]) [0,1],
 Zz 29 (.un .not (.t 28)) [2]] [] [26,27,28])
 (.cond (.t 29)
 (.seq (.region [Zm 30 0 [],
 Zm 31 5 [],
 Zw 32 2 7 [],
 Zi 33 2 30 31 [0,1,0,1,2],
 Zs 2 33 32 [3,2,0,1,2]] [] [7,29,30,31,32,33])
 (.region [Zm 34 5 [],
 Zz 35 (.bin .add (.t 34) (.c (.int .i64 1))) [0],
 Zm 5 35 [1,0,1]] [] [34,35]))
 .skip))))
 (.region [Zm 20 6 [],
 Zz 21 (.bin .add (.t 20) (.c (.int .i64 1))) [0],
 Zm 6 21 [1,0,1]] [] [7,29,20,21]))))))
 (.seq (.region [Zm 36 0 [],
 Zm 37 5 [],
 Zz 38 (.slice (some 2) (.t 36) (some (.t 37)) none none) [0,1],
 Zy (.clear 2 16 [(.int .i64 0),(.int .i64 0)] (.t 38)) [2]] [] [1,6,36,37,38])
 (.seq (.region [Zm 39 0 [],
 Zm 40 5 [],
 Zz 41 (.slice (some 2) (.t 39) none (some (.t 40)) none) [0,1],
 Zm 4 41 [2,0,1,2]] [] [0,5,39,40,41])
 .ret))))))⟩
def s94:SFn:=⟨6,[.tmp 2],
 (.seq (.region [Zz 1 (.box .dyn (.t 0)) [],
 Zz 2 (.mov (.c (.bool false))) []] [] [0,2])
 (.seq (.region [Zf 3 1 1 [],
 Zl 4 3 [0],
 Zz 5 (.bin .eql (.t 4) (.c (.int .i64 0))) [1],
 Zm 2 5 [2,0,1,2]] [] [1,3,4,5])
 .ret))⟩
def s110:SFn:=⟨19,[.tmp 4],
 (.seq (.region [Zz 4 (.mov (.c (.int .i64 0))) []] [] [4])
 (.seq (.seq (.region [Zm 6 0 [],
 Zv 7 6 [0],
 Zz 8 (.mov (.c (.int .i64 0))) []] [] [6])
 (.block 0 (.loop (.seq (.region [Zb 9 .lss 8 7 []] [] [])
 (.seq (.cond (.t 9)
 .skip
 (.exit 0))
 (.seq (.block 1 (.seq (.region [Zm 10 8 [],
 Zm 5 10 [0,0]] [] [9,10])
 (.seq (.region [Zm 11 1 [],
 Zm 12 0 [],
 Zm 13 5 [],
 Zi 14 1 12 13 [1,2],
 Zl 15 14 [3],
 Zz 16 (.call .heap (.t 11) [(.t 15)]) [0,4]] [] [11,12,13,14,15])
 (.cond (.t 16)
 (.seq (.region [Zm 17 5 [],
 Zm 4 17 [0,0]] [] [0,1,7,8,5,16,17])
 .ret)
 .skip))))
 (.region [Zz 18 (.bin .add (.t 8) (.c (.int .i64 1))) [],
 Zm 8 18 [0]] [] [4,5,16,18])))))))
 (.seq (.region [Zz 4 (.mov (.c (.int .i64 (-1)))) []] [] [0,1,7,8])
 .ret)))⟩
def s186:SFn:=⟨19,[.tmp 4],
 (.seq (.region [Zz 4 (.mov (.c (.int .i64 0))) []] [] [4])
 (.seq (.seq (.region [Zm 6 0 [],
 Zv 7 6 [0],
 Zz 8 (.mov (.c (.int .i64 0))) []] [] [6])
 (.block 0 (.loop (.seq (.region [Zb 9 .lss 8 7 []] [] [])
 (.seq (.cond (.t 9)
 .skip
 (.exit 0))
 (.seq (.block 1 (.seq (.region [Zm 10 8 [],
 Zm 5 10 [0,0]] [] [9,10])
 (.seq (.region [Zm 11 1 [],
 Zm 12 0 [],
 Zm 13 5 [],
 Zi 14 2 12 13 [1,2],
 Zw 15 2 14 [3],
 Zz 16 (.call .heap (.t 11) [(.t 15)]) [0,4]] [] [11,12,13,14,15])
 (.cond (.t 16)
 (.seq (.region [Zm 17 5 [],
 Zm 4 17 [0,0]] [] [0,1,7,8,5,16,17])
 .ret)
 .skip))))
 (.region [Zz 18 (.bin .add (.t 8) (.c (.int .i64 1))) [],
 Zm 8 18 [0]] [] [4,5,16,18])))))))
 (.seq (.region [Zz 4 (.mov (.c (.int .i64 (-1)))) []] [] [0,1,7,8])
 .ret)))⟩
theorem ok26:okFn Tryz.prog 26 s26=true:=by kernel_rfl
theorem ok40:okFn Tryz.prog 40 s40=true:=by kernel_rfl
theorem ok91:okFn Tryz.prog 91 s91=true:=by kernel_rfl
theorem ok92:okFn Tryz.prog 92 s92=true:=by kernel_rfl
theorem ok93:okFn Tryz.prog 93 s93=true:=by kernel_rfl
theorem ok94:okFn Tryz.prog 94 s94=true:=by kernel_rfl
theorem ok110:okFn Tryz.prog 110 s110=true:=by kernel_rfl
theorem ok186:okFn Tryz.prog 186 s186=true:=by kernel_rfl
end Go.AM.SU
namespace Go.AM.SU
open Go.Proofs Go.AM.SD Go.AM.SE
theorem not92 (A:List Nat) (x:Nat) (hA:A.length<=1000000):PSpec Tryz.prog 92 [.int .i64 (x:Int),.fptr [sliN A]] (.bool (!decide (x∈A))):=by
 refine PSpec.Qau 64 ok92 rfl (by simp only[noRefs,noRef,Qaa];rfl) rfl ?_
 have h:=contains62 (nz A) x (by simp;omega)
 have e:decide ((x:Int)∈nz A)=decide (x∈A):=by
  refine decide_eq_decide.2 ⟨fun h=>?_,fun h=>List.mem_map.2 ⟨x,h,rfl⟩⟩
  obtain⟨a,h1,h2⟩:=List.mem_map.1 h
  have:a=x:=by omega
  exact this▸h1
 rw[e,QbY]at h
 simp(disch:=first|omega|(simp only[lenW]<;>omega)) only[s92,Bool.not_eq_true,wW,wV,simprocAttr]
 refine cp h ?_
 simp(disch:=first|omega|(simp only[lenW]<;>omega)) only[Bool.not_eq_true,wW,wV,simprocAttr]
 exact⟨.inr trivial,_,rfl,rfl⟩
def fstN (A l:List Nat):Int:=if l.all (fun x=>decide (x∈A))then-1 else(l.findIdx (fun x=> !decide (x∈A)):Int)
theorem cpc {P:Program} {N:NM} {r:List SOper} {dead:List Nat} {fs:List Fr} {n:Nat} {T:Tmps} {h:Heap} {Q:QC} {d:Option Nat} {f:Nat} {args a c:List AV} {v:AV} (hp:PSpec P f (a++args++c) v) (k:wR P N r dead fs (n+1) (putD T d v) h Q):wCall P N .heap (.fn f a c) args d r dead fs n T h Q:=⟨v,h,hp.toH h,k⟩
theorem chc {P:Program} {N:NM} {r:List SOper} {dead:List Nat} {fs:List Fr} {n:Nat} {T:Tmps} {h h1:Heap} {Q:QC} {d:Option Nat} {f:Nat} {args a c:List AV} {v:AV} (hp:HSpec P f (a++args++c) h v h1) (k:wR P N r dead fs (n+1) (putD T d v) h1 Q):wCall P N .heap (.fn f a c) args d r dead fs n T h Q:=⟨v,h1,hp,k⟩
theorem _root_.Go.AM.au10 {p:Prop} (h:p:=by repeat' (first|exact RB.nil|(refine RnL.same ?_;first|rfl|(simp only[noRef,noRefs,Qai,Bool.and_self,Bool.and_true,Bool.true_and,Qaa,Qay,Qab];done))|exact RnM.keyM rfl|exact RnL.nil|exact(True.intro:RnM _ _ _ [] [])|refine RnL.cons ?_ ?_|(refine Rn.same ?_;first|rfl|(simp only[noRef,noRefs,Qai,Bool.and_self,Bool.and_true,Bool.true_and,Qaa,Qay,Qab];done))|exact Rn.x1 rfl rfl|exact Rn.x2 rfl rfl|exact Rn.x3 rfl rfl|exact Rn.x4 rfl rfl|exact Rn.x5 rfl|exact Rn.x6 rfl|exact Rn.x7 rfl|refine RB.newnil rfl rfl ?_|refine RB.cells rfl rfl rfl ?_ ?_|refine RB.map rfl rfl rfl ?_ ?_|refine RB.cellsB rfl rfl ?_ ?_|refine RB.mapB rfl rfl ?_ ?_)):p:=h
theorem index110 (A l : List Nat) (hA : A.length <= 1000000) (hl : l.length <= 1000000) : PSpec Tryz.prog 110 [sliN l, .fn 92 [] [.fptr [sliN A]]] (.int .i64 (fstN A l)) := by
  refine PSpec.Qau 64 ok110 rfl (by simp only[noRefs,noRef,Qaa];rfl) rfl ?_
  simp(disch:=first|omega|(simp only[lenW]<;>omega)) only[s110,Bool.not_eq_true,wW,wV,simprocAttr]
  refine QaJ 100 (fun i:Nat=>[(0,sliN l),(1,.fn 92 [] [.fptr [sliN A]]),(7,.int .i64 l.length),(8,.int .i64 i)]) (fun _=>[]) (fun i=>i<=l.length/\∀(j:Nat) y,j<i->l[j]?=some y->y∈A) (fun i=>l.length-i) 0 ⟨[],rfl,au0,au10,au9⟩ ⟨Nat.zero_le _,fun j y hj=>absurd hj (Nat.not_lt_zero _)⟩ ?_
  rintro i ⟨hi,hb⟩
  by_cases hlt:i<l.length
  · obtain ⟨x, hx⟩ := Qak hlt
    have hn:=not92 A x hA
    by_cases h0:x∈A
    · have e : (!decide (x ∈ A)) = false := by simp [h0]
      rw[e]at hn
      simp(disch:=first|omega|(simp only[lenW]<;>omega)) only[hlt,QaI hx,Bool.not_eq_true,wW,wV,simprocAttr]
      refine cpc hn ?_
      simp(disch:=first|omega|(simp only[lenW]<;>omega)) only[Bool.not_eq_true,wW,wV,simprocAttr]
      refine⟨i+1,by omega,⟨by omega,fun j y hj hy=>?_⟩,⟨[],rfl,au0,au10,au9⟩⟩
      by_cases e:j=i
      · subst e;rw[hx]at hy;cases hy;exact h0
      · exact hb j y (by omega) hy
    · have e : (!decide (x ∈ A)) = true := by simp [h0]
      rw[e]at hn
      simp(disch:=first|omega|(simp only[lenW]<;>omega)) only[hlt,QaI hx,Bool.not_eq_true,wW,wV,simprocAttr]
      refine cpc hn ?_
      simp(disch:=first|omega|(simp only[lenW]<;>omega)) only[Bool.not_eq_true,wW,wV,simprocAttr]
      refine⟨.inr trivial,_,rfl,?_⟩
      have h1:¬l.all (fun x=>decide (x∈A))=true:=by
        intro h;exact h0 (by simpa using List.all_eq_true.1 h x (List.mem_of_getElem? hx))
      have h2:l.findIdx (fun x=> !decide (x∈A))=i:=by
        rw[List.findIdx_eq hlt]
        refine⟨by rw[List.getElem?_eq_getElem hlt]at hx;cases hx;simp[h0],fun j hj=>?_⟩
        have:=hb j l[j] hj (List.getElem?_eq_getElem (by omega))
        simpa using this
      unfold fstN
      rw[if_neg h1,h2];rfl
  · have h1 : l.all (fun x => decide (x ∈ A)) = true := by
      rw[List.all_eq_true]
      intro x hx
      obtain⟨j,hj,hjl⟩:=List.getElem_of_mem hx
      simpa using hb j x (by omega) (by rw[List.getElem?_eq_getElem hj,hjl])
    simp(disch:=first|omega|(simp only[lenW]<;>omega)) only[hlt,Bool.not_eq_true,wW,wV,simprocAttr]
    refine⟨.inr trivial,_,rfl,?_⟩
    unfold fstN
    rw[if_pos h1];rfl
theorem QdJ {cs vs:List AV} {off:Nat} (h:off<cs.length):putR cs off vs=cs.take off++vs++cs.drop (off+vs.length):=by
 unfold putR
 split
 ·rename_i v
  rw[List.set_eq_take_append_cons_drop,if_pos h];simp
 ·rfl
theorem Qjt {P:Program} {N:NM} {d:Option Nat} {r:List SOper} {dead:List Nat} {fs:List Fr} {n:Nat} {T:Tmps} {h:Heap} {Q:QC} {b g off len sz:Nat} {cs zero:List AV} (hb:h.get b=some (.cells g cs)) (h0:0<len) (hl:off+len*sz<=cs.length) (hz:zero.length=sz) (ho:zero.all AV.one=true) (hlim:b<lim)
  (hk:wR P N r dead fs (n+1) (putD T d .any) (h.set b (.cells g (putR cs off (List.replicate len zero).flatten))) Q):wM P N (aClear sz zero (.sl b g off len sz)) d r dead fs n T h Q:=by
 obtain⟨k,rfl⟩:∃k,len=k+1:=⟨len-1,by omega⟩
 refine⟨_,_,?_,hk⟩
 have hg:Nat.beq g g=true:=by simp
 have hlim2:Nat.blt b lim=true:=by simpa using hlim
 simp only[aClear,if_true,HM.cells,HM.run,hb,hg,cond_true]
 rw[if_pos ⟨hl,hz,ho⟩]
 simp only[HM.run,hlim2,cond_true]
def fltN (A l:List Nat):List Nat:=l.filter fun x=>decide (x∈A)
theorem Qju {A l:List Nat} {j v:Nat} (h:l[j]?=some v):fltN A (l.take (j+1))=if v∈A then fltN A (l.take j)++[v]else fltN A (l.take j):=by
 unfold fltN
 rw[List.take_add_one,h,Option.toList,List.filter_append]
 by_cases hv:v∈A<;>simp[hv]
def delL (A l:List Nat):List Nat:=fltN A l++List.replicate (l.length-(fltN A l).length) 0
theorem Qom {A l:List Nat} (h:l.all (fun x=>decide (x∈A))=true):fltN A l=l:=by
 unfold fltN
 exact List.filter_eq_self.2 fun x hx=>List.all_eq_true.1 h x hx
theorem QnA {k:Nat}:(List.replicate k [AV.int .i64 0]).flatten=ints (nz (List.replicate k 0)):=by
 induction k with
 |zero=>rfl
 |succ k ih=>rw[List.replicate_succ,List.flatten_cons,ih];rfl
theorem QmL {l:List Nat} {i:Nat}:(ints (nz l)).take i=ints (nz (l.take i)):=by simp[ints,nz,List.map_take]
theorem QkM {l:List Nat} {i x:Nat} (h:l[i]?=some x):(ints (nz l))[i]?=some (.int .i64 (x:Int)):=by simp[ints,h]
theorem del40 (A l : List Nat) (hA : A.length <= 1000000) (hl : l.length <= 1000000) :
    HSpec Tryz.prog 40 [.sl 98 0 0 l.length 1,.fn 92 [] [.ptr 75 0 0]] (hp [(75,.cells 0 [sliN A]),(98,.cells 0 (ints (nz l)))]) (.sl 98 0 0 (fltN A l).length 1) (hp [(75,.cells 0 [sliN A]),(98,.cells 0 (ints (nz (delL A l))))]):=by
  refine HSpec.QkB (m:=99) 100 ok40 rfl rfl ?_
  have hn:(ints (nz l)).length=l.length*1:=by simp[ints]
  simp(disch:=first|omega|(simp only[lenW]<;>omega)) only[s40,Bool.not_eq_true,wW,wV,simprocAttr]
  refine chc (HSpec.lend (FrzL.cons (FrzTo.all gg hn) (FrzL.cons (FrzTo.fn FrzL.nil (FrzL.cons (FrzTo.ptr (g:=0) (cs:=[sliN A]) gg (FrzL.cons (FrzTo.same _) FrzL.nil)) FrzL.nil)) FrzL.nil)) (index110 A l hA hl) rfl) ?_
  by_cases hall:l.all (fun x=>decide (x∈A))=true
  · have e1 : fstN A l = -1 := if_pos hall
    simp(disch:=first|omega|(simp only[lenW]<;>omega)) only[e1,Bool.not_eq_true,wW,wV,simprocAttr]
    refine⟨.inr trivial,_,rfl,?_⟩
    unfold delL;rw[Qom hall,Nat.sub_self,List.replicate_zero,List.append_nil]
    exact⟨[(75,.nil),(98,.nil)],rfl,au0,au10,au9⟩
  have e1:fstN A l=(l.findIdx (fun x=> !decide (x∈A)):Int):=if_neg hall
  have hex:∃x∈l,(!decide (x∈A))=true:=by
    have:¬∀x∈l,decide (x∈A)=true:=fun h=>hall (List.all_eq_true.2 h)
    obtain⟨x,hx⟩:=Classical.not_forall.1 this
    obtain⟨hx,hy⟩:=Classical.not_imp.1 hx
    exact⟨x,hx,by simpa using hy⟩
  have hi0:l.findIdx (fun x=> !decide (x∈A))<l.length:=List.findIdx_lt_length_of_exists hex
  obtain⟨i0,hI⟩:∃i0,i0=l.findIdx (fun x=> !decide (x∈A)):=⟨_,rfl⟩
  rw[<-hI]at e1 hi0
  have hv0:l[i0]∉A:=by
    have:=List.findIdx_getElem (w:=by rw[<-hI];exact hi0) (xs:=l) (p:=fun x=> !decide (x∈A))
    simp only[<-hI]at this
    simpa using this
  have hlow:fltN A (l.take i0)=l.take i0:=by
    unfold fltN
    refine List.filter_eq_self.2 fun x hx=>?_
    obtain⟨j,hj,rfl⟩:=List.getElem_of_mem hx
    rw[List.length_take]at hj
    have:=List.not_of_lt_findIdx (xs:=l) (p:=fun x=> !decide (x∈A)) (i:=j) (by rw[<-hI];omega)
    rw[List.getElem_take]
    simpa using this
  have hst:fltN A (l.take (i0+1))=l.take i0:=by
    rw[Qju (List.getElem?_eq_getElem hi0),if_neg hv0,hlow]
  have hne:¬(i0:Int)= -1:=by omega
  simp(disch:=first|omega|(simp only[lenW]<;>omega)) only[e1,hne,Bool.not_eq_true,wW,wV,simprocAttr]
  refine QaJ 110 (fun t:Nat×Nat×List Nat=>[(0,.sl 98 0 0 l.length 1),(1,.fn 92 [] [.ptr 75 0 0]),(5,.int .i64 t.2.1),(6,.int .i64 t.1)])
    (fun t=>[(75,.cells 0 [sliN A]),(98,.cells 0 (ints (nz t.2.2)))]) (fun t=>t.1<=l.length/\t.2.1<t.1/\t.2.2.length=l.length/\t.2.2.take t.2.1=fltN A (l.take t.1)/\t.2.2.drop t.1=l.drop t.1) (fun t=>l.length-t.1)
    (i0+1,i0,l) ⟨[(75,.nil),(98,.nil)],rfl,au0,au10,au9⟩ ⟨by dsimp only;omega,by dsimp only;omega,rfl,hst.symm,rfl⟩ ?_
  rintro⟨j,i,C⟩ ⟨hj,hij,hC,hT,hD⟩
  dsimp only at hj hij hC hT hD⊢
  by_cases hlt:j<l.length
  · obtain ⟨v, hv⟩ := Qak hlt
    have hvC:C[j]?=some v:=by
      have:(C.drop j)[0]?=(l.drop j)[0]?:=by rw[hD]
      simpa[hv]using this
    have hs:=Qju (A:=A) hv
    have hn2:=not92 A v hA
    by_cases hm:v∈A
    · have e2 : (!decide (v ∈ A)) = false := by simp [hm]
      rw[e2]at hn2
      rw[if_pos hm]at hs
      simp(disch:=first|omega|(simp only[lenW]<;>omega)) only[hlt,hC,QkM hvC,Bool.not_eq_true,wW,wV,simprocAttr]
      refine chc (HSpec.lend (FrzL.cons (FrzTo.same _) (FrzL.cons (FrzTo.ptr (g:=0) (cs:=[sliN A]) gg (FrzL.cons (FrzTo.same _) FrzL.nil)) FrzL.nil)) hn2 rfl) ?_
      have hil:i<l.length:=by omega
      have hset:(ints (nz C)).set i (.int .i64 (v:Int))=ints (nz (C.set i v)):=by simp[ints,nz,List.map_set]
      have hil1:i+1<=(ints (nz C)).length:=by simp[ints,hC];omega
      have hil2:i+1<=l.length:=by omega
      simp(disch:=first|omega|(simp only[lenW]<;>omega)) only[hil,hC,hset,hil1,hil2,Bool.not_eq_true,wW,wV,simprocAttr]
      refine⟨(j+1,i+1,C.set i v),by dsimp only;omega,⟨by dsimp only;omega,by dsimp only;omega,by simp[hC],?_,?_⟩,?_⟩
      · dsimp only
        rw[hs,<-hT,List.take_add_one,List.getElem?_set_self (by omega),List.take_set,List.set_eq_of_length_le (by rw[List.length_take];omega)];rfl
      · dsimp only
        rw[List.drop_set_of_lt (by omega)]
        have:=congrArg (List.drop 1) hD
        simpa[List.drop_drop]using this
      · exact⟨[(75,.nil),(98,.nil)],rfl,au0,au10,au9⟩
    · have e2 : (!decide (v ∈ A)) = true := by simp [hm]
      rw[e2]at hn2
      rw[if_neg hm]at hs
      simp(disch:=first|omega|(simp only[lenW]<;>omega)) only[hlt,hC,QkM hvC,Bool.not_eq_true,wW,wV,simprocAttr]
      refine chc (HSpec.lend (FrzL.cons (FrzTo.same _) (FrzL.cons (FrzTo.ptr (g:=0) (cs:=[sliN A]) gg (FrzL.cons (FrzTo.same _) FrzL.nil)) FrzL.nil)) hn2 rfl) ?_
      simp(disch:=first|omega|(simp only[lenW]<;>omega)) only[Bool.not_eq_true,wW,wV,simprocAttr]
      refine⟨(j+1,i,C),by dsimp only;omega,⟨by dsimp only;omega,by dsimp only;omega,hC,by rw[hs];exact hT,?_⟩,?_⟩
      · dsimp only
        have:=congrArg (List.drop 1) hD
        simpa[List.drop_drop]using this
      · exact⟨[(75,.nil),(98,.nil)],rfl,au0,au10,au9⟩
  · have ej : j = l.length := by omega
    subst ej
    rw[List.take_length]at hT
    have hil:(i:Int)<=(l.length:Int):=by omega
    simp(disch:=first|omega|(simp only[lenW]<;>omega)) only[hlt,hil,Bool.not_eq_true,wW,wV,simprocAttr]
    refine Qjt gg (by omega) (by simp[ints,hC];omega) rfl rfl (by decide) ?_
    simp(disch:=first|omega|(simp only[lenW]<;>omega)) only[hil,Bool.not_eq_true,wW,wV,simprocAttr]
    refine⟨.inr trivial,_,rfl,?_⟩
    have hfl:(fltN A l).length=i:=by rw[<-hT,List.length_take];omega
    have hput:putR (ints (nz C)) i (List.replicate (l.length-i) [AV.int .i64 0]).flatten=ints (nz (delL A l)):=by
      rw[QdJ (by simp[ints,hC];omega),QnA,QmL,hT]
      unfold delL
      rw[hfl,QaL,QaD,List.drop_of_length_le (by simp[ints,hC];omega),List.append_nil]
    rw[hfl,hput]
    exact⟨[(75,.nil),(98,.nil)],rfl,au0,au10,au9⟩
end Go.AM.SU
namespace Go.AM.SU
open Go.Proofs Go.AM.SD Go.AM.SE Go.AM.SO
theorem QaO (l:List (Nat×Int)):noRefs (l.flatMap teC)=true:=QaW (fun _=>rfl) l
theorem QcR (l:List (Nat×Int)):(l.flatMap teC).length=l.length*2:=Qbr (k:=2) (fun _=>rfl) l
theorem Qc6 {l:List (Nat×Int)} {i:Nat} {x:Nat×Int} (h:l[i]?=some x):(l.flatMap teC).drop (i*2)= .int .i64 (x.1:Int):: .int .i64 x.2::(l.drop (i+1)).flatMap teC:=Qbm (f:=teC) (k:=2) (fun _=>rfl) h
theorem QmM {x:Nat×Int}:∀{l:List (Nat×Int)} {i:Nat},i<l.length->(l.flatMap teC).take (i*2)++[.int .i64 (x.1:Int),.int .i64 x.2]++(l.flatMap teC).drop (i*2+2)=(l.set i x).flatMap teC
 |[],i,h=>by simp at h
 |a::l,0,h=>by simp[List.flatMap_cons,teC]
 |a::l,i+1,h=>by
  have:=QmM (x:=x) (l:=l) (i:=i) (by simpa using h)
  rw[List.set_cons_succ,List.flatMap_cons,List.flatMap_cons,<-this]
  rw[show(i+1)*2=i*2+2 by omega]
  simp[teC]
abbrev teV (x:Nat×Int):AV:= .agg [.int .i64 (x.1:Int),.int .i64 x.2]
theorem zero94 (x:Nat×Int):PSpec Tryz.prog 94 [teV x] (.bool (decide (x.2=0))):=by
 refine PSpec.Qau 64 ok94 rfl rfl rfl ?_
 simp(disch:=first|omega|(simp only[lenW]<;>omega)) only[s94,Bool.not_eq_true,wW,wV,simprocAttr]
 exact⟨.inr trivial,_,rfl,rfl⟩
def fst0 (l:List (Nat×Int)):Int:=if l.all (fun x=> !decide (x.2=0))then-1 else(l.findIdx (fun x=>decide (x.2=0)):Int)
theorem _root_.Go.AM.au11 {p:Prop} (h:p:=by repeat' (first|exact RB.nil|(refine RnL.same ?_;first|rfl|(simp only[noRef,noRefs,Qai,Bool.and_self,Bool.and_true,Bool.true_and,Qaa,Qay,Qab,QaO];done))|exact RnM.keyM rfl|exact RnL.nil|exact(True.intro:RnM _ _ _ [] [])|refine RnL.cons ?_ ?_|(refine Rn.same ?_;first|rfl|(simp only[noRef,noRefs,Qai,Bool.and_self,Bool.and_true,Bool.true_and,Qaa,Qay,Qab,QaO];done))|exact Rn.x1 rfl rfl|exact Rn.x2 rfl rfl|exact Rn.x3 rfl rfl|exact Rn.x4 rfl rfl|exact Rn.x5 rfl|exact Rn.x6 rfl|exact Rn.x7 rfl|refine RB.newnil rfl rfl ?_|refine RB.cells rfl rfl rfl ?_ ?_|refine RB.map rfl rfl rfl ?_ ?_|refine RB.cellsB rfl rfl ?_ ?_|refine RB.mapB rfl rfl ?_ ?_)):p:=h
theorem _root_.Go.AM.au12 {p:Prop} (h:p:=by repeat (first|exact RT.nil|(refine RT.cons ?_ ?_; · (first|exact Rn.any|exact Rn.x1 rfl rfl|exact Rn.x2 rfl rfl|exact Rn.x3 rfl rfl|exact Rn.x4 rfl rfl|exact Rn.x5 rfl|exact Rn.x6 rfl|exact Rn.x7 rfl|(refine Rn.slot ?_ ?_;(first|rfl|(rw[Int.natCast_add];rfl));(first|rfl|(simp only[noRef,noRefs,Qai,Bool.and_self,Bool.and_true,Bool.true_and,Qaa,Qay,Qab,QaO];done)))|(refine Rn.fn ?_ ?_<;>(repeat' (first|exact RnL.nil|refine RnL.cons ?_ ?_|exact Rn.same rfl|exact Rn.x6 rfl|exact Rn.x2 rfl rfl|exact Rn.x5 rfl|exact Rn.x1 rfl rfl))))))):p:=h
theorem index186 (l : List (Nat × Int)) (hl : l.length <= 1000000) : PSpec Tryz.prog 186 [tes l, .fn 94 [] []] (.int .i64 (fst0 l)) := by
  refine PSpec.Qau 64 ok186 rfl (by simp only[noRefs,noRef,QaO];rfl) rfl ?_
  have hln:=QcR l
  simp(disch:=first|omega|(simp only[lenW]<;>omega)) only[s186,Bool.not_eq_true,wW,wV,simprocAttr]
  refine QaJ 100 (fun i:Nat=>[(0,tes l),(1,.fn 94 [] []),(7,.int .i64 l.length),(8,.int .i64 i)]) (fun _=>[]) (fun i=>i<=l.length/\∀(j:Nat) y,j<i->l[j]?=some y->y.2≠0) (fun i=>l.length-i) 0 ⟨[],rfl,au0,au11,au12⟩ ⟨Nat.zero_le _,fun j y hj=>absurd hj (Nat.not_lt_zero _)⟩ ?_
  rintro i ⟨hi,hb⟩
  by_cases hlt:i<l.length
  · obtain ⟨x, hx⟩ := Qak hlt
    have hn:=zero94 x
    by_cases h0:x.2=0
    · have e : decide (x.2 = 0) = true := by simp [h0]
      rw[e]at hn
      simp(disch:=first|omega|(simp only[lenW]<;>omega)) only[hlt,Qc6 hx,Bool.not_eq_true,wW,wV,simprocAttr]
      refine cpc hn ?_
      simp(disch:=first|omega|(simp only[lenW]<;>omega)) only[Bool.not_eq_true,wW,wV,simprocAttr]
      refine⟨.inr trivial,_,rfl,?_⟩
      have h1:¬l.all (fun x=> !decide (x.2=0))=true:=by
        intro h;have:=List.all_eq_true.1 h x (List.mem_of_getElem? hx);simp[h0]at this
      have h2:l.findIdx (fun x=>decide (x.2=0))=i:=by
        rw[List.findIdx_eq hlt]
        refine⟨by rw[List.getElem?_eq_getElem hlt]at hx;cases hx;simp[h0],fun j hj=>?_⟩
        have:=hb j l[j] hj (List.getElem?_eq_getElem (by omega))
        simpa using this
      unfold fst0
      rw[if_neg h1,h2];rfl
    · have e : decide (x.2 = 0) = false := by simp [h0]
      rw[e]at hn
      simp(disch:=first|omega|(simp only[lenW]<;>omega)) only[hlt,Qc6 hx,Bool.not_eq_true,wW,wV,simprocAttr]
      refine cpc hn ?_
      simp(disch:=first|omega|(simp only[lenW]<;>omega)) only[Bool.not_eq_true,wW,wV,simprocAttr]
      refine⟨i+1,by omega,⟨by omega,fun j y hj hy=>?_⟩,⟨[],rfl,au0,au11,au12⟩⟩
      by_cases e:j=i
      · subst e;rw[hx]at hy;cases hy;exact h0
      · exact hb j y (by omega) hy
  · have h1 : l.all (fun x => !decide (x.2 = 0)) = true := by
      rw[List.all_eq_true]
      intro x hx
      obtain⟨j,hj,hjl⟩:=List.getElem_of_mem hx
      simpa using hb j x (by omega) (by rw[List.getElem?_eq_getElem hj,hjl])
    simp(disch:=first|omega|(simp only[lenW]<;>omega)) only[hlt,Bool.not_eq_true,wW,wV,simprocAttr]
    refine⟨.inr trivial,_,rfl,?_⟩
    unfold fst0
    rw[if_pos h1];rfl
def flt0 (l:List (Nat×Int)):List (Nat×Int):=l.filter fun t=> !(decide (t.2=0))
theorem Qh0 {l:List (Nat×Int)} {j:Nat} {v:Nat×Int} (h:l[j]?=some v):flt0 (l.take (j+1))=if v.2=0 then flt0 (l.take j)else flt0 (l.take j)++[v]:=by
 unfold flt0
 rw[List.take_add_one,h,Option.toList,List.filter_append]
 by_cases hv:v.2=0<;>simp[hv]
def delT (l:List (Nat×Int)):List (Nat×Int):=flt0 l++List.replicate (l.length-(flt0 l).length) (0,0)
theorem QnB {l:List (Nat×Int)} (h:l.all (fun x=> !decide (x.2=0))=true):flt0 l=l:=by
 unfold flt0
 exact List.filter_eq_self.2 fun x hx=>List.all_eq_true.1 h x hx
theorem QmN {k:Nat}:(List.replicate k [AV.int .i64 0,AV.int .i64 0]).flatten=(List.replicate k ((0,0):Nat×Int)).flatMap teC:=by
 induction k with
 |zero=>rfl
 |succ k ih=>rw[List.replicate_succ,List.flatten_cons,ih];rfl
theorem QgZ:∀{l:List (Nat×Int)} {i:Nat},(l.flatMap teC).take (i*2)=(l.take i).flatMap teC
 |[],i=>by simp
 |a::l,0=>by simp
 |a::l,i+1=>by
  rw[List.flatMap_cons,List.take_succ_cons,List.flatMap_cons,<-QgZ,Nat.succ_mul]
  simp[teC]
theorem del93 (l : List (Nat × Int)) (hl : l.length <= 1000000) :
    HSpec Tryz.prog 93 [.sl 97 0 0 l.length 2,.fn 94 [] []] (hp [(97,.cells 0 (l.flatMap teC))]) (.sl 97 0 0 (flt0 l).length 2) (hp [(97,.cells 0 ((delT l).flatMap teC))]):=by
  refine HSpec.QkB (m:=98) 100 ok93 rfl rfl ?_
  have hn:=QcR l
  simp(disch:=first|omega|(simp only[lenW]<;>omega)) only[s93,Bool.not_eq_true,wW,wV,simprocAttr]
  refine chc (HSpec.lend (FrzL.cons (FrzTo.all gg hn) (FrzL.cons (FrzTo.same _) FrzL.nil)) (index186 l hl) rfl) ?_
  by_cases hall:l.all (fun x=> !decide (x.2=0))=true
  · have e1 : fst0 l = -1 := if_pos hall
    simp(disch:=first|omega|(simp only[lenW]<;>omega)) only[e1,Bool.not_eq_true,wW,wV,simprocAttr]
    refine⟨.inr trivial,_,rfl,?_⟩
    unfold delT;rw[QnB hall,Nat.sub_self,List.replicate_zero,List.append_nil]
    exact⟨[(97,.nil)],rfl,au0,au11,au12⟩
  have e1:fst0 l=(l.findIdx (fun x=>decide (x.2=0)):Int):=if_neg hall
  have hex:∃x∈l,decide (x.2=0)=true:=by
    have:¬∀x∈l,(!decide (x.2=0))=true:=fun h=>hall (List.all_eq_true.2 h)
    obtain⟨x,hx⟩:=Classical.not_forall.1 this
    obtain⟨hx,hy⟩:=Classical.not_imp.1 hx
    exact⟨x,hx,by simpa using hy⟩
  have hi0:l.findIdx (fun x=>decide (x.2=0))<l.length:=List.findIdx_lt_length_of_exists hex
  obtain⟨i0,hI⟩:∃i0,i0=l.findIdx (fun x=>decide (x.2=0)):=⟨_,rfl⟩
  rw[<-hI]at e1 hi0
  have hv0:(l[i0]).2=0:=by
    have:=List.findIdx_getElem (w:=by rw[<-hI];exact hi0) (xs:=l) (p:=fun x=>decide (x.2=0))
    simp only[<-hI]at this
    simpa using this
  have hlow:flt0 (l.take i0)=l.take i0:=by
    unfold flt0
    refine List.filter_eq_self.2 fun x hx=>?_
    obtain⟨j,hj,rfl⟩:=List.getElem_of_mem hx
    rw[List.length_take]at hj
    have:=List.not_of_lt_findIdx (xs:=l) (p:=fun x=>decide (x.2=0)) (i:=j) (by rw[<-hI];omega)
    rw[List.getElem_take]
    simpa using this
  have hst:flt0 (l.take (i0+1))=l.take i0:=by
    rw[Qh0 (List.getElem?_eq_getElem hi0),if_pos hv0,hlow]
  have hne:¬(i0:Int)= -1:=by omega
  simp(disch:=first|omega|(simp only[lenW]<;>omega)) only[e1,hne,Bool.not_eq_true,wW,wV,simprocAttr]
  refine QaJ 110 (fun t:Nat×Nat×List (Nat×Int)=>[(0,.sl 97 0 0 l.length 2),(1,.fn 94 [] []),(5,.int .i64 t.2.1),(6,.int .i64 t.1)])
    (fun t=>[(97,.cells 0 (t.2.2.flatMap teC))]) (fun t=>t.1<=l.length/\t.2.1<t.1/\t.2.2.length=l.length/\t.2.2.take t.2.1=flt0 (l.take t.1)/\t.2.2.drop t.1=l.drop t.1) (fun t=>l.length-t.1)
    (i0+1,i0,l) ⟨[(97,.nil)],rfl,au0,au11,au12⟩ ⟨by dsimp only;omega,by dsimp only;omega,rfl,hst.symm,rfl⟩ ?_
  rintro⟨j,i,C⟩ ⟨hj,hij,hC,hT,hD⟩
  dsimp only at hj hij hC hT hD⊢
  have hCl:=QcR C
  by_cases hlt:j<l.length
  · obtain ⟨v, hv⟩ := Qak hlt
    have hvC:C[j]?=some v:=by
      have:(C.drop j)[0]?=(l.drop j)[0]?:=by rw[hD]
      simpa[hv]using this
    have hs:=Qh0 hv
    have hn2:=zero94 v
    have g1:j*2+2<=l.length*2:=by omega
    have g2:i*2+2<=l.length*2:=by omega
    by_cases hm:v.2=0
    · have e2 : decide (v.2 = 0) = true := by simp [hm]
      rw[e2]at hn2
      rw[if_pos hm]at hs
      simp(disch:=first|omega|(simp only[lenW]<;>omega)) only[hlt,hC,hCl,g1,Qc6 hvC,Bool.not_eq_true,wW,wV,simprocAttr]
      refine chc (hn2.toH _) ?_
      simp(disch:=first|omega|(simp only[lenW]<;>omega)) only[Bool.not_eq_true,wW,wV,simprocAttr]
      refine⟨(j+1,i,C),by dsimp only;omega,⟨by dsimp only;omega,by dsimp only;omega,hC,by rw[hs];exact hT,?_⟩,?_⟩
      · dsimp only
        have:=congrArg (List.drop 1) hD
        simpa[List.drop_drop]using this
      · exact⟨[(97,.nil)],rfl,au0,au11,au12⟩
    · have e2 : decide (v.2 = 0) = false := by simp [hm]
      rw[e2]at hn2
      rw[if_neg hm]at hs
      simp(disch:=first|omega|(simp only[lenW]<;>omega)) only[hlt,hC,hCl,g1,Qc6 hvC,Bool.not_eq_true,wW,wV,simprocAttr]
      refine chc (hn2.toH _) ?_
      have hil:i<l.length:=by omega
      simp(disch:=first|omega|(simp only[lenW]<;>omega)) only[hil,hC,hCl,g2,QmM (l:=C) (i:=i) (x:=v) (by omega),Bool.not_eq_true,wW,wV,simprocAttr]
      refine⟨(j+1,i+1,C.set i v),by dsimp only;omega,⟨by dsimp only;omega,by dsimp only;omega,by simp[hC],?_,?_⟩,?_⟩
      · dsimp only
        rw[hs,<-hT,List.take_add_one,List.getElem?_set_self (by omega),List.take_set,List.set_eq_of_length_le (by rw[List.length_take];omega)];rfl
      · dsimp only
        rw[List.drop_set_of_lt (by omega)]
        have:=congrArg (List.drop 1) hD
        simpa[List.drop_drop]using this
      · exact⟨[(97,.nil)],rfl,au0,au11,au12⟩
  · have ej : j = l.length := by omega
    subst ej
    rw[List.take_length]at hT
    have hil:(i:Int)<=(l.length:Int):=by omega
    simp(disch:=first|omega|(simp only[lenW]<;>omega)) only[hlt,hil,Bool.not_eq_true,wW,wV,simprocAttr]
    refine Qjt gg (by omega) (by rw[hCl,hC];omega) rfl (by decide) (by decide) ?_
    simp(disch:=first|omega|(simp only[lenW]<;>omega)) only[hil,Bool.not_eq_true,wW,wV,simprocAttr]
    refine⟨.inr trivial,_,rfl,?_⟩
    have hfl:(flt0 l).length=i:=by rw[<-hT,List.length_take];omega
    have hput:putR (C.flatMap teC) (i*2) (List.replicate (l.length-i) [AV.int .i64 0,AV.int .i64 0]).flatten=(delT l).flatMap teC:=by
      rw[QdJ (by rw[hCl,hC];omega),QmN,QgZ,hT]
      unfold delT
      rw[hfl,List.flatMap_append,List.drop_of_length_le (by rw[hCl,hC,QcR,List.length_replicate];omega),List.append_nil]
    rw[hfl,hput]
    exact⟨[(97,.nil)],rfl,au0,au11,au12⟩
end Go.AM.SU
namespace Go.AM.SO
open Go.Proofs Go.AM.SD Go.AM.SE
theorem convB1 {P:Program} {N:NM} {d:Option Nat} {r:List SOper} {dead:List Nat} {fs:List Fr} {n:Nat} {T:Tmps} {h:Heap} {Q:QC} {b g x:Nat} (hb:h.get b=some (.cells g [.int .u8 (x:Int)]))
  (hk:wR P N r dead fs (n+1) (putD T d (.str [UInt8.ofNat x])) h Q):wM P N (aConvB (.sl b g 0 1 1)) d r dead fs n T h Q:=by
 refine⟨_,h,?_,hk⟩
 have hg:Nat.beq g g=true:=by simp
 simp[aConvB,aSrc,HM.cells,HM.run,hb,hg,bytesOf]
theorem Qcq (F:List Nat) (i:Nat):noRefs (evP F i)=true:=by
 unfold evP
 exact QaW (fun j=>rfl) _
theorem _root_.Go.AM.au13 {p:Prop} (h:p:=by repeat (first|exact RT.nil|(refine RT.cons ?_ ?_; · (first|exact Rn.any|exact Rn.x1 rfl rfl|exact Rn.x2 rfl rfl|exact Rn.x3 rfl rfl|exact Rn.x4 rfl rfl|exact Rn.x5 rfl|exact Rn.x6 rfl|exact Rn.x7 rfl|(refine Rn.slot ?_ ?_;(first|rfl|(rw[Int.natCast_add];rfl));(first|rfl|(simp only[noRef,noRefs,Qai,Bool.and_self,Bool.and_true,Bool.true_and,Qaa,Qay,Qab,Qaw];done)))|(refine Rn.fn ?_ ?_<;>(repeat' (first|exact RnL.nil|refine RnL.cons ?_ ?_|exact Rn.same rfl|exact Rn.x6 rfl|exact Rn.x2 rfl rfl|exact Rn.x5 rfl|exact Rn.x1 rfl rfl))))))):p:=h
theorem events88 (F : List Nat) (hF : F.length = 5) (h256 : ∀ i, F.getD i 0 < 256) : PSpec Tryz.prog 88 [.agg (u8s F)] (.fsl (evP F 5) 5 5) := by
  refine PSpec.of_rn 64 ok88 rfl (by simp only[noRefs,noRef,Qaw];rfl) (by simp only[noRef];exact Qcq _ _) ?_
  simp(disch:=first|omega|exact PairsOK.mk rfl|(simp only[lenW]<;>omega)) only[s88,wW,wV,simprocAttr]
  refine QaJ 100 (fun i:Nat=>[(1,.ptr 64 0 0),(3,.sl 50 0 0 i 5),(4,.int .i64 i)]) (fun i=>[(50,.cells 0 (evP F i)),(64,.cells 0 (u8s F))]) (fun i=>i<=5) (fun i=>5-i) 0 ⟨[(50,.nil),(64,.blk 64 0)],rfl,au0,?_,au13⟩ (Nat.zero_le _) ?_
  · exact RB.newnil rfl rfl (RB.cells rfl rfl rfl (RnL.same (Qaw _)) RB.nil)
  rintro i hi
  by_cases hlt:i<5
  · have hlt2 : (i : Int) < 5 := by omega
    have hu:(u8s F)[i]?=some (.int .u8 ((F.getD i 0:Nat):Int)):=Qgu (by rw[List.getElem?_eq_getElem (by omega)];simp[List.getD,List.getElem?_eq_getElem (show i<F.length by omega)])
    have hb:=h256 i
    have hs:=@Qjm F i
    have hl:=@QgV F i
    generalize F.getD i 0=b at hu hb hs
    have e97:wr .u8 ((97:Int)+(i:Int))=((97+i:Nat):Int):=by rw[wr_u8 (by omega) (by omega)];omega
    simp(disch:=first|omega|exact PairsOK.mk rfl|(simp only[lenW]<;>omega)) only[hlt2,hu,hl,e97,Qne,wW,wV,simprocAttr]
    refine convB1 gg ?_
    have k1:((97+i:Nat):Int)=((97+i:Nat):Int):=rfl
    by_cases h48:48<=b/\b<52
    · have k2 : (48 : Int) <= (b : Int) := by omega
      have k3:(b:Int)<52:=by omega
      have k4:(b:Int)-47=((b-47:Nat):Int):=by omega
      have ev:evP F i++[.str [UInt8.ofNat (97+i)],.bool false,.bool false,.bool false,.int .i64 ((b-47:Nat):Int)]=evP F (i+1):=by
        rw[hs];simp[evC,evOf,h48]
      simp(disch:=first|omega|exact PairsOK.mk rfl|(simp only[lenW]<;>omega)) only[hlt2,hu,hl,k2,k3,k4,wW,wV,simprocAttr]
      refine⟨i+1,by omega,by omega,?_⟩
      rw[ev]
      refine⟨[(50,.blk 50 1),(64,.blk 64 0)],rfl,au0,?_,au13⟩
      exact RB.cells rfl rfl gg (RnL.same (Qcq _ _)) (RB.cells rfl rfl gg (RnL.same (Qaw _)) RB.nil)
    · have ev : evP F i ++ [.str [UInt8.ofNat (97 + i)], .bool (decide (b &&& 1 = 1)), .bool (decide (b &&& 2 = 2)), .bool (decide (b &&& 4 = 4)), .int .i64 0] = evP F (i + 1) := by
        rw[hs];simp[evC,evOf,h48]
      have d1:decide (((b&&&1:Nat):Int)=1)=decide (b&&&1=1):=decide_eq_decide.2 (by omega)
      have d2:decide (((b&&&2:Nat):Int)=2)=decide (b&&&2=2):=decide_eq_decide.2 (by omega)
      have d4:decide (((b&&&4:Nat):Int)=4)=decide (b&&&4=4):=decide_eq_decide.2 (by omega)
      have a1:=QmE hb
      have a2:=QmF hb
      have a4:=QmG hb
      by_cases h5:48<=b
      · have k3 : (48 : Int) <= (b : Int) := by omega
        have k4:¬(b:Int)<52:=by omega
        simp(disch:=first|omega|exact PairsOK.mk rfl|(simp only[lenW]<;>omega)) only[hlt2,hu,hl,k3,k4,a1,a2,a4,d1,d2,d4,wW,wV,simprocAttr]
        refine⟨i+1,by omega,by omega,?_⟩
        rw[ev]
        refine⟨[(50,.blk 50 1),(64,.blk 64 0)],rfl,au0,?_,au13⟩
        exact RB.cells rfl rfl gg (RnL.same (Qcq _ _)) (RB.cells rfl rfl gg (RnL.same (Qaw _)) RB.nil)
      · have k3 : ¬ (48 : Int) <= (b : Int) := by omega
        simp(disch:=first|omega|exact PairsOK.mk rfl|(simp only[lenW]<;>omega)) only[hlt2,hu,hl,k3,a1,a2,a4,d1,d2,d4,wW,wV,simprocAttr]
        refine⟨i+1,by omega,by omega,?_⟩
        rw[ev]
        refine⟨[(50,.blk 50 1),(64,.blk 64 0)],rfl,au0,?_,au13⟩
        exact RB.cells rfl rfl gg (RnL.same (Qcq _ _)) (RB.cells rfl rfl gg (RnL.same (Qaw _)) RB.nil)
  · have hlt2 : ¬ (i : Int) < 5 := by omega
    have e:i=5:=by omega
    subst e
    simp(disch:=first|omega|exact PairsOK.mk rfl|(simp only[lenW]<;>omega)) only[hlt2,wW,wV,simprocAttr]
    refine⟨.inr trivial,_,rfl,?_⟩
    exact Rn.fz0 rfl QgV (RnL.same (Qcq _ _))
end Go.AM.SO
namespace Go.AM.ST
open Go.Proofs Go.AM.SD
noncomputable section
def bitsL (s:Nat):List Nat:=(List.range 5).filter fun i=>s.testBit i
def isV (v:AV) (u:AV):Bool:=eqAV u v
theorem QmO {v:AV}:∀u,isV v u=true->u=v:=fun u h=>Qcy _ _ h
def unionB (a b:Nat):Bool:=callR ansB noOrc SK.ft.get (exR ansB noOrc SK.ft.get 1000) (.c .pure) 90 [sliN (bitsL a),sliN (bitsL b)] .e 64 (fun u _ _=>isV (sliN (bitsL (a|||b))) u)
theorem QnC {a b:Nat} (h:unionB a b=true):PSpec Tryz.prog 90 [sliN (bitsL a),sliN (bitsL b)] (sliN (bitsL (a|||b))):=
 Qbl (t:=SK.ft) SK.ft_ok QcE (d:=1000) (isV _) QmO h
end
end Go.AM.ST
namespace Go.AM.ST
open Go.Proofs Go.AM.SD
noncomputable section
def rowB (a n:Nat):Bool:=@Nat.rec (fun _=>Bool) true (fun b ih=>ifB (unionB a b) ih false) n
theorem row_1:rowB 1 32=true:=by kernel_rfl
theorem row_2:rowB 2 32=true:=by kernel_rfl
theorem row_3:rowB 3 32=true:=by kernel_rfl
theorem row_4:rowB 4 32=true:=by kernel_rfl
theorem row_5:rowB 5 32=true:=by kernel_rfl
theorem row_6:rowB 6 32=true:=by kernel_rfl
theorem row_7:rowB 7 32=true:=by kernel_rfl
theorem row_8:rowB 8 32=true:=by kernel_rfl
theorem row_9:rowB 9 32=true:=by kernel_rfl
theorem QoZ:rowB 10 32=true:=by kernel_rfl
theorem Qo0:rowB 11 32=true:=by kernel_rfl
theorem Qo1:rowB 12 32=true:=by kernel_rfl
theorem Qo2:rowB 13 32=true:=by kernel_rfl
theorem Qo3:rowB 14 32=true:=by kernel_rfl
theorem Qo4:rowB 15 32=true:=by kernel_rfl
theorem Qo5:rowB 16 32=true:=by kernel_rfl
theorem Qo6:rowB 17 32=true:=by kernel_rfl
theorem Qo7:rowB 18 32=true:=by kernel_rfl
theorem Qo8:rowB 19 32=true:=by kernel_rfl
theorem Qo9:rowB 20 32=true:=by kernel_rfl
theorem Qpa:rowB 21 32=true:=by kernel_rfl
theorem Qpb:rowB 22 32=true:=by kernel_rfl
theorem Qpc:rowB 23 32=true:=by kernel_rfl
theorem Qpd:rowB 24 32=true:=by kernel_rfl
theorem Qpe:rowB 25 32=true:=by kernel_rfl
theorem Qpf:rowB 26 32=true:=by kernel_rfl
theorem Qpg:rowB 27 32=true:=by kernel_rfl
theorem Qph:rowB 28 32=true:=by kernel_rfl
theorem Qpi:rowB 29 32=true:=by kernel_rfl
theorem Qpj:rowB 30 32=true:=by kernel_rfl
theorem Qpk:rowB 31 32=true:=by kernel_rfl
theorem QmP {a:Nat}:∀{n b:Nat},rowB a n=true->b<n->unionB a b=true
 |0,_,_,h=>absurd h (Nat.not_lt_zero _)
 | n + 1, b, hr, hb => by
  have e:rowB a (n+1)=ifB (unionB a n) (rowB a n) false:=rfl
  rw[e,Qaq]at hr
  split at hr
  ·rename_i h
   rcases Nat.lt_succ_iff_lt_or_eq.1 hb with h1|rfl
   ·exact QmP hr h1
   ·exact h
  ·cases hr
theorem Qlt {a b:Nat} (ha:0<a) (ha2:a<32) (hb:b<32):PSpec Tryz.prog 90 [sliN (bitsL a),sliN (bitsL b)] (sliN (bitsL (a|||b))):=by
 have h:rowB a 32=true:=by
  have:a=1\/a=2\/a=3\/a=4\/a=5\/a=6\/a=7\/a=8\/a=9\/a=10\/a=11\/a=12\/a=13\/a=14\/a=15\/a=16\/a=17\/a=18\/a=19\/a=20\/a=21\/a=22\/a=23\/a=24\/a=25\/a=26\/a=27\/a=28\/a=29\/a=30\/a=31:=by omega
  rcases this with rfl|rfl|rfl|rfl|rfl|rfl|rfl|rfl|rfl|rfl|rfl|rfl|rfl|rfl|rfl|rfl|rfl|rfl|rfl|rfl|rfl|rfl|rfl|rfl|rfl|rfl|rfl|rfl|rfl|rfl|rfl
  ·exact row_1
  ·exact row_2
  ·exact row_3
  ·exact row_4
  ·exact row_5
  ·exact row_6
  ·exact row_7
  ·exact row_8
  ·exact row_9
  ·exact QoZ
  ·exact Qo0
  ·exact Qo1
  ·exact Qo2
  ·exact Qo3
  ·exact Qo4
  ·exact Qo5
  ·exact Qo6
  ·exact Qo7
  ·exact Qo8
  ·exact Qo9
  ·exact Qpa
  ·exact Qpb
  ·exact Qpc
  ·exact Qpd
  ·exact Qpe
  ·exact Qpf
  ·exact Qpg
  ·exact Qph
  ·exact Qpi
  ·exact Qpj
  ·exact Qpk
 exact QnC (QmP h hb)
end
end Go.AM.ST
