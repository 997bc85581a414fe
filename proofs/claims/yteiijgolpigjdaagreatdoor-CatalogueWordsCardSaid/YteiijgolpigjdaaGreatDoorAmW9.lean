/- A part of the proof of CatalogueWordsCardSaid: lemmas on the way (AmS, AmNa, AmYa). Conditions: none of ours. -/
import Derived.Test.YteiijgolpigjdaaGreatDoorAmW8
set_option linter.unusedSectionVars false
set_option maxHeartbeats 32000000
set_option maxRecDepth 100000
set_option linter.unusedVariables false
set_option linter.unusedSimpArgs false
namespace Go.AM
variable {P:Program}
noncomputable section
variable {α:Type}
inductive CM where
 |c (m:CallM)
 |rnd (g:Nat)
 |give (b g:Nat) (xs:List AV)
 |new
 |fr (hB:Heap)
abbrev CallerA (α:Type):=CM->Nat->List AV->Heap->Nat->(AV->Heap->Nat->α)->α
abbrev KcA (α:Type):=SX->Tmps->Heap->Nat->α
def evsK (T:Tmps) (xs:List Opd) (k:List AV->α):α:=
 @List.rec Opd (fun _=>(List AV->α)->α) (fun k=>k []) (fun x _ ih k=>evK T x fun v=>ih fun vs=>k (v::vs)) xs k
theorem Qim (T:Tmps) (xs:List Opd) (k:List AV->α):evsK T xs k=k (evs T xs):=by
 have:∀(xs:List Opd) (k:List AV->α),@List.rec Opd (fun _=>(List AV->α)->α) (fun k=>k []) (fun x _ ih k=>evK T x fun v=>ih fun vs=>k (v::vs)) xs k=k (evs T xs):=by
  intro xs
  induction xs with
  |nil=>intro k;rfl
  |cons x r ih=>
   intro k
   show evK T x (fun v=>@List.rec Opd (fun _=>(List AV->α)->α) (fun k=>k []) (fun x _ ih k=>evK T x fun v=>ih fun vs=>k (v::vs)) r fun vs=>k (v::vs))=_
   rw[Qbm];exact ih _
 exact this xs k
def iaddrR (A:Ans α) (arr:Option Nat) (sz:Nat) (x i:AV) (k:AV->α):α:=
 match i with
 | .int _ (.ofNat j) => (match arr with
  |none=>(match x with
   | .sl b g off len s=>ifB (Nat.ble (Nat.succ j) len&&Nat.beq s sz) (fNat (Nat.add off (Nat.mul j sz)) fun o=>k (.ptr b g o)) A.bad
   | .fsl cs len s=>ifB (Nat.ble (Nat.succ j) len&&Nat.beq s sz) (fNat (Nat.mul j sz) fun o=>dropR cs o fun cs=>k (.fptr cs)) A.bad
   |_=>A.bad)
  |some m=>(match x with
   | .ptr b g off=>ifB (Nat.ble (Nat.succ j) m) (fNat (Nat.add off (Nat.mul j sz)) fun o=>k (.ptr b g o)) A.bad
   | .fptr cs=>ifB (Nat.ble (Nat.succ j) m) (fNat (Nat.mul j sz) fun o=>dropR cs o fun cs=>k (.fptr cs)) A.bad
   |_=>A.bad))
 |_=>A.bad
theorem Qos (A:Ans α) (arr:Option Nat) (sz:Nat) (x i:AV) (k:AV->α):iaddrR A arr sz x i k=A.bad\/∃v,aIAddr arr sz x i=some v/\iaddrR A arr sz x i k=k v:=by
 unfold iaddrR
 split
 ·rename_i kd j
  have cond2:∀(len s:Nat),(Nat.ble (Nat.succ j) len&&Nat.beq s sz)=true->((0:Int)<=Int.ofNat j/\Int.ofNat j<(len:Int)/\s=sz):=by
   intro len s h
   simp only[Bool.and_eq_true]at h
   refine⟨Int.natCast_nonneg j,Int.ofNat_lt.2 (Nat.le_of_ble_eq_true h.1),by simpa using h.2⟩
  have cond1:∀(len:Nat),Nat.ble (Nat.succ j) len=true->((0:Int)<=Int.ofNat j/\Int.ofNat j<(len:Int)):=by
   simp_all
  split
  ·split
   ·rw [QaI]; split
    ·simp_all [aIAddr,Qbv]
    simp_all
   ·rw [QaI]; split
    ·simp_all [aIAddr,Qbv,Qhe]
    simp_all
   simp_all
  ·split
   ·rw [QaI]; split
    ·simp_all [aIAddr,Qbv]
    simp_all
   ·rw [QaI]; split
    ·simp_all [aIAddr,Qbv,Qhe]
    simp_all
   simp_all
 simp_all
def convR (A:Ans α) (kd:IntKind) (x:AV) (k:AV->α):α:=
 match x with
 | .int _ (.ofNat m)=>ifB (Nat.ble m (hiN kd)) (k (.int kd (.ofNat m))) (optR A (aConv kd x) k)
 |_=>optR A (aConv kd x) k
theorem QpH (A:Ans α) (kd:IntKind) (x:AV) (k:AV->α):convR A kd x k=match aConv kd x with|some v=>k v|none=>A.bad:=by
 refine Eq.trans (b:=optR A (aConv kd x) k) ?_ (by cases aConv kd x with|none=>rfl|some v=>exact Qc5 v k)
 unfold convR
 split
 ·grind [QaI,QfD,QhQ,Nat.le_of_ble_eq_true,QbK]
 ·rfl
def opR (A:Ans α) (call:CallerA α) (i:Nat) (s:SOp) (T:Tmps) (h:Heap) (n:Nat) (k:AV->Heap->Nat->α):α:=
 match s with
 | .mov x=>evK T x fun v=>k v h n
 | .bin op x y=>evK T x fun a=>evK T y fun b=>binR A op a b fun v=>k v h n
 | .load m x=>evK T x fun a=>loadR A m a h fun v=>k v h n
 | .store m x v=>evK T x fun a=>evK T v fun v=>storeR A m a v h fun u h=>k u h n
 | .iaddr arr sz x j=>evK T x fun a=>evK T j fun j=>iaddrR A arr sz a j fun v=>k v h n
 | .faddr off x=>evK T x fun a=>optR A (aFAddr off a) fun v=>k v h n
 | .conv kd x=>evK T x fun a=>convR A kd a fun v=>k v h n
 | .extract j x=>evK T x fun a=>(match a with
  | .tup vs=>nthR A vs j fun v=>k v h n
  |_=>A.bad)
 | .pick c a b=>evK T c fun c=>(match c with
  | .bool t=>ifB t (evK T a fun v=>k v h n) (evK T b fun v=>k v h n)
  |_=>A.bad)
 | .un .not x=>evK T x fun a=>(match a with
  | .bool t=>ifB t (k (.bool false) h n) (k (.bool true) h n)
  |_=>A.bad)
 | .len 1 x => evK T x fun a => (match a with
  | .sl _ _ _ len _=>k (.int .i64 (.ofNat len)) h n
  | .fsl _ len _=>k (.int .i64 (.ofNat len)) h n
  | .nilsl=>k (.int .i64 (.ofNat 0)) h n
  |_=>runR A (aop i T s) h fun out h2=>(match out with
   | .val v=>fAV v fun v=>k v h2 n
   |_=>A.bad))
 | .call m x args => evK T x fun f => (match f with
  | .fn f first captured=>evsK T args fun asg=>(match m with
   | .heap=>fList (first++asg++captured) fun asg=>call (.c .heap) f asg h n k
   | .pure=>fList (first++asg++captured) fun asg=>call (.c .pure) f asg h n fun v _ n=>k v h n
   | .borrow=>runR A (mapH (frzH 4) (first++asg++captured)) h fun asg h2=>call (.c .borrow) f asg h2 n fun v _ n=>ifB (flatV v) (k v h2 n) A.bad)
  | .yld b g=>(match m with
   | .heap=>evsK T args fun asg=>fList asg fun asg=>call (.rnd g) b asg h n k
   |_=>A.bad)
  |_=>A.bad)
 |s=>runR A (aop i T s) h fun out h2=>(match out with
  | .val v=>fAV v fun v=>k v h2 n
  |_=>A.bad)
theorem Qnp {m:Option Nat} {x v:AV} {h h':Heap} (hm:(aLoad m x).run h=some (v,h')):h'=h:=by
 cases x with
 | ptr b g off =>
  simp only[aLoad]at hm
  obtain⟨cs,_,hm⟩:=Qbg hm
  cases m with
  |none=>
   cases hc:cs[off]? with
   |none=>simp[hc,HM.opt,HM.run]at hm
   |some u=>simp only[hc,HM.opt,HM.run,Option.some.injEq,Prod.mk.injEq]at hm;exact hm.2.symm
  |some m=>
   simp only at hm
   split at hm
   ·simp_all [HM.run]
   ·simp[HM.run]at hm
 | fptr cs =>
  simp only[aLoad]at hm
  cases m with
  |none=>
   cases cs with
   |nil=>simp[HM.opt,HM.run]at hm
   |cons u cs=>simp only[HM.opt,List.head?_cons,HM.run,Option.some.injEq,Prod.mk.injEq]at hm;exact hm.2.symm
  |some m=>
   simp only at hm
   split at hm
   ·simp_all [HM.run]
   ·simp[HM.run]at hm
 |_=>simp[aLoad,HM.run]at hm
def stepFP (i:Nat) (s:SOp) (T:Tmps) (h:Heap):FP:=
 match s with
 | .call .heap _ _=>⟨true,[],[]⟩
 |s=>fpOf ((aop i T s).fp h)
def CallOKA (P:Program) (A:Ans α) (call:CallerA α):Prop:=∀(m:CallM) (f:Nat) (args:List AV) (h:Heap) (n:Nat) (k:AV->Heap->Nat->α),A.holds (call (.c m) f args h n k)->
 ∃v h' n',A.holds (k v h' n')/\(m= .heap->HSpec P f args h v h')/\(m≠ .heap->PSpec P f args v)
def RndOK (P:Program) (A:Ans α) (call:CallerA α):Prop:=∀(g b:Nat) (args:List AV) (h:Heap) (n:Nat) (k:AV->Heap->Nat->α),A.holds (call (.rnd g) b args h n k)->
 ∃v h' n',A.holds (k v h' n')/\RSpec P b g args h v h'
section
variable {A:Ans α} (hA:A.OK) {call:CallerA α} (hc:CallOKA P A call) (hrn:RndOK P A call)
include hA hc hrn
theorem Qja {i : Nat} {s : SOp} {T : Tmps} {h : Heap} {n : Nat} {k : AV -> Heap -> Nat -> α} (hx : A.holds (opR A call i s T h n k)) :
  ∃v h1 n',A.holds (k v h1 n')/\StepX P i s T h v h1 (stepFP i s T h):=by
 have lft:∀{s:SOp} {o:Option AV} {v:AV},(∀m x a,s≠ .call m x a)->aop i T s=lift o->o=some v->StepX P i s T h v h (stepFP i s T h):=by
  intro s o v hs e ho
  refine⟨.val v,h,by rw[e,ho];rfl,rfl,rfl,?_⟩
  cases s<;>first|rfl|(exact absurd rfl (hs _ _ _))
 have hvl:∀{s:SOp} {m:HM AV} {v:AV} {h1:Heap},(∀m x a,s≠ .call m x a)->aop i T s=hval m->m.run h=some (v,h1)->StepX P i s T h v h1 (stepFP i s T h):=by
  intro s m v h1 hs e hm
  refine⟨.val v,h1,by grind [run_hval'],rfl,rfl,?_⟩
  cases s<;>first|rfl|(exact absurd rfl (hs _ _ _))
 have dflt:∀{s:SOp},(∀m x a,s≠ .call m x a)->A.holds (runR A (aop i T s) h fun out h2=>(match out with
   | .val v=>fAV v fun v=>k v h2 n
   |_=>A.bad))->∃v h1 n',A.holds (k v h1 n')/\StepX P i s T h v h1 (stepFP i s T h):=by
  intro s hs hx
  rw[QcR]at hx
  cases hr:(aop i T s).run h with
  |none=>rw[hr]at hx;exact absurd hx hA.bad
  | some r =>
   obtain⟨out,h2⟩:=r
   rw[hr]at hx
   cases out with
   |call m f asg=>exact absurd hx hA.bad
   |round b g asg=>exact absurd hx hA.bad
   |val v=>
    simp only[Qc5]at hx
    refine⟨v,h2,n,hx,.val v,h2,hr,rfl,rfl,?_⟩
    cases s<;>first|rfl|(exact absurd rfl (hs _ _ _))
 unfold opR at hx
 split at hx
 ·rw [Qbm] at hx
  exact⟨_,h,n,hx,lft (by simp) (o:=some _) rfl rfl⟩
 ·rw [Qbm, Qbm, QqB] at hx
  split at hx
  ·rename_i hv;exact⟨_,h,n,hx,lft (by simp) rfl hv⟩
  ·exact absurd hx hA.bad
 ·rw [Qbm, QkI] at hx
  split at hx
  ·rename_i v h' hv
   have:h'=h:=Qnp hv
   subst this
   exact⟨v,h',n,hx,hvl (by simp) rfl hv⟩
  ·exact absurd hx hA.bad
 ·rw [Qbm, Qbm, Qor] at hx
  split at hx
  ·rename_i hv;exact⟨_,_,n,hx,hvl (by simp) rfl hv⟩
  ·exact absurd hx hA.bad
 ·rw [Qbm, Qbm] at hx
  rcases Qos A _ _ _ _ (fun v=>k v h n)with e|⟨v,hv,e⟩
  ·rw[e]at hx;exact absurd hx hA.bad
  ·rw[e]at hx;exact⟨v,h,n,hx,lft (by simp) rfl hv⟩
 ·rw [Qbm, QbK] at hx
  split at hx
  ·rename_i hv;exact⟨_,h,n,hx,lft (by simp) rfl hv⟩
  ·exact absurd hx hA.bad
 ·rw [Qbm, QpH] at hx
  split at hx
  ·rename_i hv;exact⟨_,h,n,hx,lft (by simp) rfl hv⟩
  ·exact absurd hx hA.bad
 ·rw [Qbm] at hx
  split at hx
  ·rename_i vs hv
   rw[Qmx]at hx
   split at hx
   ·rename_i hj
    exact⟨_,h,n,hx,lft (by simp) rfl (by rw[hv];exact hj)⟩
   ·exact absurd hx hA.bad
  ·exact absurd hx hA.bad
 ·rw [Qbm] at hx
  split at hx
  ·rename_i t hv
   rw[QaI,Qbm,Qbm]at hx
   split at hx
   ·rename_i ht;exact⟨_,h,n,hx,lft (by simp) rfl (by rw[hv,ht];rfl)⟩
   ·rename_i ht;exact⟨_,h,n,hx,lft (by simp) rfl (by rw[hv];simp at ht;rw[ht];rfl)⟩
  ·exact absurd hx hA.bad
 ·rw [Qbm] at hx
  split at hx
  ·rename_i t hv
   rw[QaI]at hx
   split at hx
   ·rename_i ht;exact⟨_,h,n,hx,lft (by simp) rfl (by rw[hv,ht];rfl)⟩
   ·rename_i ht;exact⟨_,h,n,hx,lft (by simp) rfl (by rw[hv];simp at ht;rw[ht];rfl)⟩
  ·exact absurd hx hA.bad
 ·rw [Qbm] at hx
  split at hx
  ·rename_i hv;exact⟨_,h,n,hx,hvl (m:= .ret _) (by simp) (by show hval (aLenC 1 (ev T _))=_;rw[hv];rfl) rfl⟩
  ·rename_i hv;exact⟨_,h,n,hx,hvl (m:= .ret _) (by simp) (by show hval (aLenC 1 (ev T _))=_;rw[hv];rfl) rfl⟩
  ·rename_i hv;exact⟨_,h,n,hx,hvl (m:= .ret _) (by simp) (by show hval (aLenC 1 (ev T _))=_;rw[hv];rfl) rfl⟩
  simp_all
 ·rename_i m x args
  rw[Qbm]at hx
  split at hx
  ·rename_i f first captured hv
   rw[Qim]at hx
   have e:aop i T (.call m x args)=aCall m (.fn f first captured) (evs T args):=by rw[<-hv];rfl
   cases m with
   |heap=>
    simp only[QcI]at hx
    obtain⟨v,h1,n',hk,hs,_⟩:=hc _ _ _ _ _ _ hx
    exact⟨v,h1,n',hk,.call .heap f (first++evs T args++captured),h,by rw[e];rfl,.inl ⟨hs rfl,rfl⟩⟩
   |pure=>
    simp only[QcI]at hx
    obtain⟨v,h1,n',hk,_,hs⟩:=hc _ _ _ _ _ _ hx
    exact⟨v,h,n',hk,.call .pure f (first++evs T args++captured),h,by rw[e];rfl,hs (by simp),rfl,rfl⟩
   | borrow =>
    simp only[QcR]at hx
    split at hx
    ·rename_i asg h2 hm
     obtain⟨v,h1,n',hk,_,hs⟩:=hc _ _ _ _ _ _ hx
     rw[QaI]at hk
     split at hk
     ·rename_i hf
      refine⟨v,h2,n',hk,.call .borrow f asg,h2,?_,hs (by simp),hf,rfl,rfl⟩
      rw[e]
      have:∀(m:HM (List AV)) (h:Heap) (k:List AV->AOut),m.run h=some (asg,h2)->(m.bind fun asg=> .ret (k asg)).run h=some (k asg,h2):=by
       intro m
       induction m with
       |ret a=>intro h k hm;simp only[HM.run,Option.some.injEq,Prod.mk.injEq]at hm;obtain⟨rfl,rfl⟩:=hm;rfl
       |fail=>intro h k hm;simp[HM.run]at hm
       |look b k' ih=>intro h k hm;exact ih _ h k hm
       |put b x k' ih=>
        intro h k hm
        obtain⟨hl,hm⟩:=Qa3 hm
        have:=ih _ k hm
        simp only[HM.bind,HM.run]
        have hl':Nat.blt b lim=true:=by simp_all
        rw[hl'];exact this
      exact this _ h (fun asg=> .call .borrow f asg) hm
     ·exact absurd hk hA.bad
    ·exact absurd hx hA.bad
  ·rename_i b g hv
   cases m with
   |heap=>
    rw[Qim]at hx
    simp only[QcI]at hx
    have e:aop i T (.call .heap x args)=aCall .heap (.yld b g) (evs T args):=by rw[<-hv];rfl
    obtain⟨v,h1,n',hk,hs⟩:=hrn _ _ _ _ _ _ hx
    exact⟨v,h1,n',hk,.round b g (evs T args),h,by rw[e];rfl,hs,rfl⟩
   |pure=>exact absurd hx hA.bad
   |borrow=>exact absurd hx hA.bad
  ·exact absurd hx hA.bad
 simp_all
end
def operR (A:Ans α) (call:CallerA α) (i:Nat) (s:SOper) (T:Tmps) (h:Heap) (n:Nat) (k:AV->Heap->Nat->α):α:=
 match s.guard with
 |none=>opR A call i s.op T h n k
 |some (g,want)=>lkK T g fun x=>(match x with
  | .bool b=>ifB want (ifB b (opR A call i s.op T h n k) (k (.tup []) h n)) (ifB b (k (.tup []) h n) (opR A call i s.op T h n k))
  | .tup []=>k (.tup []) h n
  |_=>A.bad)
def operFP (i:Nat) (s:SOper) (T:Tmps) (h:Heap):FP:=
 match s.guard with
 |none=>stepFP i s.op T h
 |some (g,want)=>match wantedA (lk T g) want with
  |some true=>stepFP i s.op T h
  |_=>⟨false,[],[]⟩
section
variable {A:Ans α} (hA:A.OK) {call:CallerA α} (hc:CallOKA P A call) (hrn:RndOK P A call)
include hA hc hrn
theorem QgF {i:Nat} {s:SOper} {T:Tmps} {h:Heap} {n:Nat} {k:AV->Heap->Nat->α} (hx:A.holds (operR A call i s T h n k)):
  ∃v h1 n',A.holds (k v h1 n')/\StepV P i s T h v h1 (operFP i s T h):=by
 unfold operR at hx
 unfold StepV operFP
 cases hg:s.guard with
 |none=>
  rw[hg]at hx
  obtain⟨v,h1,n',hk,hs⟩:=Qja hA hc hrn hx
  exact⟨v,h1,n',hk,hs⟩
 | some p =>
  obtain⟨g,want⟩:=p
  rw[hg]at hx
  simp only[QeB]at hx⊢
  split at hx
  ·rename_i b hb
   rw[hb]
   have run:A.holds (opR A call i s.op T h n k)->b=want->∃v h1 n',A.holds (k v h1 n')/\∃b',wantedA (.bool b) want=some b'/\if b'=true then StepX P i s.op T h v h1 (match wantedA (.bool b) want with|some true=>stepFP i s.op T h|_=>⟨false,[],[]⟩)else(v= .tup []/\h1=h/\(match wantedA (.bool b) want with|some true=>stepFP i s.op T h|_=>⟨false,[],[]⟩)=⟨false,[],[]⟩):=by
    grind [Qja,wantedA]
   have skip:A.holds (k (.tup []) h n)->b≠want->∃v h1 n',A.holds (k v h1 n')/\∃b',wantedA (.bool b) want=some b'/\if b'=true then StepX P i s.op T h v h1 (match wantedA (.bool b) want with|some true=>stepFP i s.op T h|_=>⟨false,[],[]⟩)else(v= .tup []/\h1=h/\(match wantedA (.bool b) want with|some true=>stepFP i s.op T h|_=>⟨false,[],[]⟩)=⟨false,[],[]⟩):=by
    grind [wantedA]
   simp only[QaI]at hx
   grind
  ·grind [wantedA]
  ·exact absurd hx hA.bad
end
def ownArg:List AV->Option (Nat×Nat)
 |[]=>none
 | .sl b g _ _ _::_=>some (b,g)
 |_::xs=>ownArg xs
def newR (A:Ans α) (call:CallerA α) (f:Nat) (args asg:List AV) (same:Bool) (R:List Nat) (i:Nat) (h:Heap) (n:Nat) (k:AV->Heap->Nat->FP->α):α:=
 ifB (noRefs asg) (call .new f asg h n fun v h' _ => (match v with
  | .sl b g off len sz=>getR h' b fun o=>(match o with
   | some (.cells g' cs) => ifB (Nat.beq g' g && Nat.ble off cs.length && Nat.ble (Nat.succ i) lim) (dropR cs off fun ys => ifB (flatVs ys || (noRefs ys && same)) (getR h i fun o => (match o with
     |none=>putBR A h i (.cells 0 ys) fun h1=>k (.sl i 0 0 len sz) h1 n ⟨false,i::R,[i]⟩
     |some _=>A.bad)) A.bad) A.bad
   |_=>A.bad)
  |v=>runR A (frzH 6 v) h' fun v _=>ifB (noRef v&&(flatV v||same)) (fAV v fun v=>k v h n ⟨false,R,[]⟩) A.bad)) A.bad
mutual
def refsV:AV->List Nat->List Nat
 | .ptr b _ _,acc=>b::acc
 | .sl b _ _ _ _,acc=>b::acc
 | .map b _,acc=>b::acc
 | .yld b _,acc=>b::acc
 | .agg cs,acc| .tup cs,acc| .fptr cs,acc| .fsl cs _ _,acc=>refsL cs acc
 | .fmap ks vs,acc=>refsL ks (refsL vs acc)
 | .fn _ x y,acc=>refsL x (refsL y acc)
 | .ifc _ v,acc=>refsV v acc
 | .typed _ _ v,acc=>refsV v acc
 |_,acc=>acc
termination_by structural x=>x
def refsL:List AV->List Nat->List Nat
 |[],acc=>acc
 |x::xs,acc=>refsV x (refsL xs acc)
termination_by structural x=>x
end
def refsE:List (AV×AV)->List Nat->List Nat
 |[],acc=>acc
 |p::r,acc=>refsV p.1 (refsV p.2 (refsE r acc))
def refsB (o:Option Blk) (acc:List Nat):List Nat:=
 match o with
 |some (.cells _ cs)=>refsL cs acc
 |some (.map _ es)=>refsE es acc
 |_=>acc
def fNats (l:List Nat) (k:List Nat->α):α:=
 @List.rec Nat (fun _=>(List Nat->α)->α) (fun k=>k []) (fun x _ ih k=>fNat x fun x=>ih fun l=>k (x::l)) l k
theorem Qhf (l:List Nat) (k:List Nat->α):fNats l k=k l:=by
 induction l generalizing k with
 |nil=>rfl
 |cons x r ih=>
  show fNat x (fun x=>fNats r fun l=>k (x::l))=_
  rw[Qbv,ih]
def closR (h:Heap) (d:Nat) (todo acc:List Nat) (k:List Nat->α):α:=
 @Nat.rec (fun _ => List Nat -> List Nat -> α) (fun _ acc => k acc) (fun _ ih todo acc => match todo with
  |[]=>k acc
  |b::todo=>ifB (hasB acc b) (ih todo acc) (getR h b fun o=>fNats (refsB o todo) fun todo=>ih todo (b::acc))) d todo acc
theorem Qhg (h:Heap):∀(d:Nat) (todo acc:List Nat) (k:List Nat->α),∃B,closR h d todo acc k=k B
 |0,todo,acc,k=>⟨acc,rfl⟩
 |d+1,[],acc,k=>⟨acc,rfl⟩
 | d + 1, b :: todo, acc, k => by
  have e:closR h (d+1) (b::todo) acc k=ifB (hasB acc b) (closR h d todo acc k) (getR h b fun o=>fNats (refsB o todo) fun todo=>closR h d todo (b::acc) k):=rfl
  rw[e,QaI]
  split
  ·exact Qhg h d todo acc k
  ·rw [QbJ, Qhf]
   exact Qhg h d _ _ k
def domK (t:Heap) (m o:Nat) (acc:List Nat) (k:List Nat->α):α:=
 @Tr.rec Blk (fun _ => Nat -> Nat -> List Nat -> (List Nat -> α) -> α) (fun _ _ acc k => k acc) (fun _ v _ il ir m o acc k =>
  fNat (Nat.mul 2 m) fun m2=>fNat (Nat.add m o) fun o1=>fNat (Nat.add m2 o) fun o2=>(match v with
   |some _=>il m2 o1 (o::acc) fun acc=>ir m2 o2 acc k
   |none=>il m2 o1 acc fun acc=>ir m2 o2 acc k)) t m o acc k
def domL:Heap->Nat->Nat->List Nat->List Nat
 | .e,_,_,acc=>acc
 | .n l v r,m,o,acc=>domL r (2*m) (2*m+o) (domL l (2*m) (m+o) (match v with|some _=>o::acc|none=>acc))
theorem Qin:∀(t:Heap) (m o:Nat) (acc:List Nat) (k:List Nat->α),domK t m o acc k=k (domL t m o acc)
 | .e,m,o,acc,k=>rfl
 | .n l v r, m, o, acc, k => by
  have e:domK (.n l v r) m o acc k=fNat (Nat.mul 2 m) fun m2=>fNat (Nat.add m o) fun o1=>fNat (Nat.add m2 o) fun o2=>(match v with
   |some _=>domK l m2 o1 (o::acc) fun acc=>domK r m2 o2 acc k
   |none=>domK l m2 o1 acc fun acc=>domK r m2 o2 acc k):=rfl
  rw[e]
  simp only[Qbv]
  cases v<;>simp only[Qin l,Qin r,domL]<;>rfl
theorem Qd4:∀(t:Heap) (m o:Nat) {acc:List Nat} {b:Nat},b∈acc->b∈domL t m o acc
 | .e,_,_,_,_,h=>h
 | .n l v r,m,o,acc,b,h=>by
  simp only[domL]
  refine Qd4 r _ _ (Qd4 l _ _ ?_)
  grind
theorem Qhh:∀(t:Heap) (m o:Nat) (acc:List Nat) (j:Nat),t.get j≠none->m*j+o∈domL t m o acc
 | .e,_,_,_,j,h=>absurd (by simp[Tr.get]) h
 | .n l v r, m, o, acc, j, h => by
  rw[Tr.get_n]at h
  simp only[domL]
  by_cases h0:j=0
  ·subst h0
   rw[if_pos rfl]at h
   refine Qd4 r _ _ (Qd4 l _ _ ?_)
   grind
  ·rw [if_neg h0] at h
   by_cases h1:j % 2=1
   ·rw [if_pos h1] at h
    refine Qd4 r _ _ ?_
    have:=Qhh l (2*m) (m+o) (match v with|some _=>o::acc|none=>acc) (j/2) h
    have e:2*m*(j/2)+(m+o)=m*j+o:=by
     have:j=2*(j/2)+1:=by omega
     grind
    simp_all
   ·rw [if_neg h1] at h
    have:=Qhh r (2*m) (2*m+o) (domL l (2*m) (m+o) (match v with|some _=>o::acc|none=>acc)) (j/2-1) h
    have e:2*m*(j/2-1)+(2*m+o)=m*j+o:=by
     have:j=2*(j/2-1)+2:=by omega
     grind
    simp_all
def overR (A:Ans α) (k1 h:Heap) (D:List Nat) (k:Heap->α):α:=
 @List.rec Nat (fun _ => Heap -> α) (fun h => k h) (fun b _ ih h => getR k1 b fun o => (match o with
  |some x=>putBR A h b x fun h=>ih h
  |none=>ih h)) D h
theorem QeV {A:Ans α} {k1:Heap}:∀{D:List Nat} {h:Heap} {k:Heap->α},(∀b∈D,b<lim)->overR A k1 h D k=k (over k1 h D)
 |[],h,k,_=>rfl
 | b :: D, h, k, hD => by
  have e:overR A k1 h (b::D) k=getR k1 b fun o=>(match o with
   |some x=>putBR A h b x fun h=>overR A k1 h D k
   |none=>overR A k1 h D k):=rfl
  rw[e,QbJ]
  simp only[over]
  cases k1.get b with
  |none=>exact QeV fun b hb=>hD b (by simp[hb])
  |some x=>
   simp only
   rw[QbR,if_pos (hD b (by simp))]
   exact QeV fun b hb=>hD b (by simp[hb])
def frR (A:Ans α) (call:CallerA α) (f:Nat) (asg:List AV) (h:Heap) (n:Nat) (k:AV->Heap->Nat->FP->α):α:=
 fNats (refsL asg []) fun todo=>closR h 100000 todo [] fun B=>ifB (allLim B&&inBs B asg&&B.all fun b=>blkIn B (h.get b)) (overR A h .e B fun hB=>call (.fr hB) f asg h n fun v k1 n2=>
  domK k1 1 0 [] fun D=>ifB (allLim D&&(D.all fun b=>hasB B b||(h.get b).isNone)&&(B.all fun b=>hasB D b)&&D.all fun b=>(k1.get b).isSome) (overR A k1 h D fun h1=>fNats (D.filter fun b=> !eqBlk (k1.get b) (h.get b)) fun W=>k v h1 n2 ⟨false,D,W⟩) A.bad) A.bad
def callRG (A:Ans α) (call:CallerA α) (p:Nat) (i:Nat) (x:Opd) (args:List Opd) (T:Tmps) (h:Heap) (n:Nat) (k:AV->Heap->Nat->FP->α):α:=
 evK T x fun f=>(match f with
  | .fn f first captured=>evsK T args fun asg=>fList (first++asg++captured) fun asg=>ifB (noRefs asg) (newR A call f asg asg true [] i h n k) (match p with
   |0=>frR A call f asg h n k
   |_=>runR A (mapH (frzH 4) asg) h fun bsg _=>newR A call f asg bsg false ((mapH (frzH 4) asg).fp h).1 i h n k)
  |_=>A.bad)
def operRG (A:Ans α) (call:CallerA α) (p:Nat) (i:Nat) (s:SOper) (T:Tmps) (h:Heap) (n:Nat) (k:AV->Heap->Nat->FP->α):α:=
 match p,s.op with
 | p + 1, .call .heap x args => (match s.guard with
  |none=>callRG A call p i x args T h n k
  |some (g,want)=>lkK T g fun y=>(match y with
   | .bool b=>ifB want (ifB b (callRG A call p i x args T h n k) (k (.tup []) h n ⟨false,[],[]⟩)) (ifB b (k (.tup []) h n ⟨false,[],[]⟩) (callRG A call p i x args T h n k))
   | .tup []=>k (.tup []) h n ⟨false,[],[]⟩
   |_=>A.bad))
 |_,_=>operR A call i s T h n fun v h1 n=>k v h1 n (operFP i s T h)
def FrOK (P:Program) (A:Ans α) (call:CallerA α):Prop:=∀(hB:Heap) (f:Nat) (args:List AV) (h:Heap) (n:Nat) (k:AV->Heap->Nat->α),
 A.holds (call (.fr hB) f args h n k)->∃v k1 n',A.holds (k v k1 n')/\HSpec P f args hB v k1
def NewOK (P:Program) (A:Ans α) (call:CallerA α):Prop:=∀(f:Nat) (args:List AV) (h:Heap) (n:Nat) (k:AV->Heap->Nat->α),noRefs args=true->
 A.holds (call .new f args h n k)->∃v h' n',A.holds (k v h' n')/\HSpec P f args .e v h'/\∀u hh,(frzH 6 v).run h'=some (u,hh)->noRef u=true->PSpec P f args u
section
variable {A:Ans α} (hA:A.OK) {call:CallerA α}
include hA
theorem QhR (hnw:NewOK P A call) {f:Nat} {args asg:List AV} {same:Bool} {R:List Nat} {i:Nat} {h:Heap} {n:Nat} {k:AV->Heap->Nat->FP->α} (hs:same=true->asg=args)
  (hR:(asg=args/\R=[])\/((mapH (frzH 4) args).run h=some (asg,h)/\R=((mapH (frzH 4) args).fp h).1)) (hx:A.holds (newR A call f args asg same R i h n k)):
  ∃v h1 n' fp,A.holds (k v h1 n' fp)/\NStep P i f args h v h1 fp:=by
 unfold newR at hx
 rw[QaI]at hx
 split at hx
 ·rename_i hn
  obtain⟨v,h',n',hk,hsp,hps⟩:=hnw _ _ _ _ _ hn hx
  have flat:∀u,A.holds (runR A (frzH 6 u) h' fun v _=>ifB (noRef v&&(flatV v||same)) (fAV v fun v=>k v h n ⟨false,R,[]⟩) A.bad)->u=v->∃v h1 n' fp,A.holds (k v h1 n' fp)/\NStep P i f args h v h1 fp:=by
   rintro u hx rfl
   rw[QcR]at hx
   split at hx
   ·rename_i v2 h2 hz
    rw[QaI]at hx
    split at hx
    ·rename_i hc
     simp only[Bool.and_eq_true,Bool.or_eq_true]at hc
     rw[Qc5]at hx
     exact⟨v2,h,n,_,hx,asg,R,hR,.inr ⟨hps _ _ hz hc.1,hc.2.imp id hs,rfl,rfl⟩⟩
    ·exact absurd hx hA.bad
   ·exact absurd hx hA.bad
  split at hk
  ·rename_i b g off len sz
   rw[QbJ]at hk
   split at hk
   ·rename_i g' cs hb
    rw[QaI]at hk
    split at hk
    ·rename_i hc
     simp only[Bool.and_eq_true]at hc
     obtain⟨⟨c1,c2⟩,c3⟩:=hc
     have hg:g'=g:=by simpa using c1
     subst hg
     have hl:i<lim:=Nat.le_of_ble_eq_true c3
     rw[Qhe,QaI]at hk
     split at hk
     ·rename_i hc2
      simp only[Bool.or_eq_true,Bool.and_eq_true]at hc2
      rw[QbJ]at hk
      split at hk
      ·rename_i hi
       rw[QbR,if_pos hl]at hk
       exact⟨_,_,_,_,hk,asg,R,hR,.inl ⟨cs.drop off,len,sz,⟨hsp.1,hn,b,g',off,cs,h',rfl,Nat.le_of_ble_eq_true c2,hb,hsp⟩,hc2.imp id (fun h=>⟨h.1,hs h.2⟩),hl,hi,rfl,rfl,rfl⟩⟩
      ·exact absurd hk hA.bad
     ·exact absurd hk hA.bad
    ·exact absurd hk hA.bad
   ·exact absurd hk hA.bad
  grind
 ·exact absurd hx hA.bad
end
section
variable {A:Ans α} (hA:A.OK) {call:CallerA α}
include hA
theorem Qot (hfr:FrOK P A call) {f:Nat} {asg:List AV} {h:Heap} {n:Nat} {k:AV->Heap->Nat->FP->α} (hx:A.holds (frR A call f asg h n k)):
  ∃v h1 n' fp,A.holds (k v h1 n' fp)/\FStep P f asg h v h1 fp:=by
 unfold frR at hx
 rw[Qhf]at hx
 obtain⟨B,e⟩:=Qhg (α:=α) h 100000 (refsL asg []) [] (fun B=>ifB (allLim B&&inBs B asg&&B.all fun b=>blkIn B (h.get b)) (overR A h .e B fun hB=>call (.fr hB) f asg h n fun v k1 n2=>
  domK k1 1 0 [] fun D=>ifB (allLim D&&(D.all fun b=>hasB B b||(h.get b).isNone)&&(B.all fun b=>hasB D b)&&D.all fun b=>(k1.get b).isSome) (overR A k1 h D fun h1=>fNats (D.filter fun b=> !eqBlk (k1.get b) (h.get b)) fun W=>k v h1 n2 ⟨false,D,W⟩) A.bad) A.bad)
 rw[e,QaI]at hx
 clear e
 split at hx
 ·rename_i hc
  simp only[Bool.and_eq_true]at hc
  obtain⟨⟨c1,c2⟩,c3⟩:=hc
  rw[QeV fun b hb=>Qdu c1 hb]at hx
  obtain⟨v,k1,n',hk,hs⟩:=hfr _ _ _ _ _ _ hx
  rw[Qin,QaI]at hk
  split at hk
  ·rename_i hd
   simp only[Bool.and_eq_true]at hd
   obtain⟨⟨⟨d1,d2⟩,d3⟩,d4⟩:=hd
   rw[QeV fun b hb=>Qdu d1 hb,Qhf]at hk
   refine⟨v,_,n',_,hk,B,domL k1 1 0 [],_,k1,c1,d1,c2,fun b hb=>List.all_eq_true.1 c3 b hb,hs,fun b hb e=>?_,fun b hb=>?_,fun b hb=>Qdh.1 (List.all_eq_true.1 d3 b hb),fun b hb hB=>?_,fun b hb hW=>?_,fun b hb=>(List.mem_filter.1 hb).1,rfl,rfl⟩
   ·grind
   ·have := Qhh k1 1 0 [] b hb
    simp_all
   ·have := List.all_eq_true.1 d2 b hb
    simp_all [Qdh]
   grind [QpB]
  ·exact absurd hk hA.bad
 ·exact absurd hx hA.bad
end
section
variable {A:Ans α} (hA:A.OK) {call:CallerA α} (hc:CallOKA P A call) (hrn:RndOK P A call) (hgv:FrOK P A call) (hnw:NewOK P A call)
include hA hc hrn hgv hnw
theorem QfH {p:Nat} {i:Nat} {x:Opd} {args:List Opd} {T:Tmps} {h:Heap} {n:Nat} {k:AV->Heap->Nat->FP->α} (hx:A.holds (callRG A call p i x args T h n k)):
  ∃v h1 n' f,A.holds (k v h1 n' f)/\StepX P i (.call .heap x args) T h v h1 f:=by
 unfold callRG at hx
 rw[Qbm]at hx
 split at hx
 ·rename_i f first captured hv
  rw[Qim,QcI,QaI]at hx
  have e:aop i T (.call .heap x args)=aCall .heap (ev T x) (evs T args):=rfl
  have hrun:(aop i T (.call .heap x args)).run h=some (.call .heap f (first++evs T args++captured),h):=by rw[e,hv];rfl
  have step:∀{v:AV} {h1:Heap} {fp:FP},NStep P i f (first++evs T args++captured) h v h1 fp->StepX P i (.call .heap x args) T h v h1 fp:=by
   intro v h1 fp hN
   exact⟨.call .heap f (first++evs T args++captured),h,hrun,.inr (.inr (.inl hN))⟩
  split at hx
  ·obtain ⟨v, h1, n', fp, hk, hN⟩ := QhR hA hnw (fun _ => rfl) (.inl ⟨rfl, rfl⟩) hx
   grind
  ·split at hx
   ·obtain ⟨v, h1, n', fp, hk, hN⟩ := Qot hA hgv hx
    exact⟨v,h1,n',fp,hk,.call .heap f (first++evs T args++captured),h,hrun,.inr (.inr (.inr hN))⟩
   ·rw [QcR] at hx
    split at hx
    ·rename_i bsg h2 hm
     have:h2=h:=HM.QnY _ (QcQ (QdT 4) _) hm
     subst this
     obtain⟨v,h1,n',fp,hk,hN⟩:=QhR hA hnw (fun e=>by cases e) (.inr ⟨hm,rfl⟩) hx
     grind
    ·exact absurd hx hA.bad
 ·exact absurd hx hA.bad
theorem QkK {p:Nat} {i:Nat} {s:SOper} {T:Tmps} {h:Heap} {n:Nat} {k:AV->Heap->Nat->FP->α} (hx:A.holds (operRG A call p i s T h n k)):
  ∃v h1 n' f,A.holds (k v h1 n' f)/\StepV P i s T h v h1 f:=by
 have dflt:A.holds (operR A call i s T h n fun v h1 n=>k v h1 n (operFP i s T h))->∃v h1 n' f,A.holds (k v h1 n' f)/\StepV P i s T h v h1 f:=by
  grind [QgF]
 unfold operRG at hx
 split at hx
 ·rename_i p x args ho
  unfold StepV
  cases hg:s.guard with
  |none=>
   rw[hg]at hx
   simp only at hx⊢
   rw[ho]
   exact QfH hA hc hrn hgv hnw hx
  | some q =>
   obtain⟨g,want⟩:=q
   rw[hg]at hx
   simp only[QeB]at hx⊢
   rw[ho]
   split at hx
   ·rename_i b hb
    rw[hb]
    have run:A.holds (callRG A call p i x args T h n k)->b=want->∃v h1 n' f,A.holds (k v h1 n' f)/\∃b',wantedA (.bool b) want=some b'/\if b'=true then StepX P i (.call .heap x args) T h v h1 f else(v= .tup []/\h1=h/\f=⟨false,[],[]⟩):=by
     intro hx2 e
     obtain⟨v,h1,n',f,hk,hs⟩:=QfH hA hc hrn hgv hnw hx2
     subst e
     exact⟨v,h1,n',f,hk,true,by simp[wantedA],by simpa using hs⟩
    have skip:A.holds (k (.tup []) h n ⟨false,[],[]⟩)->b≠want->∃v h1 n' f,A.holds (k v h1 n' f)/\∃b',wantedA (.bool b) want=some b'/\if b'=true then StepX P i (.call .heap x args) T h v h1 f else(v= .tup []/\h1=h/\f=⟨false,[],[]⟩):=by
     intro hx2 e
     have e':(b==want)=false:=by simpa using e
     exact⟨.tup [],h,n,_,hx2,false,by simp[wantedA,e'],by simp⟩
    simp only[QaI]at hx
    grind
   ·rename_i hb
    rw[hb]
    exact⟨.tup [],h,n,_,hx,false,by simp[wantedA],by simp⟩
   ·exact absurd hx hA.bad
 simp_all
end
def opsR (A:Ans α) (call:CallerA α) (ops:List FOp) (j:Nat) (T:Tmps) (h:Heap) (n:Nat) (k:Tmps->Heap->Nat->α):α:=
 @List.rec FOp (fun _ => Nat -> Tmps -> Heap -> Nat -> α) (fun _ T h n => k T h n)
  (fun s _ ih j T h n=>operR A call j s.o T h n fun v h n=>putS s.nw T s.o.dst v fun T=>fNat (Nat.succ j) fun j=>ih j T h n) ops j T h n
def pmark (ps:List (Nat×Nat)) (i:Nat):Nat:=
 ifB (ps.any fun p=>Nat.beq p.1 i&&Nat.beq p.2 999999) 2 (ifB (ps.any fun p=>Nat.beq p.1 i||Nat.beq p.2 i) 1 0)
def opsRF (A:Ans α) (call:CallerA α) (ps:List (Nat×Nat)) (ops:List FOp) (i j:Nat) (T:Tmps) (h:Heap) (n:Nat) (k:List FP->Tmps->Heap->Nat->α):α:=
 @List.rec FOp (fun _ => Nat -> Nat -> Tmps -> Heap -> Nat -> (List FP -> Tmps -> Heap -> Nat -> α) -> α) (fun _ _ T h n k => k [] T h n)
  (fun s _ ih i j T h n k=>operRG A call (pmark ps i) j s.o T h n fun v h1 n f=>putS s.nw T s.o.dst v fun T1=>fNat (Nat.succ j) fun j1=>fNat (Nat.succ i) fun i1=>ih i1 j1 T1 h1 n fun fs=>k (f::fs)) ops i j T h n k
theorem QgG {i:Nat} {s:SOp} {T T':Tmps} {h:Heap} {v:AV} {h1:Heap} {f:FP} (e:∀j,lk T j=lk T' j) (hs:StepX P i s T h v h1 f):StepX P i s T' h v h1 f:=by
 grind [StepX,QiL]
theorem Qes {i:Nat} {s:SOper} {T T':Tmps} {h:Heap} {v:AV} {h1:Heap} {f:FP} (e:∀j,lk T j=lk T' j) (hs:StepV P i s T h v h1 f):StepV P i s T' h v h1 f:=by
 unfold StepV at hs⊢
 split
 ·grind [QgG]
 ·rename_i g want hg
  rw[hg]at hs
  obtain⟨b,hb,h2⟩:=hs
  refine⟨b,by simp_all,?_⟩
  split
  ·rename_i hb';rw[if_pos hb']at h2;exact QgG e h2
  simp_all
section
variable {A:Ans α} (hA:A.OK) {call:CallerA α} (hc:CallOKA P A call) (hrn:RndOK P A call)
include hA hc hrn
theorem QdC {base:Nat} {k:Tmps->Heap->Nat->α}:∀(r:List FOp) (i:Nat) (T T0:Tmps) (h:Heap) (n:Nat),(∀j,lk T j=lk T0 j)->A.holds (opsR A call r (base+i) T h n k)->
  ∃T' T0' h' n' fs,A.holds (k T' h' n')/\(∀j,lk T' j=lk T0' j)/\RunF P base i (r.map FOp.o) fs ⟨T0,h⟩ ⟨T0',h'⟩
 |[],i,T,T0,h,n,e,hx=>⟨T,T0,h,n,[],hx,e,rfl,rfl⟩
 | s :: r, i, T, T0, h, n, e, hx => by
  have hx:A.holds (operR A call (base+i) s.o T h n fun v h n=>putS s.nw T s.o.dst v fun T=>fNat (Nat.succ (base+i)) fun j=>opsR A call r j T h n k):=hx
  obtain⟨v,h1,n1,hk,hs⟩:=QgF hA hc hrn hx
  obtain⟨T1,hT1,e1⟩:=Qi9 s.nw T s.o.dst v (fun T=>fNat (Nat.succ (base+i)) fun j=>opsR A call r j T h1 n1 k)
  rw[hT1,Qbv]at hk
  have e2:∀j,lk T1 j=lk (putD T0 s.o.dst v) j:=by
   simp_all [QbI]
  obtain⟨T',T0',h',n',fs,h2,h3,h4⟩:=QdC (base:=base) r (i+1) T1 (putD T0 s.o.dst v) h1 n1 e2 hk
  exact⟨T',T0',h',n',_::fs,h2,h3,_,fs,v,h1,rfl,Qes e hs,h4⟩
omit hc hrn in
theorem QgH (hc:CallOKA P A call) (hrn:RndOK P A call) (hgv:FrOK P A call) (hnw:NewOK P A call) {ps:List (Nat×Nat)} {base:Nat}:∀(r:List FOp) (i:Nat) (T T0:Tmps) (h:Heap) (n:Nat) (k:List FP->Tmps->Heap->Nat->α),(∀j,lk T j=lk T0 j)->A.holds (opsRF A call ps r i (base+i) T h n k)->
  ∃T' T0' h' n' fs,A.holds (k fs T' h' n')/\(∀j,lk T' j=lk T0' j)/\RunF P base i (r.map FOp.o) fs ⟨T0,h⟩ ⟨T0',h'⟩
 |[],i,T,T0,h,n,k,e,hx=>⟨T,T0,h,n,[],hx,e,rfl,rfl⟩
 | s :: r, i, T, T0, h, n, k, e, hx => by
  have hx:A.holds (operRG A call (pmark ps i) (base+i) s.o T h n fun v h1 n f=>putS s.nw T s.o.dst v fun T1=>fNat (Nat.succ (base+i)) fun j1=>fNat (Nat.succ i) fun i1=>opsRF A call ps r i1 j1 T1 h1 n fun fs=>k (f::fs)):=hx
  obtain⟨v,h1,n1,f,hk,hs⟩:=QkK hA hc hrn hgv hnw hx
  obtain⟨T1,hT1,e1⟩:=Qi9 s.nw T s.o.dst v (fun T1=>fNat (Nat.succ (base+i)) fun j1=>fNat (Nat.succ i) fun i1=>opsRF A call ps r i1 j1 T1 h1 n1 fun fs=>k (f::fs))
  rw[hT1,Qbv,Qbv]at hk
  have e2:∀j,lk T1 j=lk (putD T0 s.o.dst v) j:=by
   simp_all [QbI]
  obtain⟨T',T0',h',n',fs,h2,h3,h4⟩:=QgH hc hrn hgv hnw (base:=base) r (i+1) T1 (putD T0 s.o.dst v) h1 n1 _ e2 hk
  exact⟨T',T0',h',n',_::fs,h2,h3,_,fs,v,h1,rfl,Qes e hs,h4⟩
end
theorem W.regionS {N:Nat} {Q:SX->St->Prop} {A C:St} {sops:List SOper} {pairs:List (Nat×Nat)} {dead:List Nat} (base:Nat) (fs:List FP) (hr:RunF P base 0 sops fs A C)
  (hp:(pairs.all fun p=>(fs.getD p.1 ⟨false,[],[]⟩).apart (fs.getD p.2 ⟨false,[],[]⟩))=true) {L:Tmps} (hL:Sub L C.T) (hQ:Q .normal ⟨L,C.h⟩):W P N (.region sops pairs dead) Q A:=by
 have h1:=RunF.to_L (P:=P) (base:=base) (sops:=sops) sops [] fs [] A C (by simp) rfl hr
 intro code hok c a w S ro hro Q' hQ'
 cases code<;>simp only[okCode,Bool.false_eq_true]at hok
 refine Qfz hok (base:=base) (fpf:=fun i=>fs.getD i ⟨false,[],[]⟩) (by simpa[List.range_eq_range']using h1) ?_ S fun c' a' w' S' E'=>hQ' .normal _ c' a' w' hQ ?_ E'
 ·simp_all
 ·refine ⟨S'.heap, fun i => ?_, S'.size, S'.defers⟩
  rcases hL i with e|e
  ·simp_all [VRel]
  ·show VRel c' w' (lk L i) _
   rw[e];exact S'.tmps i
def argR (i:Nat) (l:List AV) (k:Tmps->α):α:=
 @List.rec AV (fun _=>Nat->(Tmps->α)->α) (fun _ k=>k []) (fun x _ ih i k=>fNat (Nat.succ i) fun j=>ih j fun r=>k ((i,x)::r)) l i k
theorem Qio (i:Nat) (l:List AV) (k:Tmps->α):argR i l k=k (argT i l):=by
 induction l generalizing i k with
 |nil=>rfl
 |cons x r ih=>
  show fNat (Nat.succ i) (fun j=>argR j r fun r=>k ((i,x)::r))=_
  rw[Qbv,ih];rfl
def resR (A:Ans α) (T:Tmps) (h:Heap) (l:List SRes) (k:List AV->α):α:=
 @List.rec SRes (fun _ => (List AV -> α) -> α) (fun k => k []) (fun x _ ih k => (match x with
  | .tmp t=>lkK T t fun v=>ih fun vs=>k (v::vs)
  | .cell a m=>lkK T a fun p=>loadR A m p h fun v=>ih fun vs=>k (v::vs))) l k
theorem Qip (A:Ans α) (T:Tmps) (h:Heap) (l:List SRes) (k:List AV->α):resR A T h l k=match resV T h l with|some vs=>k vs|none=>A.bad:=by
 have:∀(l:List SRes) (k:List AV->α),resR A T h l k=match resV T h l with|some vs=>k vs|none=>A.bad:=by
  intro l
  induction l with
  |nil=>intro k;rfl
  | cons x r ih =>
   intro k
   cases x with
   |tmp t=>
    show lkK T t (fun v=>resR A T h r fun vs=>k (v::vs))=_
    rw[QeB,ih]
    simp only[resV]
    cases resV T h r<;>rfl
   | cell a m =>
    show lkK T a (fun p=>loadR A m p h fun v=>resR A T h r fun vs=>k (v::vs))=_
    rw[QeB,QkI]
    simp only[resV]
    cases(aLoad m (lk T a)).run h with
    |none=>rfl
    |some q=>
     obtain⟨v,h'⟩:=q
     simp only
     rw[ih]
     cases resV T h r<;>rfl
 exact this l k
abbrev Orc:=Nat->Option (List AV×AV)
def bodyR (A:Ans α) (sf:FFn) (run:FCode->Tmps->Heap->Nat->KcA α->α) (args:List AV) (h:Heap) (n:Nat) (k:AV->Heap->Nat->α):α:=
 argR 0 args fun T=>run sf.body T h n fun e T h n=>(match e with
  | .exit _=>A.bad
  |_=>resR A T h sf.res fun vs=>fAV (resOf vs) fun v=>k v h n)
def upsR (T:Tmps) (ps:List Nat) (xs:List AV) (k:Tmps->α):α:=
 match ps,xs with
 |p::ps,x::xs=>upR T p x fun T=>upsR T ps xs k
 |_,_=>k T
theorem Qmy:∀(ps:List Nat) (xs:List AV) (T:Tmps) (k:Tmps->α),upsR T ps xs k=k (upsT T ps xs)
 |[],xs,T,k=>by cases xs<;>rfl
 |p::ps,[],T,k=>rfl
 |p::ps,x::xs,T,k=>by
  show upR T p x (fun T=>upsR T ps xs k)=_
  rw[Qdv,Qmy ps xs];rfl
def rndR (A : Ans α) (run : FCode -> Tmps -> Heap -> Nat -> KcA α -> α) (g b : Nat) (args : List AV) (h : Heap) (n : Nat) (k : AV -> Heap -> Nat -> α) : α :=
 getR h b fun o => (match o with
  | some (.loop g' N T ps (.f asg) (.f body) .ready) => ifB (Nat.beq g' g && Nat.ble (Nat.succ b) lim && Nat.beq args.length ps.length && ps.all fun p => Nat.ble (Nat.succ p) N)
    (upsR T ps args fun T1 => run asg T1 h n fun e T2 h2 n2 => (match e with
     | .normal => getR h2 b fun o2 => (match o2 with
      |some (.loop g2 N2 T2' ps2 as2 body2 .ready)=>ifB (Nat.beq g2 g) (putBR A h2 b (.loop g N2 T2' ps2 as2 body2 .busy) fun h3=>run body T2 h3 n2 fun e T4 h4 n4=>getR h4 b fun o4=>(match o4 with
       | some (.loop g4 N4 T4' ps4 as4 body4 .busy) => ifB (Nat.beq g4 g) (match e with
         | .normal=>putBR A h4 b (.loop g N4 T4' ps4 as4 body4 .ready) fun h5=>k (.bool true) h5 n4
         |e=>putBR A h4 b (.loop g N4 T4' ps4 as4 body4 (.done e)) fun h5=>k (.bool false) h5 n4) A.bad
       |_=>A.bad)) A.bad
      |_=>A.bad)
     |_=>A.bad)) A.bad
  |_=>A.bad)
def unRoom (v:AV):AV:=match v with
 | .typed _ (_+1) (.sl b g off len sz)=> .sl b g off len sz
 |v=>v
theorem HSpec.unRoom {f:Nat} {args:List AV} {h h':Heap} {v:AV} (hs:HSpec P f args h v h'):HSpec P f args h (unRoom v) h':=by
 refine⟨hs.1,fun c w cargs H ha=>(hs.2 c w cargs H ha).mono ?_⟩
 rintro e w' ⟨cv,c',he,E,H',V⟩
 refine⟨cv,c',he,E,H',?_⟩
 unfold Go.AM.unRoom
 split
 ·simp only [VRel] at V
  simpa only[VRel]using V.2
 ·exact V
def callR (A : Ans α) (orc : Orc) (fns : Nat -> Option FFn) (run : FCode -> Tmps -> Heap -> Nat -> KcA α -> α) : CallerA α := fun cm f args h n k =>
 match cm with
 | .rnd g=>rndR A run g f args h n k
 | .new => match orc f with
  |some _=>A.bad
  |none=>match fns f with
   |none=>A.bad
   |some sf=>ifB (Nat.ble args.length sf.n) (bodyR A sf run args .e 64 k) A.bad
 | .fr hB => match orc f with
  |some _=>A.bad
  |none=>match fns f with
   |none=>A.bad
   |some sf=>ifB (Nat.ble args.length sf.n) (bodyR A sf run args hB n fun v h n=>k (unRoom v) h n) A.bad
 | .give b g xs => match orc f with
  |some _=>A.bad
  |none=>match fns f with
   |none=>A.bad
   |some sf=>ifB (Nat.ble args.length sf.n) (bodyR A sf run args (one b (.cells g xs)) n fun v h' _=>runR A (frzH 6 v) h' fun v _=>ifB (noRef v) (fAV v fun v=>k v h n) A.bad) A.bad
 | .c m => match orc f with
  |some (asg,v)=>(match m with
   | .heap=>A.bad
   |_=>A.asm args asg (k v h n))
  | none => match fns f with
   |none=>A.bad
   |some sf=>ifB (Nat.ble args.length sf.n) (match m with
    | .heap=>bodyR A sf run args h n fun v h n=>k (unRoom v) h n
    |_=>ifB (noRefs args) (bodyR A sf run args .e 64 fun v h' _=>runR A (frzH 6 v) h' fun v _=>ifB (noRef v) (fAV v fun v=>k v h n) A.bad) A.bad) A.bad
theorem W.QkL {N:Nat} {sc:SCode} {e0:SX} {T':Tmps} {h':Heap} {A:St} (h:W P N sc (fun e B=>e=e0/\B.h=h'/\Sub T' B.T) A):W P N sc (fun e B=>e=e0/\B=⟨T',h'⟩) A:=by
 intro code hok c a w S ro hro Q' hQ
 refine h code hok c a w S ro hro Q' ?_
 rintro e B c' a' w' ⟨rfl,rfl,hs⟩ S' E'
 refine hQ e ⟨T',B.h⟩ c' a' w' ⟨rfl,rfl⟩ ⟨S'.heap,fun i=>?_,S'.size,S'.defers⟩ E'
 rcases hs i with e|e
 ·simp_all [VRel]
 ·show VRel c' w' (lk T' i) _
  rw[e];exact S'.tmps i
def ml1 (e:SX) (b1 b2:Nat) (J:Prop) (X:SX->Prop):Prop:=
 match e with
 | .normal=>J
 | .exit j=>if j=b2 then J else if j=b1 then X .normal else X (.exit j)
 | .ret=>X .ret
theorem RunF.congr {base:Nat}:∀{r:List SOper} {i:Nat} {fs:List FP} {T T':Tmps} {h:Heap} {C:St},RunF P base i r fs ⟨T,h⟩ C->(∀j,lk T j=lk T' j)->
  ∃D:St,RunF P base i r fs ⟨T',h⟩ D/\D.h=C.h/\∀j,lk C.T j=lk D.T j
 |[],i,fs,T,T',h,C,hr,e=>by
  obtain⟨rfl,rfl⟩:=hr
  exact⟨⟨T',h⟩,⟨rfl,rfl⟩,rfl,e⟩
 |s::r,i,fs,T,T',h,C,hr,e=>by
  obtain⟨f,fs',v,h1,rfl,hs,hr⟩:=hr
  obtain⟨D,hD,e1,e2⟩:=RunF.congr hr (T':=putD T' s.dst v) (fun j=>by grind [QbI])
  exact⟨D,⟨f,fs',v,h1,rfl,Qes e hs,hD⟩,e1,e2⟩
theorem Qcn {X Y:Tmps} {i:Nat} {v:AV} (h:∀j,lk X j=lk Y j):∀j,lk (up X i v) j=lk (up Y i v) j:=by
 simp_all [lk_up]
def mlEnd (A:Ans α) (it nx ok n mb mg:Nat) (T:Tmps) (h:Heap) (k:Tmps->α):α:=
 lkK T it fun p=>(match p with
  | .ptr a 0 0=>ifB (Nat.beq a n) (getR h mb fun o=>(match o with
   |some (.map g es)=>ifB (Nat.beq g mg&&Nat.beq es.length 1) (upR T nx .any fun T=>upR T ok (.bool false) fun T=>k T) A.bad
   |_=>A.bad)) A.bad
  |_=>A.bad)
theorem Ql0 {A:Ans α} (hA:A.OK) {it nx ok n mb mg:Nat} {T:Tmps} {h:Heap} {k:Tmps->α} (hx:A.holds (mlEnd A it nx ok n mb mg T h k)):
  lk T it= .ptr n 0 0/\(∃es,h.get mb=some (.map mg es)/\es.length=1)/\A.holds (k (up (up T nx .any) ok (.bool false))):=by
 unfold mlEnd at hx
 rw[QeB]at hx
 split at hx
 ·rename_i a hp
  rw[QaI]at hx
  split at hx
  ·rename_i ha
   have:a=n:=by simpa using ha
   subst this
   rw[QbJ]at hx
   split at hx
   ·rename_i g es hg
    rw[QaI]at hx
    split at hx
    ·simp_all [Qdv]
    ·exact absurd hx hA.bad
   ·exact absurd hx hA.bad
  ·exact absurd hx hA.bad
 ·exact absurd hx hA.bad
def exR (A : Ans α) (orc : Orc) (fns : Nat -> Option FFn) (d : Nat) : FCode -> Tmps -> Heap -> Nat -> KcA α -> α :=
 @Nat.rec (fun _ => FCode -> Tmps -> Heap -> Nat -> KcA α -> α) (fun _ _ _ _ _ => A.bad) (fun _ ih c T h n k =>
  match c with
  | .skip=>k .normal T h n
  | .ret=>k .ret T h n
  | .exit i=>k (.exit i) T h n
  | .bad=>A.bad
  | .region ops [] dead=>opsR A (callR A orc fns ih) ops n T h (Nat.add n 64) fun T h n=>rmR dead T fun T=>fNat n fun n=>k .normal T h n
  | .region ops (p :: ps) dead => opsRF A (callR A orc fns ih) (p :: ps) ops 0 n T h (Nat.add n 64) fun fs T h n =>
    ifB ((p::ps).all fun p=>(fs.getD p.1 ⟨false,[],[]⟩).apart (fs.getD p.2 ⟨false,[],[]⟩)) (rmR dead T fun T=>fNat n fun n=>k .normal T h n) A.bad
  | .seq a b=>ih a T h n fun e T h n=>(match e with
   | .normal=>ih b T h n k
   |e=>k e T h n)
  | .cond x a b=>evK T x fun v=>(match v with
   | .bool t=>ifB t (ih a T h n k) (ih b T h n k)
   |_=>A.bad)
  | .block i b=>ih b T h n fun e T h n=>(match e with
   | .exit j=>ifB (Nat.beq j i) (k .normal T h n) (k (.exit j) T h n)
   |e=>k e T h n)
  | .rfunc g ps N asg body => evK T g fun v => (match v with
   | .fn f first cap => getR h n fun o => (match o with
    | none => putBR A h n (.loop 0 N T ps (.f asg) (.f body) .ready) fun h1 => fList (first ++ [.yld n 0] ++ cap) fun args => callR A orc fns ih (.c .heap) f args h1 (Nat.succ n) fun _ h2 n2 => getR h2 n fun o2 => (match o2 with
     |some (.loop 0 _ _ _ _ _ st)=>putBR A h2 n (.dead 0) fun h3=>(match st with
      | .ready=>k .normal T h3 n2
      | .busy=>A.bad
      | .done .normal=>A.bad
      | .done e=>k e T h3 n2)
     |_=>A.bad)
    |some _=>A.bad)
   |_=>A.bad)
  | .mloop pre x it nx ok en b1 b2 rest body => opsR A (callR A orc fns ih) pre n T h (Nat.add n 64) fun T h n => evK T x fun v => (match v with
   | .map mb mg => getR h mb fun o => (match o with
    | some (.map g es) => ifB (Nat.beq g mg) (getR h n fun o => (match o with
     |none=>putBR A h n (.dead 0) fun h=>upR T it (.ptr n 0 0) fun T=>upR T nx .any fun T=>(match es with
      |[]=>upR T ok (.bool false) fun T=>k .normal T h (Nat.succ n)
      | [(kk, vv)] => upR T ok (.bool true) fun T => upR T en (.tup [kk, vv]) fun T =>
        opsR A (callR A orc fns ih) rest (Nat.succ n) T h (Nat.add n 64) fun T h n2=>ih body T h n2 fun e T h n2=>(match e with
         | .normal=>mlEnd A it nx ok n mb mg T h fun T=>k .normal T h n2
         | .exit j=>ifB (Nat.beq j b2) (mlEnd A it nx ok n mb mg T h fun T=>k .normal T h n2) (ifB (Nat.beq j b1) (k .normal T h n2) (k (.exit j) T h n2))
         | .ret=>k .ret T h n2)
      |_=>A.bad)
     |some _=>A.bad)) A.bad
    |_=>A.bad)
   |_=>A.bad)
  | .loop b=>ih b T h n fun e T h n=>(match e with
   | .normal=>ih (.loop b) T h n k
   |e=>k e T h n)) d
def ExOKA (P:Program) (A:Ans α) (run:FCode->Tmps->Heap->Nat->KcA α->α):Prop:=∀(N:Nat) (c:FCode) (T:Tmps) (h:Heap) (n:Nat) (k:KcA α),A.holds (run c T h n k)->
 ∃e T' h' n',A.holds (k e T' h' n')/\WX P N c.slim (fun e' B=>e'=e/\B=⟨T',h'⟩) ⟨T,h⟩
section
variable {A:Ans α} (hA:A.OK) {orc:Orc} {fns:Nat->Option FFn}
include hA
theorem Qnq {run : FCode -> Tmps -> Heap -> Nat -> KcA α -> α} (hr : ExOKA P A run) : RndOK P A (callR A orc fns run) := by
 intro g b args h n k hx
 have hx:A.holds (rndR A run g b args h n k):=hx
 unfold rndR at hx
 rw[QbJ]at hx
 split at hx
 ·rename_i g' N T ps asg body hb
  rw[QaI]at hx
  split at hx
  ·rename_i hc
   simp only[Bool.and_eq_true]at hc
   obtain⟨⟨⟨c1,c2⟩,c3⟩,c4⟩:=hc
   have hg:g'=g:=by simpa using c1
   subst hg
   have hl:b<lim:=Nat.le_of_ble_eq_true c2
   have hlen:args.length=ps.length:=by simpa using c3
   have hps:∀p∈ps,p<N:=fun p hp=>Nat.le_of_ble_eq_true (List.all_eq_true.1 c4 p hp)
   rw[Qmy]at hx
   obtain⟨e,T2,h2,n2,hk,hw,_⟩:=hr N _ _ _ _ _ hx
   cases e with
   |exit j=>exact absurd hk hA.bad
   |ret=>exact absurd hk hA.bad
   | normal =>
    simp only[QbJ]at hk
    split at hk
    ·rename_i g2 N2 T2' ps2 as2 body2 hb2
     rw[QaI]at hk
     split at hk
     ·rename_i hg2
      have hg2:g2=g':=by simpa using hg2
      subst hg2
      rw[QbR,if_pos hl]at hk
      obtain⟨e,T4,h4,n4,hk,hw2,_⟩:=hr N _ _ _ _ _ hk
      split at hk
      ·rename_i g4 N4 T4' ps4 as4 body4 hb4
       rw[QaI]at hk
       split at hk
       ·rename_i hg4
        have hg4:g4=g2:=by simpa using hg4
        subst hg4
        have fin:∀e',e'=e->RSpec P b g4 args h (.bool e'.isNormal) (h4.set b (.loop g4 N4 T4' ps4 as4 body4 (stOf e'))):=by
         rintro e' rfl
         refine RSpec.of_W hb hl hlen hps (hw.mono ?_)
         rintro e0 B ⟨rfl,rfl⟩
         refine⟨rfl,N2,T2',ps2,as2,body2,hb2,hw2.mono ?_⟩
         grind
        cases e with
        |normal=>simp only[QbR,if_pos hl]at hk;exact⟨_,_,_,hk,fin _ rfl⟩
        |exit j=>simp only[QbR,if_pos hl]at hk;exact⟨_,_,_,hk,fin _ rfl⟩
        |ret=>simp only[QbR,if_pos hl]at hk;exact⟨_,_,_,hk,fin _ rfl⟩
       ·exact absurd hk hA.bad
      ·exact absurd hk hA.bad
     ·exact absurd hk hA.bad
    ·exact absurd hk hA.bad
  ·exact absurd hx hA.bad
 ·exact absurd hx hA.bad
end
def OrcOK (P:Program) (orc:Orc):Prop:=∀f asg v,orc f=some (asg,v)->PSpec P f asg v
section
variable {A:Ans α} (hA:A.OK) {orc:Orc} (ho:OrcOK P orc) {fns:Nat->Option FFn} (hf:∀f sf,fns f=some sf->okFn P f sf.slim=true)
include hA ho hf
theorem QgI {run : FCode -> Tmps -> Heap -> Nat -> KcA α -> α} (hr : ExOKA P A run) : CallOKA P A (callR A orc fns run) := by
 intro m f args h n k hx
 unfold callR at hx
 simp only at hx
 cases hor:orc f with
 | some p =>
  obtain⟨asg,v⟩:=p
  rw[hor]at hx
  simp only at hx
  have hp:=ho f asg v hor
  cases m with
  |heap=>exact absurd hx hA.bad
  |pure=>
   obtain⟨e,hk⟩:=hA.asm _ _ _ hx
   exact⟨v,h,n,hk,fun e=>(by cases e),fun _=>by simp_all⟩
  |borrow=>
   obtain⟨e,hk⟩:=hA.asm _ _ _ hx
   exact⟨v,h,n,hk,fun e=>(by cases e),fun _=>by simp_all⟩
 | none =>
  rw[hor]at hx
  simp only at hx
  cases hs:fns f with
  |none=>rw[hs]at hx;exact absurd hx hA.bad
  | some sf =>
   rw[hs]at hx
   simp only[QaI]at hx
   have hok:=hf f sf hs
   split at hx
   ·rename_i hl
    have hl:args.length<=sf.slim.n:=Nat.le_of_ble_eq_true hl
    have body:∀(h0:Heap) (n0:Nat) (k':AV->Heap->Nat->α),A.holds (bodyR A sf run args h0 n0 k')->
      ∃e T' h' n' vs,(e= .normal\/e= .ret)/\resV T' h' sf.res=some vs/\A.holds (k' (resOf vs) h' n')/\W P sf.slim.n sf.slim.body (fun e' B=>e'=e/\B=⟨T',h'⟩) ⟨argT 0 args,h0⟩:=by
     intro h0 n0 k' hx
     unfold bodyR at hx
     rw[Qio]at hx
     obtain⟨e,T',h',n',hk,hw,_⟩:=hr sf.slim.n _ _ _ _ _ hx
     have he:e= .normal\/e= .ret:=by cases e<;>first|(exact absurd hk hA.bad)|simp
     have hk:A.holds (resR A T' h' sf.res fun vs=>fAV (resOf vs) fun v=>k' v h' n'):=by grind
     rw[Qip]at hk
     cases hv:resV T' h' sf.res with
     |none=>rw[hv]at hk;exact absurd hk hA.bad
     |some vs=>
      rw[hv]at hk
      simp only[Qc5]at hk
      exact⟨e,T',h',n',vs,he,hv,hk,hw⟩
    have pureC:∀(K:AV->α),A.holds (if noRefs args=true then bodyR A sf run args .e 64 (fun v h' _=>runR A (frzH 6 v) h' fun v _=>if noRef v=true then fAV v fun v=>K v else A.bad)else A.bad)->∃v,A.holds (K v)/\PSpec P f args v:=by
     intro K hx
     split at hx
     ·rename_i ha
      obtain⟨e,T',h',n',vs,he,hv,hk,hw⟩:=body _ _ _ hx
      simp only[QcR]at hk
      split at hk
      ·rename_i v h2 hz
       split at hk
       ·rename_i hn
        rw[Qc5]at hk
        refine⟨v,hk,PSpec.of_W 6 hok hl ha hn (hw.mono ?_)⟩
        rintro e' B ⟨rfl,rfl⟩
        exact⟨he,vs,hv,h2,hz⟩
       ·exact absurd hk hA.bad
      ·exact absurd hk hA.bad
     ·exact absurd hx hA.bad
    cases m with
    |heap=>
     obtain⟨e,T',h',n',vs,he,hv,hk,hw⟩:=body _ _ _ hx
     refine⟨_,h',n',hk,fun _=>HSpec.unRoom (HSpec.of_W hok hl (hw.mono ?_)),fun h=>absurd rfl h⟩
     rintro e' B ⟨rfl,rfl⟩
     exact⟨he,vs,hv,rfl,fun _=>rfl⟩
    |pure=>
     obtain⟨v,hk,hp⟩:=pureC (fun v=>k v h n) hx
     exact⟨v,h,n,hk,fun h=>(by cases h),fun _=>hp⟩
    |borrow=>
     obtain⟨v,hk,hp⟩:=pureC (fun v=>k v h n) hx
     exact⟨v,h,n,hk,fun h=>(by cases h),fun _=>hp⟩
   ·exact absurd hx hA.bad
omit ho in
theorem Qnr {run:FCode->Tmps->Heap->Nat->KcA α->α} (hr:ExOKA P A run):FrOK P A (callR A orc fns run):=by
 intro hB f args h n k hx
 unfold callR at hx
 simp only at hx
 cases hor:orc f with
 |some p=>rw[hor]at hx;exact absurd hx hA.bad
 | none =>
  rw[hor]at hx
  simp only at hx
  cases hs:fns f with
  |none=>rw[hs]at hx;exact absurd hx hA.bad
  | some sf =>
   rw[hs]at hx
   simp only[QaI]at hx
   have hok:=hf f sf hs
   split at hx
   ·rename_i hl
    have hl:args.length<=sf.slim.n:=Nat.le_of_ble_eq_true hl
    unfold bodyR at hx
    rw[Qio]at hx
    obtain⟨e,T',h',n',hk,hw,_⟩:=hr sf.slim.n _ _ _ _ _ hx
    have he:e= .normal\/e= .ret:=by cases e<;>first|(exact absurd hk hA.bad)|simp
    have hk:A.holds (resR A T' h' sf.res fun vs=>fAV (resOf vs) fun v=>k (unRoom v) h' n'):=by grind
    rw[Qip]at hk
    cases hv:resV T' h' sf.res with
    |none=>rw[hv]at hk;exact absurd hk hA.bad
    |some vs=>
     rw[hv]at hk
     simp only[Qc5]at hk
     refine⟨_,h',n',hk,HSpec.unRoom (HSpec.of_W hok hl (hw.mono ?_))⟩
     rintro e' B ⟨rfl,rfl⟩
     exact⟨he,vs,hv,rfl,fun _=>rfl⟩
   ·exact absurd hx hA.bad
omit ho in
theorem Ql1 {run:FCode->Tmps->Heap->Nat->KcA α->α} (hr:ExOKA P A run):NewOK P A (callR A orc fns run):=by
 intro f args h n k ha hx
 unfold callR at hx
 simp only at hx
 cases hor:orc f with
 |some p=>rw[hor]at hx;exact absurd hx hA.bad
 | none =>
  rw[hor]at hx
  simp only at hx
  cases hs:fns f with
  |none=>rw[hs]at hx;exact absurd hx hA.bad
  | some sf =>
   rw[hs]at hx
   simp only[QaI]at hx
   have hok:=hf f sf hs
   split at hx
   ·rename_i hl
    have hl:args.length<=sf.slim.n:=Nat.le_of_ble_eq_true hl
    unfold bodyR at hx
    rw[Qio]at hx
    obtain⟨e,T',h',n',hk,hw,_⟩:=hr sf.slim.n _ _ _ _ _ hx
    have he:e= .normal\/e= .ret:=by cases e<;>first|(exact absurd hk hA.bad)|simp
    have hk:A.holds (resR A T' h' sf.res fun vs=>fAV (resOf vs) fun v=>k v h' n'):=by grind
    rw[Qip]at hk
    cases hv:resV T' h' sf.res with
    |none=>rw[hv]at hk;exact absurd hk hA.bad
    | some vs =>
     rw[hv]at hk
     simp only[Qc5]at hk
     refine⟨_,h',n',hk,HSpec.of_W hok hl (hw.mono ?_),fun u hh hz hn=>PSpec.of_W 6 hok hl ha hn (hw.mono ?_)⟩
     ·rintro e' B ⟨rfl, rfl⟩
      exact⟨he,vs,hv,rfl,fun _=>rfl⟩
     ·rintro e' B ⟨rfl, rfl⟩
      exact⟨he,vs,hv,hh,hz⟩
   ·exact absurd hx hA.bad
theorem QfI : ∀ d, ExOKA P A (exR A orc fns d) := by
 intro d
 induction d with
 |zero=>intro N c T h n k hx;exact absurd hx hA.bad
 | succ d ih =>
  have hc:=QgI hA ho hf ih
  have hrn:=Qnq (orc:=orc) (fns:=fns) hA ih
  have hgv:=Qnr hA hf (orc:=orc) ih
  have hnw:=Ql1 hA hf (orc:=orc) ih
  intro N c T h n k hx
  cases c with
  |skip=>exact⟨_,_,_,_,hx,.of (W.skip ⟨rfl,rfl⟩) (by simp[FCode.slim])⟩
  |ret=>exact⟨_,_,_,_,hx,.of (W.ret ⟨rfl,rfl⟩) (by simp[FCode.slim])⟩
  |exit i=>exact⟨_,_,_,_,hx,.of (W.exit ⟨rfl,rfl⟩) (by simp[FCode.slim])⟩
  |bad=>exact absurd hx hA.bad
  | region ops pairs dead =>
   cases pairs with
   |nil=>
    have hx:A.holds (opsR A (callR A orc fns (exR A orc fns d)) ops (n+0) T h (Nat.add n 64) fun T h n=>rmR dead T fun T=>fNat n fun n=>k .normal T h n):=hx
    obtain⟨T',T0,h',n',fs,hk,e,hr⟩:=QdC hA hc hrn ops 0 T T h (Nat.add n 64) (fun _=>rfl) hx
    rw[Qoq,Qbv]at hk
    refine⟨_,_,_,_,hk,.of (W.regionS n fs hr (by simp) (L:=rmM dead T') ?_ ⟨rfl,rfl⟩) (by simp[FCode.slim])⟩
    intro i
    rcases Qmw dead T' i with h|h
    ·exact .inl h
    ·simp_all
   | cons p ps =>
    have hx:A.holds (opsRF A (callR A orc fns (exR A orc fns d)) (p::ps) ops 0 (n+0) T h (Nat.add n 64) fun fs T h n=>
     ifB ((p::ps).all fun p=>(fs.getD p.1 ⟨false,[],[]⟩).apart (fs.getD p.2 ⟨false,[],[]⟩)) (rmR dead T fun T=>fNat n fun n=>k .normal T h n) A.bad):=hx
    obtain⟨T',T0,h',n',fs,hk,e,hr⟩:=QgH hA hc hrn hgv hnw ops 0 T T h (Nat.add n 64) _ (fun _=>rfl) hx
    rw[QaI]at hk
    split at hk
    ·rename_i hp
     rw[Qoq,Qbv]at hk
     refine⟨_,_,_,_,hk,.of (W.regionS n fs hr hp (L:=rmM dead T') ?_ ⟨rfl,rfl⟩) (by simp[FCode.slim])⟩
     intro i
     rcases Qmw dead T' i with h|h
     ·exact .inl h
     simp_all
    ·exact absurd hk hA.bad
  | seq a b =>
   obtain⟨e,T',h',n',hk,hw,_⟩:=ih N _ _ _ _ _ hx
   cases e with
   |normal=>
    obtain⟨e2,T2,h2,n2,hk2,hw2,_⟩:=ih N _ _ _ _ _ hk
    refine⟨e2,T2,h2,n2,hk2,.of (W.seq (hw.mono ?_)) (by simp[FCode.slim])⟩
    rintro e' B ⟨rfl,rfl⟩
    exact hw2
   |exit j=>
    refine⟨_,_,_,_,hk,.of (W.seq (hw.mono ?_)) (by simp[FCode.slim])⟩
    rintro e' B ⟨rfl,rfl⟩
    exact⟨rfl,rfl⟩
   |ret=>
    refine⟨_,_,_,_,hk,.of (W.seq (hw.mono ?_)) (by simp[FCode.slim])⟩
    rintro e' B ⟨rfl,rfl⟩
    exact⟨rfl,rfl⟩
  | cond x a b =>
   have hx:A.holds (evK T x fun v=>(match v with
    | .bool t=>ifB t (exR A orc fns d a T h n k) (exR A orc fns d b T h n k)
    |_=>A.bad)):=hx
   rw[Qbm]at hx
   split at hx
   ·rename_i t hb
    rw[QaI]at hx
    cases t with
    |true=>
     obtain⟨e,T',h',n',hk,hw,_⟩:=ih N _ _ _ _ _ hx
     exact⟨e,T',h',n',hk,.of (W.cond hb (fun _=>hw) (fun h=>by cases h)) (by simp[FCode.slim])⟩
    |false=>
     obtain⟨e,T',h',n',hk,hw,_⟩:=ih N _ _ _ _ _ hx
     exact⟨e,T',h',n',hk,.of (W.cond hb (fun h=>by cases h) (fun _=>hw)) (by simp[FCode.slim])⟩
   ·exact absurd hx hA.bad
  | block i b =>
   obtain⟨e,T',h',n',hk,hw,_⟩:=ih N _ _ _ _ _ hx
   cases e with
   |normal=>
    refine⟨_,_,_,_,hk,.of (W.block (hw.mono ?_)) (by simp[FCode.slim])⟩
    rintro e' B ⟨rfl,rfl⟩
    exact⟨rfl,rfl⟩
   |ret=>
    refine⟨_,_,_,_,hk,.of (W.block (hw.mono ?_)) (by simp[FCode.slim])⟩
    rintro e' B ⟨rfl,rfl⟩
    exact⟨rfl,rfl⟩
   | exit j =>
    simp only[QaI]at hk
    split at hk
    ·rename_i hj
     have:j=i:=by simpa using hj
     refine⟨_,_,_,_,hk,.of (W.block (hw.mono ?_)) (by simp[FCode.slim])⟩
     simp_all
    ·rename_i hj
     have:j≠i:=by simp_all
     refine⟨_,_,_,_,hk,.of (W.block (hw.mono ?_)) (by simp[FCode.slim])⟩
     simp_all
  | rfunc g ps M asg body =>
   have hx:A.holds (evK T g fun v=>(match v with
   | .fn f first cap => getR h n fun o => (match o with
    | none => putBR A h n (.loop 0 M T ps (.f asg) (.f body) .ready) fun h1 => fList (first ++ [.yld n 0] ++ cap) fun args => callR A orc fns (exR A orc fns d) (.c .heap) f args h1 (Nat.succ n) fun _ h2 n2 => getR h2 n fun o2 => (match o2 with
     |some (.loop 0 _ _ _ _ _ st)=>putBR A h2 n (.dead 0) fun h3=>(match st with
      | .ready=>k .normal T h3 n2
      | .busy=>A.bad
      | .done .normal=>A.bad
      | .done e=>k e T h3 n2)
     |_=>A.bad)
    |some _=>A.bad)
   |_=>A.bad)):=hx
   rw[Qbm]at hx
   split at hx
   ·rename_i f first cap hg
    rw[QbJ]at hx
    split at hx
    ·rename_i hn
     rw[QbR]at hx
     split at hx
     ·rename_i hl
      simp only[QcI]at hx
      obtain⟨v,h2,n2,hk,hs,_⟩:=hc _ _ _ _ _ _ hx
      rw[QbJ]at hk
      split at hk
      ·rename_i N2 T2 ps2 as2 body2 st hst
       rw[QbR,if_pos hl]at hk
       have key:∀(e:SX),leftQ (fun e' B=>e'=e/\B=⟨T,h2.set n (.dead 0)⟩) ⟨T,h2.set n (.dead 0)⟩ st->WX P N (FCode.rfunc g ps M asg body).slim (fun e' B=>e'=e/\B=⟨T,h2.set n (.dead 0)⟩) ⟨T,h⟩:=by
        intro e hq
        refine .of ?_ (by simp[FCode.slim])
        show W P N (.rfunc g ps M asg.slim body.slim) _ _
        by_cases hNM:M=N
        ·subst hNM
         exact W.rfunc (.f asg) (.f body) rfl rfl hg hn hl (hs rfl) hst hq
        ·intro code hok
         cases code<;>simp only[okCode,Bool.false_eq_true,Bool.and_eq_true,beq_iff_eq,Bool.not_eq_true']at hok
         omega
       split at hk
       ·exact⟨_,_,_,_,hk,key .normal ⟨rfl,rfl⟩⟩
       ·exact absurd hk hA.bad
       ·exact absurd hk hA.bad
       ·rename_i e he
        refine⟨_,_,_,_,hk,key e ⟨?_,rfl,rfl⟩⟩
        cases e<;>first|rfl|(exact absurd rfl he)
      ·exact absurd hk hA.bad
     ·exact absurd hx hA.bad
    ·exact absurd hx hA.bad
   ·exact absurd hx hA.bad
  | mloop pre x it nx ok en b1 b2 rest body =>
   have hx:A.holds (opsR A (callR A orc fns (exR A orc fns d)) pre (n+0) T h (Nat.add n 64) fun T h n=>evK T x fun v=>(match v with
   | .map mb mg => getR h mb fun o => (match o with
    | some (.map g es) => ifB (Nat.beq g mg) (getR h n fun o => (match o with
     |none=>putBR A h n (.dead 0) fun h=>upR T it (.ptr n 0 0) fun T=>upR T nx .any fun T=>(match es with
      |[]=>upR T ok (.bool false) fun T=>k .normal T h (Nat.succ n)
      | [(kk, vv)] => upR T ok (.bool true) fun T => upR T en (.tup [kk, vv]) fun T =>
        opsR A (callR A orc fns (exR A orc fns d)) rest (Nat.succ n+0) T h (Nat.add n 64) fun T h n2=>exR A orc fns d body T h n2 fun e T h n2=>(match e with
         | .normal=>mlEnd A it nx ok n mb mg T h fun T=>k .normal T h n2
         | .exit j=>ifB (Nat.beq j b2) (mlEnd A it nx ok n mb mg T h fun T=>k .normal T h n2) (ifB (Nat.beq j b1) (k .normal T h n2) (k (.exit j) T h n2))
         | .ret=>k .ret T h n2)
      |_=>A.bad)
     |some _=>A.bad)) A.bad
    |_=>A.bad)
   |_=>A.bad)):=hx
   obtain⟨T1,T0,h1,n1,fs1,hk,e1,hr1⟩:=QdC hA hc hrn pre 0 T T h (Nat.add n 64) (fun _=>rfl) hx
   rw[Qbm]at hk
   have evc:∀y:Opd,ev T0 y=ev T1 y:=fun y=>(Qka fun i _=>e1 i).symm
   split at hk
   ·rename_i mb mg hxv
    rw[QbJ]at hk
    split at hk
    ·rename_i g es hg
     rw[QaI]at hk
     split at hk
     ·rename_i hgm
      have hgm:g=mg:=by simpa using hgm
      subst hgm
      rw[QbJ]at hk
      split at hk
      ·rename_i hn
       rw[QbR]at hk
       split at hk
       ·rename_i hl
        rw[Qdv,Qdv]at hk
        have hmb:(h1.set n1 (.dead 0)).get mb=some (.map g es):=by
         rw[Tr.Qa2 _ hl,if_neg (by grind)];exact hg
        have hit:∀j,lk (up T0 it (.ptr n1 0 0)) j=lk (up T1 it (.ptr n1 0 0)) j:=Qcn fun j=>(e1 j).symm
        split at hk
        ·-- nothing in it
         rw[Qdv]at hk
         refine⟨_,_,_,_,hk,.of (W.QkL (W.mloop n fs1 hr1 (by rw[evc,hxv]) hg hn hl (fun vis B=>vis=[]/\B.h=h1.set n1 (.dead 0)/\∀j,lk B.T j=lk (up T1 it (.ptr n1 0 0)) j) ?_ ?_ ?_ ?_)) (by simp[FCode.slim])⟩
         ·rintro vis B ⟨rfl, hB, hT⟩
          refine⟨by rw[hT,lk_up,if_pos rfl],[],by simp_all,rfl⟩
         ·simp_all
         ·simp_all
         ·rintro vis B ⟨rfl, hB, hT⟩ _
          exact⟨rfl,hB,.of_eq fun i=>(Qcn (Qcn hT) i).symm⟩
        ·-- one entry
         rename_i kk vv
         rw[Qdv,Qdv]at hk
         obtain⟨T2,T20,h2,n2,fs2,hk2,e2,hr2⟩:=QdC hA hc hrn rest 0 _ (up (up (up (up T1 it (.ptr n1 0 0)) nx .any) ok (.bool true)) en (.tup [kk,vv])) _ _ (fun _=>rfl) hk
         obtain⟨e,T3,h3,n3,hk3,hw3,_⟩:=ih N _ _ _ _ _ hk2
         have walk:∀(Qb:SX->St->Prop) (BT:Tmps),(∀j,lk BT j=lk (up T1 it (.ptr n1 0 0)) j)->Qb e ⟨T3,h3⟩->
           ∃bs fs C,RunF P bs 0 (rest.map FOp.o) fs ⟨up (up (up BT nx .any) ok (.bool true)) en (.tup [kk,vv]),h1.set n1 (.dead 0)⟩ C/\W P N body.slim Qb C:=by
          intro Qb BT hBT hq
          obtain⟨D,hD,d1,d2⟩:=hr2.congr (T':=up (up (up BT nx .any) ok (.bool true)) en (.tup [kk,vv])) (Qcn (Qcn (Qcn fun j=>(hBT j).symm)))
          refine⟨_,fs2,D,hD,W.congr (hw3.mono ?_) ⟨fun j=>?_,fun b=>?_⟩⟩
          ·simp_all
          ·simp_all
          ·rw[d1]
         have main:∀(e0:SX) (T4:Tmps) (h4:Heap) (J:List Nat->St->Prop),
           (∀vis B,J vis B->vis=[0]/\lk B.T it= .ptr n1 0 0/\(∃es',B.h.get mb=some (.map g es')/\es'.length=1))->
           ml1 e b1 b2 (J [0] ⟨T3,h3⟩) (fun x=>x=e0/\h3=h4/\Sub T4 T3)->
           (∀vis B,J vis B->SX.normal=e0/\B.h=h4/\Sub T4 (up (up B.T nx .any) ok (.bool false)))->
           W P N (FCode.mloop pre x it nx ok en b1 b2 rest body).slim (fun e' B=>e'=e0/\B=⟨T4,h4⟩) ⟨T,h⟩:=by
          intro e0 T4 h4 J hJ hround hdone
          refine W.QkL (W.mloop n fs1 hr1 (by rw[evc,hxv]) hg hn hl (fun vis B=>(vis=[]/\B.h=h1.set n1 (.dead 0)/\∀j,lk B.T j=lk (up T1 it (.ptr n1 0 0)) j)\/J vis B) ?_ ?_ ?_ ?_)
          ·rintro vis B (⟨rfl, hB, hT⟩ | hB)
           ·exact⟨by rw[hT,lk_up,if_pos rfl],_,by simp_all,rfl⟩
           grind
          ·simp_all
          ·rintro vis B i k' v' es' hB hni hm' hi
           have hi0:i=0:=by
            grind
           subst hi0
           rcases hB with⟨rfl,hB,hT⟩|hB
           ·rw [hB, hmb] at hm'
            cases hm'
            simp only[List.getElem?_cons_zero,Option.some.injEq,Prod.mk.injEq]at hi
            obtain⟨rfl,rfl⟩:=hi
            rw[hB]
            refine walk _ B.T hT ?_
            grind [ml1]
           grind
          ·rintro vis B (⟨rfl, hB, hT⟩ | hB) hall
           ·simp_all
           grind
         have fin:A.holds (mlEnd A it nx ok n1 mb g T3 h3 fun T=>k .normal T h3 n3)->(∀(J:Prop) (X:SX->Prop),J->ml1 e b1 b2 J X)->
           ∃e T' h' n',A.holds (k e T' h' n')/\WX P N (FCode.mloop pre x it nx ok en b1 b2 rest body).slim (fun e' B=>e'=e/\B=⟨T',h'⟩) ⟨T,h⟩:=by
          intro hend hm
          obtain⟨h5,⟨es',h6,h7⟩,h8⟩:=Ql0 hA hend
          refine⟨_,_,_,_,h8,.of (main .normal _ h3 (fun vis B=>vis=[0]/\B=⟨T3,h3⟩) ?_ (hm _ _ ⟨rfl,rfl⟩) ?_) (by simp[FCode.slim])⟩
          ·simp_all
          ·rintro vis B ⟨rfl,rfl⟩;exact⟨rfl,rfl,.of_eq fun _=>rfl⟩
         cases e with
         |normal=>exact fin hk3 (fun J X hJ=>hJ)
         |ret=>
          exact⟨_,_,_,_,hk3,.of (main .ret T3 h3 (fun _ _=>False) (fun _ _ h=>h.elim) ⟨rfl,rfl,.of_eq fun _=>rfl⟩ (fun _ _ h=>h.elim)) (by simp[FCode.slim])⟩
         | exit j =>
          simp only[QaI]at hk3
          split at hk3
          ·rename_i hj
           have hj:j=b2:=by simpa using hj
           exact fin hk3 (fun J X hJ=>by show(if j=b2 then J else _);simp_all)
          ·rename_i hj
           have hj:j≠b2:=by simp_all
           split at hk3
           ·rename_i hj1
            have hj1:j=b1:=by simpa using hj1
            exact⟨_,_,_,_,hk3,.of (main .normal T3 h3 (fun _ _=>False) (fun _ _ h=>h.elim) (by show(if j=b2 then _ else if j=b1 then _ else _);rw[if_neg hj,if_pos hj1];exact⟨rfl,rfl,.of_eq fun _=>rfl⟩) (fun _ _ h=>h.elim)) (by simp[FCode.slim])⟩
           ·rename_i hj1
            have hj1:j≠b1:=by simp_all
            exact⟨_,_,_,_,hk3,.of (main (.exit j) T3 h3 (fun _ _=>False) (fun _ _ h=>h.elim) (by show(if j=b2 then _ else if j=b1 then _ else _);rw[if_neg hj,if_neg hj1];exact⟨rfl,rfl,.of_eq fun _=>rfl⟩) (fun _ _ h=>h.elim)) (by simp[FCode.slim])⟩
        ·exact absurd hk hA.bad
       ·exact absurd hk hA.bad
      ·exact absurd hk hA.bad
     ·exact absurd hk hA.bad
    ·exact absurd hk hA.bad
   ·exact absurd hk hA.bad
  | loop b =>
   have key:∃e T' h' n',A.holds (k e T' h' n')/\WL P N b.slim (fun e' B=>e'=e/\B=⟨T',h'⟩) ⟨T,h⟩:=by
    obtain⟨e,T',h',n',hk,hw,_⟩:=ih N _ _ _ _ _ hx
    cases e with
    |normal=>
     obtain⟨e2,T2,h2,n2,hk2,_,hw2⟩:=ih N _ _ _ _ _ hk
     refine⟨e2,T2,h2,n2,hk2,WL.round (hw.mono ?_)⟩
     rintro e' B ⟨rfl,rfl⟩
     exact hw2 _ rfl
    |exit j=>
     refine⟨_,_,_,_,hk,WL.round (hw.mono ?_)⟩
     rintro e' B ⟨rfl,rfl⟩
     exact⟨rfl,rfl⟩
    |ret=>
     refine⟨_,_,_,_,hk,WL.round (hw.mono ?_)⟩
     rintro e' B ⟨rfl,rfl⟩
     exact⟨rfl,rfl⟩
   obtain⟨e,T',h',n',hk,hw⟩:=key
   exact⟨e,T',h',n',hk,hw.loop,fun b' e=>by cases e;exact hw⟩
end
inductive FT2 where
 |z
 |l (k:Nat) (s:FFn)
 |n (k:Nat) (a b:FT2)
def FT2.get (t:FT2) (i:Nat):Option FFn:=
 @FT2.rec (fun _=>Option FFn) none (fun k s=>ifB (Nat.beq i k) (some s) none) (fun k _ _ a b=>ifB (Nat.ble (Nat.succ i) k) a b) t
def FT2.OK (P:Program):FT2->Prop
 | .z=>True
 | .l k s=>okFn P k s.slim=true
 | .n _ a b=>a.OK P/\b.OK P
theorem FT2.ok:∀{t:FT2},t.OK P->∀f sf,t.get f=some sf->okFn P f sf.slim=true
 | .z,_,f,sf,h=>by cases h
 | .l k s, ho, f, sf, h => by
  have h2:ifB (Nat.beq f k) (some s) none=some sf:=h
  rw[QaI]at h2
  split at h2
  ·rename_i e
   have e:f=k:=by simpa using e
   have h3:s=sf:=by simpa using h2
   rw[e,<-h3]
   exact ho
  ·cases h2
 | .n k a b,ho,f,sf,h=>by
  have h:ifB (Nat.ble (Nat.succ f) k) (a.get f) (b.get f)=some sf:=h
  rw[QaI]at h
  split at h
  ·exact FT2.ok ho.1 f sf h
  ·exact FT2.ok ho.2 f sf h
def noOrc:Orc:=fun _=>none
theorem Qd5:OrcOK P noOrc:=fun f asg v h=>by cases h
theorem QdB {t:FT2} (ht:t.OK P) {orc:Orc} (ho:OrcOK P orc) {d f:Nat} {args:List AV} {v:AV} (k:AV->Bool) (hk:∀u,k u=true->u=v)
  (hx:callR ansB orc t.get (exR ansB orc t.get d) (.c .pure) f args .e 64 (fun u _ _=>k u)=true):PSpec P f args v:=by
 obtain⟨u,h',n',h1,_,h2⟩:=QgI Qga ho (FT2.ok ht) (QfI Qga ho (FT2.ok ht) d) _ _ _ _ _ _ hx
 have:=hk _ h1
 simp_all
theorem QpI {t:FT2} (ht:t.OK P) {orc:Orc} (ho:OrcOK P orc) {N d m:Nat} {c:FCode} {T:Tmps} {h:Heap} {Q:SX->St->Prop} (k:KcA Bool)
  (hx:exR ansB orc t.get d c T h m k=true) (hk:∀e T h n,k e T h n=true->Q e ⟨T,h⟩):W P N c.slim Q ⟨T,h⟩:=by
 obtain⟨e,T',h',n',h1,h2,_⟩:=QfI Qga ho (FT2.ok ht) d N c T h m k hx
 exact h2.mono fun e' B ⟨e1,e2⟩=>by subst e1;subst e2;exact hk _ _ _ _ h1
end
end Go.AM
namespace Go.AM
variable {P:Program}
end Go.AM
namespace Go.AM
abbrev Za (a:List Nat) (n:Nat):List Nat:=a++List.range n
abbrev Zz (d:Nat) (o:SOp) (a:List Nat):SOper:=⟨some d,o,a,none⟩
abbrev Zy (o:SOp) (a:List Nat):SOper:=⟨none,o,a,none⟩
abbrev Zm (d x:Nat) (a:List Nat):SOper:=⟨some d,.mov (.t x),a,none⟩
abbrev Zl (d x:Nat) (a:List Nat):SOper:=⟨some d,.load none (.t x),a,none⟩
abbrev Zf (d k x:Nat) (a:List Nat):SOper:=⟨some d,.faddr k (.t x),a,none⟩
abbrev Zv (d x:Nat) (a:List Nat):SOper:=⟨some d,.len 1 (.t x),a,none⟩
abbrev Zs (n x y:Nat) (a:List Nat):SOper:=⟨none,.store n (.t x) (.t y),a,none⟩
abbrev Zi (d n x y:Nat) (a:List Nat):SOper:=⟨some d,.iaddr none n (.t x) (.t y),a,none⟩
abbrev Zb (d:Nat) (o:BinOp) (x y:Nat) (a:List Nat):SOper:=⟨some d,.bin o (.t x) (.t y),a,none⟩
end Go.AM
namespace Go.AM.YA
open Go
def bt (d:Nat):Nat:=Nat.shiftLeft 1 d
def mn (a b:Nat):Nat:=Nat.xor a (Nat.land a b)
def msk (l:List Nat):Nat:=l.foldl (fun m d=>Nat.lor m (bt d)) 0
def om {α β:Type} (f:α->Option β):List α->Option (List β)
 |[]=>some []
 |x::r=>match f x,om f r with
  |some y,some ys=>some (y::ys)
  |_,_=>none
def omap {α β:Type} (f:α->Option β):Option α->Option (Option β)
 |none=>some none
 |some x=>(f x).map some
@[irreducible] def u8 (n:Nat):UInt8:=UInt8.ofNat n
theorem u8e (n:Nat):u8 n=UInt8.ofNat n:=by unfold u8;rfl
def avV:Nat->Value->Option AV
 |0,_=>none
 |n+1,v=>match v with
  | .bool b=>some (.bool b)
  | .int k n=>some (.int k n)
  | .string s=>some (.str (s.data.toList.map fun b=>u8 b.toNat))
  | .pointer none=>some .nilptr
  | .slice none 0 0=>some .nilsl
  | .map none=>some .nilmap
  | .nilFunc=>some .nilfn
  | .nilIface=>some .nilif
  | .agg cs=>(om (avV n) cs.toList).map .agg
  | .tuple cs=>(om (avV n) cs.toList).map .tup
  |_=>some .any
def opd:Operand->Option Opd
 | .tmp t=>some (.t t)
 | .const v=>(avV 5 v).map .c
 | .global g=>some (.g g)
 | .func f=>some (.f f)
def opds (l:Array Operand):Option (List Opd):=om opd l.toList
structure Cf where
 most:CallM:= .heap
 always:List (Nat×CallM):=[]
 modes:List (Nat×CallM):=[]
 value:CallM:= .heap
 eqn:Bool:=true
 lends:List Nat:=[]
 roomy:Bool:=false
section
variable (P:Program) (C:Cf)
def rowN (t:TypeId):Option (Option Nat):=
 match P.underlying t,P.info? t with
 |some (.struct _),some i=>some (some i.size)
 |some (.array _ _),some i=>some (some i.size)
 |some _,some _=>some none
 |_,_=>none
def zav (t:TypeId):Option AV:=(zeroOf P t).bind (avV 5)
def flk:Nat->TypeId->Option (List LK)
 |0,_=>none
 |d+1,t=>match P.underlying t with
  |some .bool=>some [.b]
  |some (.int _)=>some [.i]
  |some .string=>some [.s]
  |some (.struct fs)=>(om (fun f=>flk d f.type) fs.toList).map List.flatten
  |some (.array n e)=>(flk d e).map fun k=>(List.replicate n k).flatten
  |_=>none
def elemI (t:TypeId):Option (Nat×Nat×AV):=
 match P.underlying t with
 |some (.slice e)=>match P.info? e,zav P e with
  |some i,some z=>some (i.size,i.bytes,z)
  |_,_=>none
 |_=>none
def mapI (t:TypeId):Option (Bool×List LK×AV):=
 match P.underlying t with
 |some (.map kt et)=>match flk P 9 kt,zav P et with
  |some ks,some z=>some (rowB P kt,ks,z)
  |_,_=>none
 |_=>none
def size (t:TypeId):Option Nat:=(P.info? t).map (·.size)
def eqo (t:TypeId) (neg:Bool) (x y:Operand) (a b:Opd):Option SOp:=
 let nl:=some (SOp.eq (.nil (kindT P t)) neg a b)
 match P.underlying t with
 |some (.int _)|some .string=>some (.bin (cond neg .neq .eql) a b)
 |some .bool=>some (.eq (.flat false [.b]) neg a b)
 |some (.struct _)|some (.array _ _)=>(flk P 9 t).map fun k=> .eq (.flat true k) neg a b
 |some (.slice _)=>match C.eqn,y with
  |true,.const _=>some (.eqn neg a)
  |_,_=>nl
 |some (.pointer _)=>match x,y with
  | .const _,_=>nl
  |_,.const _=>nl
  |_,_=>some (.eqp neg a b)
 |_=>nl
def bld (t:TypeId):Bool:=
 match P.underlying t with
 | some (.struct fs) => match fs.toList with
  |[f,_]=>match P.underlying f.type with
   |some (.pointer u)=>u==t
   |_=>false
  |_=>false
 |_=>false
def ext (f:Operand):Option (Nat×Nat):=
 match f with
 | .func g=>(P.funcs[g]?).bind fun fn=>match fn.body with
  |none=>cond (fn.name== "math/bits.Add64") (some (0,g)) (cond (fn.name== "math/bits.Sub64") (some (1,g)) (cond (fn.name== "internal/abi.NoEscape") (some (2,g)) none))
  |_=>none
 |_=>none
def call (B : Bool) (c : Call) : Option SOp :=
 match opds c.args with
 |none=>none
 | some asx => match c.callee, asx, c.argTypes.toList with
  | .value f,_,_=>match ext P f with
   |some (k,g)=>some (.ext k g asx)
   |none=>(opd f).map fun x=> .call .heap x asx
  | .builtin .len,[y],[t]=>match P.underlying t with
   |some .string=>some (.len 0 y)
   |some (.slice _)=>some (.len 1 y)
   |some (.map _ _)=>some (.len 2 y)
   |_=>none
  | .builtin .append, [x, y], [t, t2] => match elemI P t, P.underlying t2 with
   |some (sz,by',z),some (.int _)=>some (.appendZ .dyn sz by' z.cells x y)
   |some (sz,by',_),_=>match B,P.underlying t with
    |true,some (.slice e)=>some (.appendT e .dyn sz by' x y)
    |_,_=>some (.append .dyn sz by' x y)
   |_,_=>none
  | .builtin .copy,[x,y],t::_=>(elemI P t).map fun q=> .copy q.1 x y
  | .builtin .cap,[y],_=>some (.cap y)
  | .builtin .clear,[x],[t]=>(elemI P t).map fun(sz,by',z)=> .clear sz by' z.cells x
  | .builtin .unsafeSliceData,[y],_=>some (.usd y)
  | .builtin .unsafeString,[x,n],[t,_]=>match P.underlying t with
   |some (.pointer e)=>some (.ustr e x n)
   |_=>none
  | .builtin .max,_,_=>some (.maxmin false asx)
  | .builtin .min,_,_=>some (.maxmin true asx)
  |_,_,_=>none
def rows (l:List (Nat×Operand)) (f:Nat->Option (Nat×Nat)):Option (List (Nat×Nat×Opd)):=
 om (fun(i,x)=>match f i,opd x with
  |some (o,s),some y=>some (o,s,y)
  |_,_=>none) l
def op (B:Bool) (o:Op):Option SOp:=
 match o with
 | .move x| .assign x=>(opd x).map .mov
 | .pick c a b=>match opd c,opd a,opd b with
  |some c,some a,some b=>some (.pick c a b)
  |_,_,_=>none
 | .alloc t=>(zav P t).map fun z=>cond (bld P t) (.allocT t .dyn z) (.alloc .dyn z)
 | .box _ x=>(opd x).map (.box .dyn)
 | .build t parts=>match (zeroOf P t).bind (fun z=>om (avV 5) z.cells.toList),rows parts.toList (placeOf P t)with
  |some z,some ps=>some (.build z ps)
  |_,_=>none
 | .buildSlice t n parts => match P.underlying t with
  |some (.slice e)=>(P.info? e).bind fun i=>i.zero.bind fun z=>match om (avV 5) z.cells.toList,rows parts.toList (fun k=>some (Nat.mul k i.size,i.size))with
   |some zs,some ps=>some (.bslice false .dyn i.size n (List.replicate n zs).flatten ps)
   |_,_=>none
  |_=>none
 | .load t x=>match rowN P t,opd x with
  |some n,some x=>some (.load n x)
  |_,_=>none
 | .store t x v=>match size P t,opd x,opd v with
  |some n,some x,some v=>some (.store n x v)
  |_,_,_=>none
 | .nilCheck x=>(opd x).map .nilchk
 | .binOp b t x y _ => match opd x, opd y with
  |some a,some c=>match b with
   | .eql=>eqo P C t false x y a c
   | .neq=>eqo P C t true x y a c
   |_=>some (.bin b a c)
  |_,_=>none
 | .unOp b _ x=>(opd x).map (.un b)
 | .convert s d x => (opd x).bind fun x => match P.underlying s, P.underlying d with
  |some (.int _),some (.int k)=>some (.conv k x)
  |some .string,some .string=>some (.convS x)
  |some (.int _),some .string=>some (.convS x)
  |some (.slice e),some .string=>match P.underlying e with
   |some (.int .u8)=>some (.convB x)
   |_=>none
  |some (.pointer t),some .unsafePointer=>(size P t).map fun n=> .convP t n x
  |some .unsafePointer,some (.pointer t)=>(size P t).map fun n=> .convP t n x
  |_,_=>none
 | .makeFunc (.func f) a b=>match opds a,opds b with
  |some a,some b=>some (.mkfn f a b)
  |_,_=>none
 | .makeMap _ none=>some (.mkmap .dyn)
 | .makeSlice t l c=>match elemI P t,opd l,opd c with
  |some (sz,by',z),some l,some c=>some (.mkslice .dyn sz by' z.cells l c)
  |_,_,_=>none
 | .slice t x l h m => match opd x, omap opd l, omap opd h, omap opd m, P.underlying t with
  |some x,some l,some h,some m,some (.slice e)=>(size P e).map fun n=>match C.roomy,h,m with
   |true,some _,none=> .sliceK n x l h
   |_,_,_=> .slice (some n) x l h m
  |some x,some l,some h,some m,some .string=>some (.slice none x l h m)
  |_,_,_,_,_=>none
 | .fieldAddr s x f=>match P.underlying s,opd x with
  |some (.struct fs),some x=>(fs[f]?).map fun d=> .faddr d.offset x
  |_,_=>none
 | .field s x f=>match P.underlying s,opd x with
  |some (.struct fs),some x=>(fs[f]?).bind fun d=>(rowN P d.type).map fun r=> .field r d.offset x
  |_,_=>none
 | .indexAddr t x i=>match P.underlying t,opd x,opd i with
  |some (.array n e),some x,some i=>(size P e).map fun s=> .iaddr (some n) s x i
  |some (.slice e),some x,some i=>(size P e).map fun s=> .iaddr none s x i
  |_,_,_=>none
 | .index t x i => match P.underlying t, opd x, opd i with
  |some (.array n e),some x,some i=>match rowN P e,size P e with
   |some r,some s=>some (.index (some (n,s,r.isSome)) x i)
   |_,_=>none
  |some .string,some x,some i=>some (.index none x i)
  |_,_,_=>none
 | .lookup t x i ok=>match mapI P t,opd x,opd i with
  |some (r,ks,z),some x,some i=>some (.lookup r ks z ok x i)
  |_,_,_=>none
 | .mapUpdate t m k v| .insert t m k v=>match mapI P t,opd m,opd k,opd v with
  |some (r,ks,_),some m,some k,some v=>some (.mupd r ks m k v)
  |_,_,_,_=>none
 | .mapEntry t m k=>match mapI P t,opd m,opd k with
  |some (r,ks,z),some m,some k=>some (.ment r ks z m k)
  |_,_,_=>none
 | .entryStore _ m s v=>match opd m,opd s,opd v with
  |some m,some s,some v=>some (.estore m s v)
  |_,_,_=>none
 | .extract x i=>(opd x).map (.extract i)
 | .call c=>call P B c
 |_=>none
def oper (B : Bool) (ops : Array Oper) (o : Oper) : SOper :=
  ⟨o.dst, (op P C B o.op).getD .bad, (o.after.toList.filter fun e => Region.binds .any e).map (·.on),
   match o.guard with
    |none=>none
    |some (j,w)=>((ops[j]?).bind (·.dst)).map fun s=>(s,w)⟩
def modeA (o:SOper):SOper:=match o with
 |⟨d,.call _ (.f g) asx,a,u⟩=>⟨d,.call ((C.always.lookup g).getD C.most) (.f g) asx,a,u⟩
 |⟨d,.call _ x asx,a,u⟩=>⟨d,.call C.value x asx,a,u⟩
 |_=>o
def modeB (o:SOper):SOper:=match o with
 |⟨d,.call _ (.f g) asx,a,u⟩=>⟨d,.call (match (C.always.lookup g).getD C.most with
  | .heap=>(C.modes.lookup g).getD .heap
  |m=>m) (.f g) asx,a,u⟩
 |_=>o
def unfree (s:List SOper):List (Nat×Nat):=
 let m:=masksFrom [] s
 (List.range s.length).flatMap fun j => (List.range j).filterMap fun k =>
  cond ((m.getD j 0).testBit k||pairOK s [] k j) none (some (k,j))
def lent (s:List SOper) (ps:List (Nat×Nat)):List (Nat×Nat):=
 (List.range s.length).filterMap fun k => match (s[k]?).map SOper.op with
  |some (.call .heap (.f g) _)=>cond (C.lends.contains g&&ps.any (fun p=>p.1==k||p.2==k)) (some (k,999999)) none
  |_=>none
def ops1 (B:Bool) (ops:Array Oper):List SOper:=ops.toList.map fun o=>modeA C (oper P C B ops o)
def reg (B:Bool) (ops:Array Oper) (draw:Bool):SCode:=
 let s:=ops1 P C B ops
 match draw with
 |false=> .region s [] []
 |true=>match unfree s with
  |[]=> .region s [] []
  |_=>let s:=s.map (modeB C);let ps:=unfree s;.region s (ps++lent C s ps) []
def mlH (B:Bool) (p:MLParts):Option (List SOper×Opd×Nat×Nat×Nat×Nat×List SOper):=
 match p.ops6.toList.getLast?,p.ops7.toList,p.ops8.toList with
 |some ⟨some it,.range _ y,_,_,_,_⟩,[⟨some nx,.next _ false,_,_,_,_⟩,⟨some ok,_,_,_,_,_⟩],⟨some en,.entry _,_,_,_,_⟩::r=>
  (opd y).map fun x=>(p.ops6.toList.dropLast.map (oper P C B p.ops6),x,it,nx,ok,en,r.map (oper P C B p.ops8))
 |_,_,_=>none
def code (rg : Array Oper -> Bool -> SCode) (B : Bool) (N : Nat) : Nat -> Code -> SCode
 |0,_=> .bad
 | n + 1, c => match mlParts c with
  |some p=>match mlH P C B p with
   |some (pre,x,it,nx,ok,en,rest)=> .mloop pre x it nx ok en p.b p.b3 rest (code rg B N n p.body)
   |none=> .bad
  | none => match c with
   | .skip=> .skip
   | .region _ ops draw=>rg ops draw
   | .seq a b=> .seq (code rg B N n a) (code rg B N n b)
   | .cond c a b=>match opd c with
    |some x=> .cond x (code rg B N n a) (code rg B N n b)
    |none=> .bad
   | .block i b=> .block i (code rg B N n b)
   | .loop b=> .loop (code rg B N n b)
   | .exit i=> .exit i
   | .ret=> .ret
   | .rangeFunc g ps a b=>match opd g with
    |some x=> .rfunc x ps.toList N (code rg B N n a) (code rg B N n b)
    |none=> .bad
   |_=> .bad
end
def it:Nat->(Nat->Nat)->Nat->Nat
 |0,_,l=>l
 |n+1,F,l=>match Nat.beq (mn (F l) l) 0 with
  |true=>l
  |false=>it n F (Nat.lor l (F l))
def back:List SOper->Nat->Nat
 |[],l=>l
 |o::r,l=>Nat.lor (match o.dst,o.guard with
  |some d,none=>mn (back r l) (bt d)
  |_,_=>back r l) (msk o.reads)
def exs (ex:List (Nat×Nat)):Nat:=ex.foldl (fun m p=>Nat.lor m p.2) 0
def live (ret:Nat):SCode->List (Nat×Nat)->Nat->Nat
 | .skip,_,out=>out
 | .region ops _ _,_,out=>back ops out
 | .seq a b,ex,out=>live ret a ex (live ret b ex out)
 | .cond x a b,ex,out=>Nat.lor (Nat.lor (msk x.slots) (live ret a ex out)) (live ret b ex out)
 | .block i b,ex,out=>live ret b ((i,out)::ex) out
 | .loop b,ex,_=>it 50 (live ret b ex) 0
 | .mloop pre x i nx ok en b1 b2 rest body,ex,out=>
  back pre (Nat.lor (mn (it 50 (fun l=>Nat.lor (Nat.lor out (bt i)) (mn (back rest (live ret body ((b1,out)::(b2,l)::ex) l)) (msk [en,ok,nx]))) (bt i)) (bt i)) (msk x.slots))
 | .exit i,ex,_=>(ex.lookup i).getD 0
 | .ret,_,_=>ret
 | .rfunc g ps _ a b,ex,out=>
  Nat.lor (Nat.lor (Nat.lor (msk g.slots) out) (mn (live ret a ex (live ret b ex 0)) (msk ps))) (Nat.lor ret (exs ex))
 | .bad,_,_=>0
def dsts (ops:List SOper):Nat:=msk (ops.filterMap (·.dst))
def mark:List SOper->Nat->List FOp
 |[],_=>[]
 |s::r,p=>match s.dst with
  |some d=>⟨!p.testBit d,s⟩::mark r (Nat.lor p (bt d))
  |none=>⟨false,s⟩::mark r p
def ann (ret:Nat):SCode->List (Nat×Nat)->Nat->Nat->FCode×Nat
 | .region ops ps _,_,out,p=>
  let all:=Nat.lor p (dsts ops)
  (.region (mark ops p) ps (mn all out),Nat.land all out)
 | .seq a b,ex,out,p=>
  let x:=ann ret a ex (live ret b ex out) p
  let y:=ann ret b ex out x.2
  (.seq x.1 y.1,y.2)
 | .cond c a b,ex,out,p=>
  let x:=ann ret a ex out p
  let y:=ann ret b ex out p
  (.cond c x.1 y.1,Nat.lor x.2 y.2)
 | .block i b,ex,out,p=>
  let x:=ann ret b ((i,out)::ex) out p
  (.block i x.1,Nat.lor x.2 (Nat.land p out))
 | .loop b,ex,out,p=>
  let l:=live ret (.loop b) ex out
  (.loop (ann ret b ex l (Nat.lor p l)).1,Nat.lor p l)
 | .mloop pre x i nx ok en b1 b2 rest body,ex,out,p=>
  let lv:=it 50 (fun l=>Nat.lor (Nat.lor out (bt i)) (mn (back rest (live ret body ((b1,out)::(b2,l)::ex) l)) (msk [en,ok,nx]))) (bt i)
  let p1:=Nat.lor p (dsts pre)
  let q:=Nat.lor p1 (msk [i,nx,ok,en])
  let p2:=Nat.lor q (dsts rest)
  let z:=ann ret body ((b1,out)::(b2,lv)::ex) lv (Nat.lor p2 lv)
  (.mloop (mark pre p) x i nx ok en b1 b2 (mark rest q) z.1,Nat.lor p2 z.2)
 | .rfunc g ps N a b,ex,out,p=>
  let x:=ann ret a ex (live ret b ex 0) (Nat.lor p (msk ps))
  (.rfunc g ps N x.1 (ann ret b ex 0 x.2).1,p)
 | .skip,_,_,p=>(.skip,p)
 | .exit i,_,_,p=>(.exit i,p)
 | .ret,_,_,p=>(.ret,p)
 | .bad,_,_,p=>(.bad,p)
def dd (C:Cf) (q:List (Nat×List (Nat×Nat))):SCode->List (List Nat)->SCode×List (List Nat)
 | .region ops _ _,d::r=>match q.lookup r.length with
  |some ps=>(.region (ops.map (modeB C)) ps d,r)
  |none=>(.region ops [] d,r)
 | .seq a b,l=>let x:=dd C q a l;let y:=dd C q b x.2;(.seq x.1 y.1,y.2)
 | .cond c a b,l=>let x:=dd C q a l;let y:=dd C q b x.2;(.cond c x.1 y.1,y.2)
 | .block i b,l=>let x:=dd C q b l;(.block i x.1,x.2)
 | .loop b,l=>let x:=dd C q b l;(.loop x.1,x.2)
 | .mloop pre x i nx ok en b1 b2 rest b,l=>let z:=dd C q b l;(.mloop pre x i nx ok en b1 b2 rest z.1,z.2)
 | .rfunc g ps n a b,l=>let x:=dd C q a l;let y:=dd C q b x.2;(.rfunc g ps n x.1 y.1,y.2)
 |c,l=>(c,l)
def resS (P:Program):ResultVar->SRes
 | .tmp t=> .tmp t
 | .cell a t=> .cell a ((rowN P t).getD none)
def SRes.slot:SRes->Nat
 | .tmp t=>t
 | .cell a _=>a
def ffn (P:Program) (C:Cf) (f:Nat):FFn:=
 match P.funcs[f]? with
 | some fn => match fn.body with
  |some c=>
   let C:Cf:={C with roomy:= "slices.Delete[".isPrefixOf fn.name}
   let res:=fn.results.toList.map (resS P)
   let m:=msk (res.map SRes.slot)
   ⟨fn.ntmps,res,(ann m (let B:= "(*strings.Builder)".isPrefixOf fn.name;code P C (reg P C B) B fn.ntmps 1000 c) [] m (msk (List.range (fn.params.size+fn.nfree)))).1⟩
  |none=>⟨0,[],.bad⟩
 |none=>⟨0,[],.bad⟩
def sfn (P:Program) (C:Cf) (f:Nat) (l:List (List Nat)) (q:List (Nat×List (Nat×Nat))):SFn:=
 match P.funcs[f]? with
 |some fn=>match fn.body with
  |some c=>⟨fn.ntmps,fn.results.toList.map (resS P),(dd C q (code P C (fun ops _=> .region (ops1 P C false ops) [] []) false fn.ntmps 1000 c) l).1⟩
  |none=>⟨0,[],.bad⟩
 |none=>⟨0,[],.bad⟩
theorem rr {a b:SFn} (h:a=b:=by conv=>lhs;reduce;simp only[Int.reduceOfNat,Int.reduceNegSucc,Go.AM.YA.u8e,UInt8.reduceOfNat]):a=b:=h
def Yt (P:Program) (C:Cf) (f:Nat) (l:List (List Nat)) (q:List (Nat×List (Nat×Nat)):=[]):=∀s:SFn,sfn P C f l q=s->SFn
def tre (P:Program) (C:Cf):Nat->List Nat->FT2
 |0,_=> .z
 |k+1,l=>match l with
  |[]=> .z
  |[f]=> .l f (ffn P C f)
  |_=>let h:=l.length/2;.n (l.getD h 0) (tre P C k (l.take h)) (tre P C k (l.drop h))
def allOK (P:Program) (C:Cf):List Nat->Bool
 |[]=>true
 |f::r=>okFn P f (ffn P C f).slim&&allOK P C r
theorem Qd6 {P:Program} {C:Cf}:∀{l:List Nat},allOK P C l=true->∀f∈l,okFn P f (ffn P C f).slim=true
 |[],_,_,h=>by cases h
 |g::r,h,f,hf=>by
  simp only[allOK,Bool.and_eq_true]at h
  rcases List.mem_cons.1 hf with rfl|hf
  ·exact h.1
  ·exact Qd6 h.2 f hf
theorem QeC {P:Program} {C:Cf}:∀(k:Nat) (l:List Nat),(∀f∈l,okFn P f (ffn P C f).slim=true)->(tre P C k l).OK P
 |0,_,_=>trivial
 |k+1,[],_=>trivial
 |k+1,[f],h=>h f (by simp)
 |k+1,f::g::r,h=>⟨QeC k _ fun x hx=>h x (List.mem_of_mem_take hx),QeC k _ fun x hx=>h x (List.mem_of_mem_drop hx)⟩
end Go.AM.YA
