/- A part of the proof of CatalogueSynthesisCardSaid: lemmas on the way (AmS, AmNa, AmYa). Conditions: none of ours. -/
import Derived.Test.YteiijgolpigjdaaGreatDoorAmS8
set_option linter.unusedSectionVars false
set_option maxHeartbeats 32000000
set_option maxRecDepth 100000
set_option linter.unusedVariables false
set_option linter.unusedSimpArgs false
namespace Go.AM
variable{P:Program}
noncomputable section
variable{α:Type}
inductive CM where|c(m:CallM)|rnd(g:Nat)|give(b g:Nat)(xs:List AV)|new|fr(hB:Heap)
abbrev CallerA(α:Type):=CM->Nat->List AV->Heap->Nat->(AV->Heap->Nat->α)->α
abbrev KcA(α:Type):=SX->Tmps->Heap->Nat->α
def evsK(T:Tmps)(xs:List Opd)(k:List AV->α):α:=@List.rec Opd (fun _=>(List AV->α)->α) (fun k=>k []) (fun x _ b k=>evK T x fun v=>b fun a=>k (v::a)) xs k
theorem Qiv(T:Tmps)(xs:List Opd)(k:List AV->α):evsK T xs k=k (evs T xs):=by
 have:∀(xs:List Opd)(k:List AV->α),@List.rec Opd (fun _=>(List AV->α)->α) (fun k=>k []) (fun x _ b k=>evK T x fun v=>b fun a=>k (v::a)) xs k=k (evs T xs):=by intro xs;induction xs with|nil=>intro k;rfl|cons x r b=>intro k;show evK T x (fun v=>@List.rec Opd (fun _=>(List AV->α)->α) (fun k=>k []) (fun x _ b k=>evK T x fun v=>b fun a=>k (v::a)) r fun a=>k (v::a))=_;rw[Qbo];exact b _
 exact this xs k
def iaddrR(A:Ans α)(arr:Option Nat)(sz:Nat)(x i:AV)(k:AV->α):α:=match i with|.int _ (.ofNat j)=>(match arr with|none=>(match x with|.sl b g off len s=>ifB (Nat.ble (Nat.succ j) len&&Nat.beq s sz) (fNat (Nat.add off (Nat.mul j sz)) fun o=>k (.ptr b g o)) A.bad|.fsl cs len s=>ifB (Nat.ble (Nat.succ j) len&&Nat.beq s sz) (fNat (Nat.mul j sz) fun o=>dropR cs o fun cs=>k (.fptr cs)) A.bad|_=>A.bad)|some m=>(match x with|.ptr b g off=>ifB (Nat.ble (Nat.succ j) m) (fNat (Nat.add off (Nat.mul j sz)) fun o=>k (.ptr b g o)) A.bad|.fptr cs=>ifB (Nat.ble (Nat.succ j) m) (fNat (Nat.mul j sz) fun o=>dropR cs o fun cs=>k (.fptr cs)) A.bad|_=>A.bad))|_=>A.bad
theorem QoT(A:Ans α)(arr:Option Nat)(sz:Nat)(x i:AV)(k:AV->α):iaddrR A arr sz x i k=A.bad\/∃v,aIAddr arr sz x i=some v/\iaddrR A arr sz x i k=k v:=by
 unfold iaddrR;split
 ·rename_i c j;have b:∀(len s:Nat),(Nat.ble (Nat.succ j) len&&Nat.beq s sz)=true->((0:Int)<=Int.ofNat j/\Int.ofNat j<(len:Int)/\s=sz):=by intro len s h;simp only[Bool.and_eq_true]at h;refine⟨Int.natCast_nonneg j,Int.ofNat_lt.2 (Nat.le_of_ble_eq_true h.1),by simpa using h.2⟩
  have a:∀(len:Nat),Nat.ble (Nat.succ j) len=true->((0:Int)<=Int.ofNat j/\Int.ofNat j<(len:Int)):=by simp_all
  split
  ·split
   ·rw[QaI];split;·simp_all[aIAddr,Qbv]
    simp_all
   ·rw[QaI];split;·simp_all[aIAddr,Qbv,Qhk]
    simp_all
   simp_all
  split
  ·rw[QaI];split;·simp_all[aIAddr,Qbv]
   simp_all
  ·rw[QaI];split;·simp_all[aIAddr,Qbv,Qhk]
   simp_all
  simp_all
 simp_all
def convR(A:Ans α)(a:IntKind)(x:AV)(k:AV->α):α:=match x with|.int _ (.ofNat m)=>ifB (Nat.ble m (hiN a)) (k (.int a (.ofNat m))) (optR A (aConv a x) k)|_=>optR A (aConv a x) k
theorem Qqe(A:Ans α)(a:IntKind)(x:AV)(k:AV->α):convR A a x k=match aConv a x with|some v=>k v|none=>A.bad:=by
 refine Eq.trans (b:=optR A (aConv a x) k) ?_ (by cases aConv a x with|none=>rfl|some v=>exact Qc4 v k);unfold convR;split;·grind[QaI,QfL,QhY,Nat.le_of_ble_eq_true,QbK]
 rfl
def opR(A:Ans α)(call:CallerA α)(i:Nat)(s:SOp)(T:Tmps)(h:Heap)(n:Nat)(k:AV->Heap->Nat->α):α:=match s with|.mov x=>evK T x fun v=>k v h n|.bin op x y=>evK T x fun a=>evK T y fun b=>binR A op a b fun v=>k v h n|.load m x=>evK T x fun a=>loadR A m a h fun v=>k v h n|.store m x v=>evK T x fun a=>evK T v fun v=>storeR A m a v h fun u h=>k u h n|.iaddr arr sz x j=>evK T x fun a=>evK T j fun j=>iaddrR A arr sz a j fun v=>k v h n|.faddr off x=>evK T x fun a=>optR A (aFAddr off a) fun v=>k v h n|.conv o x=>evK T x fun a=>convR A o a fun v=>k v h n|.extract j x=>evK T x fun a=>(match a with|.tup p=>nthR A p j fun v=>k v h n|_=>A.bad)|.pick c a b=>evK T c fun c=>(match c with|.bool t=>ifB t (evK T a fun v=>k v h n) (evK T b fun v=>k v h n)|_=>A.bad)|.un .not x=>evK T x fun a=>(match a with|.bool t=>ifB t (k (.bool false) h n) (k (.bool true) h n)|_=>A.bad)|.len 1 x=>evK T x fun a=>(match a with|.sl _ _ _ len _=>k (.int .i64 (.ofNat len)) h n|.fsl _ len _=>k (.int .i64 (.ofNat len)) h n|.nilsl=>k (.int .i64 (.ofNat 0)) h n|_=>runR A (aop i T s) h fun out l=>(match out with|.val v=>fAV v fun v=>k v l n|_=>A.bad))|.call m x args=>evK T x fun f=>(match f with|.fn f first captured=>evsK T args fun d=>(match m with|.heap=>fList (first++d++captured) fun d=>call (.c .heap) f d h n k|.pure=>fList (first++d++captured) fun d=>call (.c .pure) f d h n fun v _ n=>k v h n|.borrow=>runR A (mapH (frzH 4) (first++d++captured)) h fun d l=>call (.c .borrow) f d l n fun v _ n=>ifB (flatV v) (k v l n) A.bad)|.yld b g=>(match m with|.heap=>evsK T args fun d=>fList d fun d=>call (.rnd g) b d h n k|_=>A.bad)|_=>A.bad)|s=>runR A (aop i T s) h fun out l=>(match out with|.val v=>fAV v fun v=>k v l n|_=>A.bad)
theorem QnL{m:Option Nat}{x v:AV}{h h':Heap}(hm:(aLoad m x).run h=some (v,h')):h'=h:=by cases x with
 |ptr b g off=>simp only[aLoad]at hm;obtain⟨cs,_,hm⟩:=Qbh hm;cases m with
  |none=>cases hc:cs[off]? with|none=>simp[hc,HM.opt,HM.run]at hm|some u=>simp only[hc,HM.opt,HM.run,Option.some.injEq,Prod.mk.injEq]at hm;exact hm.2.symm
  |some m=>
   simp only at hm;split at hm;·simp_all[HM.run]
   simp[HM.run]at hm
 |fptr cs=>simp only[aLoad]at hm;cases m with
  |none=>cases cs with|nil=>simp[HM.opt,HM.run]at hm|cons u cs=>simp only[HM.opt,List.head?_cons,HM.run,Option.some.injEq,Prod.mk.injEq]at hm;exact hm.2.symm
  |some m=>
   simp only at hm;split at hm;·simp_all[HM.run]
   simp[HM.run]at hm
 |_=>simp[aLoad,HM.run]at hm
def stepFP(i:Nat)(s:SOp)(T:Tmps)(h:Heap):FP:=match s with|.call .heap _ _=>⟨true,[],[]⟩|s=>fpOf ((aop i T s).fp h)
def CallOKA(P:Program)(A:Ans α)(call:CallerA α):Prop:=∀(m:CallM)(f:Nat)(args:List AV)(h:Heap)(n:Nat)(k:AV->Heap->Nat->α),A.holds (call (.c m) f args h n k)->∃v a b,A.holds (k v a b)/\(m=.heap->HSpec P f args h v a)/\(m≠.heap->PSpec P f args v)
def RndOK(P:Program)(A:Ans α)(call:CallerA α):Prop:=∀(g b:Nat)(args:List AV)(h:Heap)(n:Nat)(k:AV->Heap->Nat->α),A.holds (call (.rnd g) b args h n k)->∃v a c,A.holds (k v a c)/\RSpec P b g args h v a
section
variable{A:Ans α}(hA:A.OK){call:CallerA α}(hc:CallOKA P A call)(hrn:RndOK P A call)
include hA hc hrn
theorem Qjl{i:Nat}{s:SOp}{T:Tmps}{h:Heap}{n:Nat}{k:AV->Heap->Nat->α}(c:A.holds (opR A call i s T h n k)):∃v h1 n',A.holds (k v h1 n')/\StepX P i s T h v h1 (stepFP i s T h):=by
 have j:∀{s:SOp}{o:Option AV}{v:AV},(∀m x a,s≠.call m x a)->aop i T s=lift o->o=some v->StepX P i s T h v h (stepFP i s T h):=by intro s o v p e ho;refine⟨.val v,h,by rw[e,ho];rfl,rfl,rfl,?_⟩;cases s<;>first|rfl|(exact absurd rfl (p _ _ _))
 have q:∀{s:SOp}{m:HM AV}{v:AV}{h1:Heap},(∀m x a,s≠.call m x a)->aop i T s=hval m->m.run h=some (v,h1)->StepX P i s T h v h1 (stepFP i s T h):=by intro s m v h1 p e hm;refine⟨.val v,h1,by grind[run_hval'],rfl,rfl,?_⟩;cases s<;>first|rfl|(exact absurd rfl (p _ _ _))
 have G:∀{s:SOp},(∀m x a,s≠.call m x a)->A.holds (runR A (aop i T s) h fun out w=>(match out with|.val v=>fAV v fun v=>k v w n|_=>A.bad))->∃v h1 n',A.holds (k v h1 n')/\StepX P i s T h v h1 (stepFP i s T h):=by intro s p c;rw[QcQ]at c;cases B:(aop i T s).run h with|none=>rw[B]at c;exact absurd c hA.bad|some r=>obtain⟨out,w⟩:=r;rw[B]at c;cases out with|call m f l=>exact absurd c hA.bad|round b g l=>exact absurd c hA.bad|val v=>simp only[Qc4]at c;refine⟨v,w,n,c,.val v,w,B,rfl,rfl,?_⟩;cases s<;>first|rfl|(exact absurd rfl (p _ _ _))
 unfold opR at c;split at c;·rw[Qbo]at c;exact⟨_,h,n,c,j (by simp) (o:=some _) rfl rfl⟩
 ·rw[Qbo,Qbo,Qq9]at c;split at c;·rename_i d;exact⟨_,h,n,c,j (by simp) rfl d⟩
  exact absurd c hA.bad
 ·rw[Qbo,QkV]at c;split at c;·rename_i v F d;have:F=h:=QnL d;subst this;exact⟨v,F,n,c,q (by simp) rfl d⟩
  exact absurd c hA.bad
 ·rw[Qbo,Qbo,QoS]at c;split at c;·rename_i d;exact⟨_,_,n,c,q (by simp) rfl d⟩
  exact absurd c hA.bad
 ·rw[Qbo,Qbo]at c;rcases QoT A _ _ _ _ (fun v=>k v h n)with e|⟨v,d,e⟩;·rw[e]at c;exact absurd c hA.bad
  rw[e]at c;exact⟨v,h,n,c,j (by simp) rfl d⟩
 ·rw[Qbo,QbK]at c;split at c;·rename_i d;exact⟨_,h,n,c,j (by simp) rfl d⟩
  exact absurd c hA.bad
 ·rw[Qbo,Qqe]at c;split at c;·rename_i d;exact⟨_,h,n,c,j (by simp) rfl d⟩
  exact absurd c hA.bad
 ·rw[Qbo]at c;split at c
  ·rename_i J d;rw[QmQ]at c;split at c;·rename_i H;exact⟨_,h,n,c,j (by simp) rfl (by rw[d];exact H)⟩
   exact absurd c hA.bad
  exact absurd c hA.bad
 ·rw[Qbo]at c;split at c
  ·rename_i t d;rw[QaI,Qbo,Qbo]at c;split at c;·rename_i y;exact⟨_,h,n,c,j (by simp) rfl (by rw[d,y];rfl)⟩
   rename_i y;exact⟨_,h,n,c,j (by simp) rfl (by rw[d];simp at y;rw[y];rfl)⟩
  exact absurd c hA.bad
 ·rw[Qbo]at c;split at c
  ·rename_i t d;rw[QaI]at c;split at c;·rename_i y;exact⟨_,h,n,c,j (by simp) rfl (by rw[d,y];rfl)⟩
   rename_i y;exact⟨_,h,n,c,j (by simp) rfl (by rw[d];simp at y;rw[y];rfl)⟩
  exact absurd c hA.bad
 ·rw[Qbo]at c;split at c;·rename_i d;exact⟨_,h,n,c,q (m:=.ret _) (by simp) (by show hval (aLenC 1 (ev T _))=_;rw[d];rfl) rfl⟩
  ·rename_i d;exact⟨_,h,n,c,q (m:=.ret _) (by simp) (by show hval (aLenC 1 (ev T _))=_;rw[d];rfl) rfl⟩
  ·rename_i d;exact⟨_,h,n,c,q (m:=.ret _) (by simp) (by show hval (aLenC 1 (ev T _))=_;rw[d];rfl) rfl⟩
  simp_all
 ·rename_i m x args;rw[Qbo]at c;split at c
  ·rename_i f first captured d;rw[Qiv]at c;have e:aop i T (.call m x args)=aCall m (.fn f first captured) (evs T args):=by rw[<-d];rfl
   cases m with|heap=>simp only[QcH]at c;obtain⟨v,h1,n',u,p,_⟩:=hc _ _ _ _ _ _ c;exact⟨v,h1,n',u,.call .heap f (first++evs T args++captured),h,by rw[e];rfl,.inl ⟨p rfl,rfl⟩⟩|pure=>simp only[QcH]at c;obtain⟨v,h1,n',u,_,p⟩:=hc _ _ _ _ _ _ c;exact⟨v,h,n',u,.call .pure f (first++evs T args++captured),h,by rw[e];rfl,p (by simp),rfl,rfl⟩|borrow=>
    simp only[QcQ]at c;split at c
    ·rename_i l w hm;obtain⟨v,h1,n',u,_,p⟩:=hc _ _ _ _ _ _ c;rw[QaI]at u;split at u
     ·rename_i hf;refine⟨v,w,n',u,.call .borrow f l,w,?_,p (by simp),hf,rfl,rfl⟩;rw[e];have:∀(m:HM (List AV))(h:Heap)(k:List AV->AOut),m.run h=some (l,w)->(m.bind fun l=>.ret (k l)).run h=some (k l,w):=by intro m;induction m with|ret a=>intro h k hm;simp only[HM.run,Option.some.injEq,Prod.mk.injEq]at hm;obtain⟨rfl,rfl⟩:=hm;rfl|fail=>intro h k hm;simp[HM.run]at hm|look b I E=>intro h k hm;exact E _ h k hm|put b x I E=>
       intro h k hm;obtain⟨K,hm⟩:=Qa3 hm;have:=E _ k hm;simp only[HM.bind,HM.run];have C:Nat.blt b lim=true:=by simp_all
       rw[C];exact this
      exact this _ h (fun l=>.call .borrow f l) hm
     exact absurd u hA.bad
    exact absurd c hA.bad
  ·rename_i b g d;cases m with|heap=>
   rw[Qiv]at c;simp only[QcH]at c;have e:aop i T (.call .heap x args)=aCall .heap (.yld b g) (evs T args):=by rw[<-d];rfl
   obtain⟨v,h1,n',u,p⟩:=hrn _ _ _ _ _ _ c;exact⟨v,h1,n',u,.round b g (evs T args),h,by rw[e];rfl,p,rfl⟩|pure=>exact absurd c hA.bad|borrow=>exact absurd c hA.bad
  exact absurd c hA.bad
 simp_all
end
def operR(A:Ans α)(call:CallerA α)(i:Nat)(s:SOper)(T:Tmps)(h:Heap)(n:Nat)(k:AV->Heap->Nat->α):α:=match s.guard with|none=>opR A call i s.op T h n k|some (g,a)=>lkK T g fun x=>(match x with|.bool b=>ifB a (ifB b (opR A call i s.op T h n k) (k (.tup []) h n)) (ifB b (k (.tup []) h n) (opR A call i s.op T h n k))|.tup []=>k (.tup []) h n|_=>A.bad)
def operFP(i:Nat)(s:SOper)(T:Tmps)(h:Heap):FP:=match s.guard with|none=>stepFP i s.op T h|some (g,a)=>match wantedA (lk T g) a with|some true=>stepFP i s.op T h|_=>⟨false,[],[]⟩
section
variable{A:Ans α}(hA:A.OK){call:CallerA α}(hc:CallOKA P A call)(hrn:RndOK P A call)
include hA hc hrn
theorem QgL{i:Nat}{s:SOper}{T:Tmps}{h:Heap}{n:Nat}{k:AV->Heap->Nat->α}(c:A.holds (operR A call i s T h n k)):∃v h1 n',A.holds (k v h1 n')/\StepV P i s T h v h1 (operFP i s T h):=by unfold operR at c;unfold StepV operFP;cases f:s.guard with|none=>rw[f]at c;obtain⟨v,h1,n',l,m⟩:=Qjl hA hc hrn c;exact⟨v,h1,n',l,m⟩|some p=>
 obtain⟨g,a⟩:=p;rw[f]at c;simp only[QeH]at c⊢;split at c
 ·rename_i b j;rw[j];have run:A.holds (opR A call i s.op T h n k)->b=a->∃v h1 n',A.holds (k v h1 n')/\∃d,wantedA (.bool b) a=some d/\if d=true then StepX P i s.op T h v h1 (match wantedA (.bool b) a with|some true=>stepFP i s.op T h|_=>⟨false,[],[]⟩)else(v=.tup []/\h1=h/\(match wantedA (.bool b) a with|some true=>stepFP i s.op T h|_=>⟨false,[],[]⟩)=⟨false,[],[]⟩):=by grind[Qjl,wantedA]
  have skip:A.holds (k (.tup []) h n)->b≠a->∃v h1 n',A.holds (k v h1 n')/\∃d,wantedA (.bool b) a=some d/\if d=true then StepX P i s.op T h v h1 (match wantedA (.bool b) a with|some true=>stepFP i s.op T h|_=>⟨false,[],[]⟩)else(v=.tup []/\h1=h/\(match wantedA (.bool b) a with|some true=>stepFP i s.op T h|_=>⟨false,[],[]⟩)=⟨false,[],[]⟩):=by grind[wantedA]
  simp only[QaI]at c;grind
 ·grind[wantedA]
 exact absurd c hA.bad
end
def ownArg:List AV->Option (Nat×Nat)|[]=>none|.sl b g _ _ _::_=>some (b,g)|_::xs=>ownArg xs
def newR(A:Ans α)(call:CallerA α)(f:Nat)(args a:List AV)(same:Bool)(R:List Nat)(i:Nat)(h:Heap)(n:Nat)(k:AV->Heap->Nat->FP->α):α:=ifB (noRefs a) (call .new f a h n fun v d _=>(match v with|.sl b g off len sz=>getR d b fun o=>(match o with|some (.cells j cs)=>ifB (Nat.beq j g&&Nat.ble off cs.length&&Nat.ble (Nat.succ i) lim) (dropR cs off fun c=>ifB (flatVs c||(noRefs c&&same)) (getR h i fun o=>(match o with|none=>putBR A h i (.cells 0 c) fun h1=>k (.sl i 0 0 len sz) h1 n ⟨false,i::R,[i]⟩|some _=>A.bad)) A.bad) A.bad|_=>A.bad)|v=>runR A (frzH 6 v) d fun v _=>ifB (noRef v&&(flatV v||same)) (fAV v fun v=>k v h n ⟨false,R,[]⟩) A.bad)) A.bad
mutual def refsV:AV->List Nat->List Nat|.ptr b _ _,acc=>b::acc|.sl b _ _ _ _,acc=>b::acc|.map b _,acc=>b::acc|.yld b _,acc=>b::acc|.agg cs,acc|.tup cs,acc|.fptr cs,acc|.fsl cs _ _,acc=>refsL cs acc|.fmap ks vs,acc=>refsL ks (refsL vs acc)|.fn _ x y,acc=>refsL x (refsL y acc)|.ifc _ v,acc=>refsV v acc|.typed _ _ v,acc=>refsV v acc|_,acc=>acc termination_by structural x=>x def refsL:List AV->List Nat->List Nat|[],acc=>acc|x::xs,acc=>refsV x (refsL xs acc)termination_by structural x=>x end
def refsE:List (AV×AV)->List Nat->List Nat|[],acc=>acc|p::r,acc=>refsV p.1 (refsV p.2 (refsE r acc))
def refsB(o:Option Blk)(acc:List Nat):List Nat:=match o with|some (.cells _ cs)=>refsL cs acc|some (.map _ es)=>refsE es acc|_=>acc
def fNats(l:List Nat)(k:List Nat->α):α:=@List.rec Nat (fun _=>(List Nat->α)->α) (fun k=>k []) (fun x _ a k=>fNat x fun x=>a fun l=>k (x::l)) l k
theorem Qhl(l:List Nat)(k:List Nat->α):fNats l k=k l:=by induction l generalizing k with|nil=>rfl|cons x r a=>show fNat x (fun x=>fNats r fun l=>k (x::l))=_;rw[Qbv,a]
def closR(h:Heap)(d:Nat)(todo acc:List Nat)(k:List Nat->α):α:=@Nat.rec (fun _=>List Nat->List Nat->α) (fun _ acc=>k acc) (fun _ a todo acc=>match todo with|[]=>k acc|b::todo=>ifB (hasB acc b) (a todo acc) (getR h b fun o=>fNats (refsB o todo) fun todo=>a todo (b::acc))) d todo acc
theorem Qhm(h:Heap):∀(d:Nat)(todo acc:List Nat)(k:List Nat->α),∃B,closR h d todo acc k=k B
 |0,todo,acc,k=>⟨acc,rfl⟩|d+1,[],acc,k=>⟨acc,rfl⟩|d+1,b::todo,acc,k=>by
  have e:closR h (d+1) (b::todo) acc k=ifB (hasB acc b) (closR h d todo acc k) (getR h b fun o=>fNats (refsB o todo) fun todo=>closR h d todo (b::acc) k):=rfl;rw[e,QaI];split;·exact Qhm h d todo acc k
  rw[QbJ,Qhl];exact Qhm h d _ _ k
def domK(t:Heap)(m o:Nat)(acc:List Nat)(k:List Nat->α):α:=@Tr.rec Blk (fun _=>Nat->Nat->List Nat->(List Nat->α)->α) (fun _ _ acc k=>k acc) (fun _ v _ c d m o acc k=>fNat (Nat.mul 2 m) fun a=>fNat (Nat.add m o) fun f=>fNat (Nat.add a o) fun b=>(match v with|some _=>c a f (o::acc) fun acc=>d a b acc k|none=>c a f acc fun acc=>d a b acc k)) t m o acc k
def domL:Heap->Nat->Nat->List Nat->List Nat|.e,_,_,acc=>acc|.n l v r,m,o,acc=>domL r (2*m) (2*m+o) (domL l (2*m) (m+o) (match v with|some _=>o::acc|none=>acc))
theorem Qiw:∀(t:Heap)(m o:Nat)(acc:List Nat)(k:List Nat->α),domK t m o acc k=k (domL t m o acc)|.e,m,o,acc,k=>rfl|.n l v r,m,o,acc,k=>by have e:domK (.n l v r) m o acc k=fNat (Nat.mul 2 m) fun a=>fNat (Nat.add m o) fun b=>fNat (Nat.add a o) fun c=>(match v with|some _=>domK l a b (o::acc) fun acc=>domK r a c acc k|none=>domK l a b acc fun acc=>domK r a c acc k):=rfl;rw[e];simp only[Qbv];cases v<;>simp only[Qiw l,Qiw r,domL]<;>rfl
theorem Qd7:∀(t:Heap)(m o:Nat){acc:List Nat}{b:Nat},b∈acc->b∈domL t m o acc|.e,_,_,_,_,h=>h|.n l v r,m,o,acc,b,h=>by simp only[domL];refine Qd7 r _ _ (Qd7 l _ _ ?_);grind
theorem Qhn:∀(t:Heap)(m o:Nat)(acc:List Nat)(j:Nat),t.get j≠none->m*j+o∈domL t m o acc
 |.e,_,_,_,j,h=>absurd (by simp[Tr.get]) h|.n l v r,m,o,acc,j,h=>by
  rw[Tr.get_n]at h;simp only[domL];by_cases a:j=0;·subst a;rw[if_pos rfl]at h;refine Qd7 r _ _ (Qd7 l _ _ ?_);grind
  rw[if_neg a]at h;by_cases h1:j%2=1
  ·rw[if_pos h1]at h;refine Qd7 r _ _ ?_;have:=Qhn l (2*m) (m+o) (match v with|some _=>o::acc|none=>acc) (j/2) h;have e:2*m*(j/2)+(m+o)=m*j+o:=by
    have:j=2*(j/2)+1:=by omega
    grind
   simp_all
  rw[if_neg h1]at h;have:=Qhn r (2*m) (2*m+o) (domL l (2*m) (m+o) (match v with|some _=>o::acc|none=>acc)) (j/2-1) h;have e:2*m*(j/2-1)+(2*m+o)=m*j+o:=by
   have:j=2*(j/2-1)+2:=by omega
   grind
  simp_all
def overR(A:Ans α)(c h:Heap)(D:List Nat)(k:Heap->α):α:=@List.rec Nat (fun _=>Heap->α) (fun h=>k h) (fun b _ a h=>getR c b fun o=>(match o with|some x=>putBR A h b x fun h=>a h|none=>a h)) D h
theorem Qe2{A:Ans α}{a:Heap}:∀{D:List Nat}{h:Heap}{k:Heap->α},(∀b∈D,b<lim)->overR A a h D k=k (over a h D)|[],h,k,_=>rfl|b::D,h,k,d=>by have e:overR A a h (b::D) k=getR a b fun o=>(match o with|some x=>putBR A h b x fun h=>overR A a h D k|none=>overR A a h D k):=rfl;rw[e,QbJ];simp only[over];cases a.get b with|none=>exact Qe2 fun b c=>d b (by simp[c])|some x=>simp only;rw[QbS,if_pos (d b (by simp))];exact Qe2 fun b c=>d b (by simp[c])
def frR(A:Ans α)(call:CallerA α)(f:Nat)(a:List AV)(h:Heap)(n:Nat)(k:AV->Heap->Nat->FP->α):α:=fNats (refsL a []) fun todo=>closR h 100000 todo [] fun B=>ifB (allLim B&&inBs B a&&B.all fun b=>blkIn B (h.get b)) (overR A h .e B fun g=>call (.fr g) f a h n fun v c d=>domK c 1 0 [] fun D=>ifB (allLim D&&(D.all fun b=>hasB B b||(h.get b).isNone)&&(B.all fun b=>hasB D b)&&D.all fun b=>(c.get b).isSome) (overR A c h D fun h1=>fNats (D.filter fun b=>!eqBlk (c.get b) (h.get b)) fun W=>k v h1 d ⟨false,D,W⟩) A.bad) A.bad
def callRG(A:Ans α)(call:CallerA α)(p:Nat)(i:Nat)(x:Opd)(args:List Opd)(T:Tmps)(h:Heap)(n:Nat)(k:AV->Heap->Nat->FP->α):α:=evK T x fun f=>(match f with|.fn f first captured=>evsK T args fun a=>fList (first++a++captured) fun a=>ifB (noRefs a) (newR A call f a a true [] i h n k) (match p with|0=>frR A call f a h n k|_=>runR A (mapH (frzH 4) a) h fun b _=>newR A call f a b false ((mapH (frzH 4) a).fp h).1 i h n k)|_=>A.bad)
def operRG(A:Ans α)(call:CallerA α)(p:Nat)(i:Nat)(s:SOper)(T:Tmps)(h:Heap)(n:Nat)(k:AV->Heap->Nat->FP->α):α:=match p,s.op with|p+1,.call .heap x args=>(match s.guard with|none=>callRG A call p i x args T h n k|some (g,a)=>lkK T g fun y=>(match y with|.bool b=>ifB a (ifB b (callRG A call p i x args T h n k) (k (.tup []) h n ⟨false,[],[]⟩)) (ifB b (k (.tup []) h n ⟨false,[],[]⟩) (callRG A call p i x args T h n k))|.tup []=>k (.tup []) h n ⟨false,[],[]⟩|_=>A.bad))|_,_=>operR A call i s T h n fun v h1 n=>k v h1 n (operFP i s T h)
def FrOK(P:Program)(A:Ans α)(call:CallerA α):Prop:=∀(b:Heap)(f:Nat)(args:List AV)(h:Heap)(n:Nat)(k:AV->Heap->Nat->α),A.holds (call (.fr b) f args h n k)->∃v a c,A.holds (k v a c)/\HSpec P f args b v a
def NewOK(P:Program)(A:Ans α)(call:CallerA α):Prop:=∀(f:Nat)(args:List AV)(h:Heap)(n:Nat)(k:AV->Heap->Nat->α),noRefs args=true->A.holds (call .new f args h n k)->∃v a b,A.holds (k v a b)/\HSpec P f args .e v a/\∀u c,(frzH 6 v).run a=some (u,c)->noRef u=true->PSpec P f args u
section
variable{A:Ans α}(hA:A.OK){call:CallerA α}
include hA
theorem QhZ(hnw:NewOK P A call){f:Nat}{args d:List AV}{same:Bool}{R:List Nat}{i:Nat}{h:Heap}{n:Nat}{k:AV->Heap->Nat->FP->α}(o:same=true->d=args)(t:(d=args/\R=[])\/((mapH (frzH 4) args).run h=some (d,h)/\R=((mapH (frzH 4) args).fp h).1))(c:A.holds (newR A call f args d same R i h n k)):∃v h1 n' fp,A.holds (k v h1 n' fp)/\NStep P i f args h v h1 fp:=by
 unfold newR at c;rw[QaI]at c;split at c
 ·rename_i q;obtain⟨v,r,n',a,l,m⟩:=hnw _ _ _ _ _ q c;have flat:∀u,A.holds (runR A (frzH 6 u) r fun v _=>ifB (noRef v&&(flatV v||same)) (fAV v fun v=>k v h n ⟨false,R,[]⟩) A.bad)->u=v->∃v h1 n' fp,A.holds (k v h1 n' fp)/\NStep P i f args h v h1 fp:=by
   rintro u c rfl;rw[QcQ]at c;split at c
   ·rename_i v2 F w;rw[QaI]at c;split at c;·rename_i hc;simp only[Bool.and_eq_true,Bool.or_eq_true]at hc;rw[Qc4]at c;exact⟨v2,h,n,_,c,d,R,t,.inr ⟨m _ _ w hc.1,hc.2.imp id o,rfl,rfl⟩⟩
    exact absurd c hA.bad
   exact absurd c hA.bad
  split at a
  ·rename_i b g off len sz;rw[QbJ]at a;split at a
   ·rename_i s cs C;rw[QaI]at a;split at a
    ·rename_i hc;simp only[Bool.and_eq_true]at hc;obtain⟨⟨x,B⟩,E⟩:=hc;have y:s=g:=by simpa using x
     subst y;have p:i<lim:=Nat.le_of_ble_eq_true E;rw[Qhk,QaI]at a;split at a
     ·rename_i j;simp only[Bool.or_eq_true,Bool.and_eq_true]at j;rw[QbJ]at a;split at a;·rename_i hi;rw[QbS,if_pos p]at a;exact⟨_,_,_,_,a,d,R,t,.inl ⟨cs.drop off,len,sz,⟨l.1,q,b,s,off,cs,r,rfl,Nat.le_of_ble_eq_true B,C,l⟩,j.imp id (fun h=>⟨h.1,o h.2⟩),p,hi,rfl,rfl,rfl⟩⟩
      exact absurd a hA.bad
     exact absurd a hA.bad
    exact absurd a hA.bad
   exact absurd a hA.bad
  grind
 exact absurd c hA.bad
end
section
variable{A:Ans α}(hA:A.OK){call:CallerA α}
include hA
theorem QoU(hfr:FrOK P A call){f:Nat}{c:List AV}{h:Heap}{n:Nat}{k:AV->Heap->Nat->FP->α}(g:A.holds (frR A call f c h n k)):∃v h1 n' fp,A.holds (k v h1 n' fp)/\FStep P f c h v h1 fp:=by
 unfold frR at g;rw[Qhl]at g;obtain⟨B,e⟩:=Qhm (α:=α) h 100000 (refsL c []) [] (fun B=>ifB (allLim B&&inBs B c&&B.all fun b=>blkIn B (h.get b)) (overR A h .e B fun l=>call (.fr l) f c h n fun v d r=>domK d 1 0 [] fun D=>ifB (allLim D&&(D.all fun b=>hasB B b||(h.get b).isNone)&&(B.all fun b=>hasB D b)&&D.all fun b=>(d.get b).isSome) (overR A d h D fun h1=>fNats (D.filter fun b=>!eqBlk (d.get b) (h.get b)) fun W=>k v h1 r ⟨false,D,W⟩) A.bad) A.bad);rw[e,QaI]at g;clear e;split at g
 ·rename_i hc;simp only[Bool.and_eq_true]at hc;obtain⟨⟨o,p⟩,s⟩:=hc;rw[Qe2 fun b a=>Qdu o a]at g;obtain⟨v,d,n',i,q⟩:=hfr _ _ _ _ _ _ g;rw[Qiw,QaI]at i;split at i
  ·rename_i j;simp only[Bool.and_eq_true]at j;obtain⟨⟨⟨m,u⟩,t⟩,x⟩:=j;rw[Qe2 fun b a=>Qdu m a,Qhl]at i;refine⟨v,_,n',_,i,B,domL d 1 0 [],_,d,o,m,p,fun b a=>List.all_eq_true.1 s b a,q,fun b a e=>?_,fun b a=>?_,fun b a=>Qdg.1 (List.all_eq_true.1 t b a),fun b a l=>?_,fun b a w=>?_,fun b a=>(List.mem_filter.1 a).1,rfl,rfl⟩;·grind
   ·have :=Qhn d 1 0 [] b a;simp_all
   ·have :=List.all_eq_true.1 u b a;simp_all[Qdg]
   grind[Qp8]
  exact absurd i hA.bad
 exact absurd g hA.bad
end
section
variable{A:Ans α}(hA:A.OK){call:CallerA α}(hc:CallOKA P A call)(hrn:RndOK P A call)(hgv:FrOK P A call)(hnw:NewOK P A call)
include hA hc hrn hgv hnw
theorem QfP{p:Nat}{i:Nat}{x:Opd}{args:List Opd}{T:Tmps}{h:Heap}{n:Nat}{k:AV->Heap->Nat->FP->α}(a:A.holds (callRG A call p i x args T h n k)):∃v h1 n' f,A.holds (k v h1 n' f)/\StepX P i (.call .heap x args) T h v h1 f:=by
 unfold callRG at a;rw[Qbo]at a;split at a
 ·rename_i f first captured g;rw[Qiv,QcH,QaI]at a;have e:aop i T (.call .heap x args)=aCall .heap (ev T x) (evs T args):=rfl;have b:(aop i T (.call .heap x args)).run h=some (.call .heap f (first++evs T args++captured),h):=by rw[e,g];rfl
  have step:∀{v:AV}{h1:Heap}{fp:FP},NStep P i f (first++evs T args++captured) h v h1 fp->StepX P i (.call .heap x args) T h v h1 fp:=by intro v h1 fp c;exact⟨.call .heap f (first++evs T args++captured),h,b,.inr (.inr (.inl c))⟩
  split at a;·obtain⟨v,h1,n',fp,d,c⟩:=QhZ hA hnw (fun _=>rfl) (.inl ⟨rfl,rfl⟩) a;grind
  split at a;·obtain⟨v,h1,n',fp,d,c⟩:=QoU hA hgv a;exact⟨v,h1,n',fp,d,.call .heap f (first++evs T args++captured),h,b,.inr (.inr (.inr c))⟩
  rw[QcQ]at a;split at a;·rename_i j l hm;have:l=h:=HM.Qop _ (QcP (QdW 4) _) hm;subst this;obtain⟨v,h1,n',fp,d,c⟩:=QhZ hA hnw (fun e=>by cases e) (.inr ⟨hm,rfl⟩) a;grind
  exact absurd a hA.bad
 exact absurd a hA.bad
theorem QkX{p:Nat}{i:Nat}{s:SOper}{T:Tmps}{h:Heap}{n:Nat}{k:AV->Heap->Nat->FP->α}(c:A.holds (operRG A call p i s T h n k)):∃v h1 n' f,A.holds (k v h1 n' f)/\StepV P i s T h v h1 f:=by
 have o:A.holds (operR A call i s T h n fun v h1 n=>k v h1 n (operFP i s T h))->∃v h1 n' f,A.holds (k v h1 n' f)/\StepV P i s T h v h1 f:=by grind[QgL]
 unfold operRG at c;split at c;·rename_i p x args ho;unfold StepV;cases m:s.guard with|none=>rw[m]at c;simp only at c⊢;rw[ho];exact QfP hA hc hrn hgv hnw c|some q=>
  obtain⟨g,a⟩:=q;rw[m]at c;simp only[QeH]at c⊢;rw[ho];split at c
  ·rename_i b l;rw[l];have run:A.holds (callRG A call p i x args T h n k)->b=a->∃v h1 n' f,A.holds (k v h1 n' f)/\∃j,wantedA (.bool b) a=some j/\if j=true then StepX P i (.call .heap x args) T h v h1 f else(v=.tup []/\h1=h/\f=⟨false,[],[]⟩):=by intro d e;obtain⟨v,h1,n',f,u,t⟩:=QfP hA hc hrn hgv hnw d;subst e;exact⟨v,h1,n',f,u,true,by simp[wantedA],by simpa using t⟩
   have skip:A.holds (k (.tup []) h n ⟨false,[],[]⟩)->b≠a->∃v h1 n' f,A.holds (k v h1 n' f)/\∃j,wantedA (.bool b) a=some j/\if j=true then StepX P i (.call .heap x args) T h v h1 f else(v=.tup []/\h1=h/\f=⟨false,[],[]⟩):=by
    intro d e;have r:(b==a)=false:=by simpa using e
    exact⟨.tup [],h,n,_,d,false,by simp[wantedA,r],by simp⟩
   simp only[QaI]at c;grind
  ·rename_i l;rw[l];exact⟨.tup [],h,n,_,c,false,by simp[wantedA],by simp⟩
  exact absurd c hA.bad
 simp_all
end
def opsR(A:Ans α)(call:CallerA α)(ops:List FOp)(j:Nat)(T:Tmps)(h:Heap)(n:Nat)(k:Tmps->Heap->Nat->α):α:=@List.rec FOp (fun _=>Nat->Tmps->Heap->Nat->α) (fun _ T h n=>k T h n) (fun s _ a j T h n=>operR A call j s.o T h n fun v h n=>putS s.nw T s.o.dst v fun T=>fNat (Nat.succ j) fun j=>a j T h n) ops j T h n
def pmark(a:List (Nat×Nat))(i:Nat):Nat:=ifB (a.any fun p=>Nat.beq p.1 i&&Nat.beq p.2 999999) 2 (ifB (a.any fun p=>Nat.beq p.1 i||Nat.beq p.2 i) 1 0)
def opsRF(A:Ans α)(call:CallerA α)(d:List (Nat×Nat))(ops:List FOp)(i j:Nat)(T:Tmps)(h:Heap)(n:Nat)(k:List FP->Tmps->Heap->Nat->α):α:=@List.rec FOp (fun _=>Nat->Nat->Tmps->Heap->Nat->(List FP->Tmps->Heap->Nat->α)->α) (fun _ _ T h n k=>k [] T h n) (fun s _ b i j T h n k=>operRG A call (pmark d i) j s.o T h n fun v h1 n f=>putS s.nw T s.o.dst v fun T1=>fNat (Nat.succ j) fun a=>fNat (Nat.succ i) fun c=>b c a T1 h1 n fun fs=>k (f::fs)) ops i j T h n k
theorem QgM{i:Nat}{s:SOp}{T T':Tmps}{h:Heap}{v:AV}{h1:Heap}{f:FP}(e:∀j,lk T j=lk T' j)(a:StepX P i s T h v h1 f):StepX P i s T' h v h1 f:=by grind[StepX,QiW]
theorem Qey{i:Nat}{s:SOper}{T T':Tmps}{h:Heap}{v:AV}{h1:Heap}{f:FP}(e:∀j,lk T j=lk T' j)(a:StepV P i s T h v h1 f):StepV P i s T' h v h1 f:=by
 unfold StepV at a⊢;split;·grind[QgM]
 rename_i g k l;rw[l]at a;obtain⟨b,m,d⟩:=a;refine⟨b,by simp_all,?_⟩;split;·rename_i c;rw[if_pos c]at d;exact QgM e d
 simp_all
section
variable{A:Ans α}(hA:A.OK){call:CallerA α}(hc:CallOKA P A call)(hrn:RndOK P A call)
include hA hc hrn
theorem QdC{base:Nat}{k:Tmps->Heap->Nat->α}:∀(r:List FOp)(i:Nat)(T T0:Tmps)(h:Heap)(n:Nat),(∀j,lk T j=lk T0 j)->A.holds (opsR A call r (base+i) T h n k)->∃T' T0' h' n' fs,A.holds (k T' h' n')/\(∀j,lk T' j=lk T0' j)/\RunF P base i (r.map FOp.o) fs ⟨T0,h⟩ ⟨T0',h'⟩
 |[],i,T,T0,h,n,e,a=>⟨T,T0,h,n,[],a,e,rfl,rfl⟩|s::r,i,T,T0,h,n,e,a=>by
  have a:A.holds (operR A call (base+i) s.o T h n fun v h n=>putS s.nw T s.o.dst v fun T=>fNat (Nat.succ (base+i)) fun j=>opsR A call r j T h n k):=a;obtain⟨v,h1,d,c,m⟩:=QgL hA hc hrn a;obtain⟨T1,b,p⟩:=Qjk s.nw T s.o.dst v (fun T=>fNat (Nat.succ (base+i)) fun j=>opsR A call r j T h1 d k);rw[b,Qbv]at c;have o:∀j,lk T1 j=lk (putD T0 s.o.dst v) j:=by simp_all[QbI]
  obtain⟨T',T0',h',n',fs,f,g,l⟩:=QdC (base:=base) r (i+1) T1 (putD T0 s.o.dst v) h1 d o c;exact⟨T',T0',h',n',_::fs,f,g,_,fs,v,h1,rfl,Qey e m,l⟩
omit hc hrn in theorem QgN(hc:CallOKA P A call)(hrn:RndOK P A call)(hgv:FrOK P A call)(hnw:NewOK P A call){ps:List (Nat×Nat)}{base:Nat}:∀(r:List FOp)(i:Nat)(T T0:Tmps)(h:Heap)(n:Nat)(k:List FP->Tmps->Heap->Nat->α),(∀j,lk T j=lk T0 j)->A.holds (opsRF A call ps r i (base+i) T h n k)->∃T' T0' h' n' fs,A.holds (k fs T' h' n')/\(∀j,lk T' j=lk T0' j)/\RunF P base i (r.map FOp.o) fs ⟨T0,h⟩ ⟨T0',h'⟩
 |[],i,T,T0,h,n,k,e,hx=>⟨T,T0,h,n,[],hx,e,rfl,rfl⟩|s::r,i,T,T0,h,n,k,e,hx=>by
  have hx:A.holds (operRG A call (pmark ps i) (base+i) s.o T h n fun v h1 n f=>putS s.nw T s.o.dst v fun T1=>fNat (Nat.succ (base+i)) fun j1=>fNat (Nat.succ i) fun i1=>opsRF A call ps r i1 j1 T1 h1 n fun fs=>k (f::fs)):=hx;obtain⟨v,h1,n1,f,hk,hs⟩:=QkX hA hc hrn hgv hnw hx;obtain⟨T1,hT1,e1⟩:=Qjk s.nw T s.o.dst v (fun T1=>fNat (Nat.succ (base+i)) fun j1=>fNat (Nat.succ i) fun i1=>opsRF A call ps r i1 j1 T1 h1 n1 fun fs=>k (f::fs));rw[hT1,Qbv,Qbv]at hk;have e2:∀j,lk T1 j=lk (putD T0 s.o.dst v) j:=by simp_all[QbI]
  obtain⟨T',T0',h',n',fs,h2,h3,h4⟩:=QgN hc hrn hgv hnw (base:=base) r (i+1) T1 (putD T0 s.o.dst v) h1 n1 _ e2 hk;exact⟨T',T0',h',n',_::fs,h2,h3,_,fs,v,h1,rfl,Qey e hs,h4⟩
end
theorem W.regionS{N:Nat}{Q:SX->St->Prop}{A C:St}{sops:List SOper}{pairs:List (Nat×Nat)}{dead:List Nat}(base:Nat)(fs:List FP)(k:RunF P base 0 sops fs A C)(hp:(pairs.all fun p=>(fs.getD p.1 ⟨false,[],[]⟩).apart (fs.getD p.2 ⟨false,[],[]⟩))=true){L:Tmps}(l:Sub L C.T)(hQ:Q .normal ⟨L,C.h⟩):W P N (.region sops pairs dead) Q A:=by
 have h1:=RunF.to_L (P:=P) (base:=base) (sops:=sops) sops [] fs [] A C (by simp) rfl k;intro code b c a w S ro j Q' d;cases code<;>simp only[okCode,Bool.false_eq_true]at b;refine QfH b (base:=base) (fpf:=fun i=>fs.getD i ⟨false,[],[]⟩) (by simpa[List.range_eq_range']using h1) ?_ S fun g h f S' E'=>d .normal _ g h f hQ ?_ E';·simp_all
 refine⟨S'.heap,fun i=>?_,S'.size,S'.defers⟩;rcases l i with e|e;·simp_all[VRel]
 show VRel g f (lk L i) _;rw[e];exact S'.tmps i
def argR(i:Nat)(l:List AV)(k:Tmps->α):α:=@List.rec AV (fun _=>Nat->(Tmps->α)->α) (fun _ k=>k []) (fun x _ a i k=>fNat (Nat.succ i) fun j=>a j fun r=>k ((i,x)::r)) l i k
theorem Qix(i:Nat)(l:List AV)(k:Tmps->α):argR i l k=k (argT i l):=by induction l generalizing i k with|nil=>rfl|cons x r a=>show fNat (Nat.succ i) (fun j=>argR j r fun r=>k ((i,x)::r))=_;rw[Qbv,a];rfl
def resR(A:Ans α)(T:Tmps)(h:Heap)(l:List SRes)(k:List AV->α):α:=@List.rec SRes (fun _=>(List AV->α)->α) (fun k=>k []) (fun x _ c k=>(match x with|.tmp t=>lkK T t fun v=>c fun b=>k (v::b)|.cell a m=>lkK T a fun p=>loadR A m p h fun v=>c fun b=>k (v::b))) l k
theorem Qiy(A:Ans α)(T:Tmps)(h:Heap)(l:List SRes)(k:List AV->α):resR A T h l k=match resV T h l with|some vs=>k vs|none=>A.bad:=by
 have:∀(l:List SRes)(k:List AV->α),resR A T h l k=match resV T h l with|some vs=>k vs|none=>A.bad:=by intro l;induction l with|nil=>intro k;rfl|cons x r b=>intro k;cases x with|tmp t=>show lkK T t (fun v=>resR A T h r fun vs=>k (v::vs))=_;rw[QeH,b];simp only[resV];cases resV T h r<;>rfl|cell a m=>show lkK T a (fun p=>loadR A m p h fun v=>resR A T h r fun vs=>k (v::vs))=_;rw[QeH,QkV];simp only[resV];cases(aLoad m (lk T a)).run h with|none=>rfl|some q=>obtain⟨v,c⟩:=q;simp only;rw[b];cases resV T h r<;>rfl
 exact this l k
abbrev Orc:=Nat->Option (List AV×AV)
def bodyR(A:Ans α)(sf:FFn)(run:FCode->Tmps->Heap->Nat->KcA α->α)(args:List AV)(h:Heap)(n:Nat)(k:AV->Heap->Nat->α):α:=argR 0 args fun T=>run sf.body T h n fun e T h n=>(match e with|.exit _=>A.bad|_=>resR A T h sf.res fun a=>fAV (resOf a) fun v=>k v h n)
def upsR(T:Tmps)(a:List Nat)(xs:List AV)(k:Tmps->α):α:=match a,xs with|p::a,x::xs=>upR T p x fun T=>upsR T a xs k|_,_=>k T
theorem QmR:∀(a:List Nat)(xs:List AV)(T:Tmps)(k:Tmps->α),upsR T a xs k=k (upsT T a xs)|[],xs,T,k=>by cases xs<;>rfl|p::a,[],T,k=>rfl|p::a,x::xs,T,k=>by show upR T p x (fun T=>upsR T a xs k)=_;rw[Qdv,QmR a xs];rfl
def rndR(A:Ans α)(run:FCode->Tmps->Heap->Nat->KcA α->α)(g b:Nat)(args:List AV)(h:Heap)(n:Nat)(k:AV->Heap->Nat->α):α:=getR h b fun o=>(match o with|some (.loop C N T l (.f q) (.f body) .ready)=>ifB (Nat.beq C g&&Nat.ble (Nat.succ b) lim&&Nat.beq args.length l.length&&l.all fun p=>Nat.ble (Nat.succ p) N) (upsR T l args fun T1=>run q T1 h n fun e T2 s x=>(match e with|.normal=>getR s b fun u=>(match u with|some (.loop y N2 T2' r j c .ready)=>ifB (Nat.beq y g) (putBR A s b (.loop g N2 T2' r j c .busy) fun v=>run body T2 v x fun e T4 i t=>getR i b fun B=>(match B with|some (.loop w N4 T4' d f a .busy)=>ifB (Nat.beq w g) (match e with|.normal=>putBR A i b (.loop g N4 T4' d f a .ready) fun m=>k (.bool true) m t|e=>putBR A i b (.loop g N4 T4' d f a (.done e)) fun m=>k (.bool false) m t) A.bad|_=>A.bad)) A.bad|_=>A.bad)|_=>A.bad)) A.bad|_=>A.bad)
def unRoom(v:AV):AV:=match v with|.typed _ (_+1) (.sl b g off len sz)=>.sl b g off len sz|v=>v
theorem HSpec.unRoom{f:Nat}{args:List AV}{h h':Heap}{v:AV}(b:HSpec P f args h v h'):HSpec P f args h (unRoom v) h':=by
 refine⟨b.1,fun c w a H d=>(b.2 c w a H d).mono ?_⟩;rintro e j⟨i,g,he,E,H',V⟩;refine⟨i,g,he,E,H',?_⟩;unfold Go.AM.unRoom;split;·simp only[VRel]at V;simpa only[VRel]using V.2
 exact V
def callR(A:Ans α)(orc:Orc)(fns:Nat->Option FFn)(run:FCode->Tmps->Heap->Nat->KcA α->α):CallerA α:=fun i f args h n k=>match i with
 |.rnd g=>rndR A run g f args h n k|.new=>match orc f with|some _=>A.bad|none=>match fns f with|none=>A.bad|some sf=>ifB (Nat.ble args.length sf.n) (bodyR A sf run args .e 64 k) A.bad
 |.fr d=>match orc f with|some _=>A.bad|none=>match fns f with|none=>A.bad|some sf=>ifB (Nat.ble args.length sf.n) (bodyR A sf run args d n fun v h n=>k (unRoom v) h n) A.bad
 |.give b g xs=>match orc f with|some _=>A.bad|none=>match fns f with|none=>A.bad|some sf=>ifB (Nat.ble args.length sf.n) (bodyR A sf run args (one b (.cells g xs)) n fun v a _=>runR A (frzH 6 v) a fun v _=>ifB (noRef v) (fAV v fun v=>k v h n) A.bad) A.bad
 |.c m=>match orc f with|some (c,v)=>(match m with|.heap=>A.bad|_=>A.asm args c (k v h n))|none=>match fns f with|none=>A.bad|some sf=>ifB (Nat.ble args.length sf.n) (match m with|.heap=>bodyR A sf run args h n fun v h n=>k (unRoom v) h n|_=>ifB (noRefs args) (bodyR A sf run args .e 64 fun v a _=>runR A (frzH 6 v) a fun v _=>ifB (noRef v) (fAV v fun v=>k v h n) A.bad) A.bad) A.bad
theorem W.QkY{N:Nat}{g:SCode}{k:SX}{T':Tmps}{h':Heap}{A:St}(h:W P N g (fun e B=>e=k/\B.h=h'/\Sub T' B.T) A):W P N g (fun e B=>e=k/\B=⟨T',h'⟩) A:=by
 intro code d c a w S ro b Q' o;refine h code d c a w S ro b Q' ?_;rintro e B f l j⟨rfl,rfl,m⟩S' E';refine o e ⟨T',B.h⟩ f l j ⟨rfl,rfl⟩ ⟨S'.heap,fun i=>?_,S'.size,S'.defers⟩ E';rcases m i with e|e;·simp_all[VRel]
 show VRel f j (lk T' i) _;rw[e];exact S'.tmps i
def ml1(e:SX)(a b2:Nat)(J:Prop)(X:SX->Prop):Prop:=match e with|.normal=>J|.exit j=>if j=b2 then J else if j=a then X .normal else X (.exit j)|.ret=>X .ret
theorem RunF.congr{base:Nat}:∀{r:List SOper}{i:Nat}{fs:List FP}{T T':Tmps}{h:Heap}{C:St},RunF P base i r fs ⟨T,h⟩ C->(∀j,lk T j=lk T' j)->∃D:St,RunF P base i r fs ⟨T',h⟩ D/\D.h=C.h/\∀j,lk C.T j=lk D.T j|[],i,fs,T,T',h,C,a,e=>by obtain⟨rfl,rfl⟩:=a;exact⟨⟨T',h⟩,⟨rfl,rfl⟩,rfl,e⟩|s::r,i,fs,T,T',h,C,a,e=>by obtain⟨f,b,v,h1,rfl,c,a⟩:=a;obtain⟨D,g,d,k⟩:=RunF.congr a (T':=putD T' s.dst v) (fun j=>by grind[QbI]);exact⟨D,⟨f,b,v,h1,rfl,Qey e c,g⟩,d,k⟩
theorem Qcl{X Y:Tmps}{i:Nat}{v:AV}(h:∀j,lk X j=lk Y j):∀j,lk (up X i v) j=lk (up Y i v) j:=by simp_all[lk_up]
def mlEnd(A:Ans α)(it d ok n c b:Nat)(T:Tmps)(h:Heap)(k:Tmps->α):α:=lkK T it fun p=>(match p with|.ptr a 0 0=>ifB (Nat.beq a n) (getR h c fun o=>(match o with|some (.map g es)=>ifB (Nat.beq g b&&Nat.beq es.length 1) (upR T d .any fun T=>upR T ok (.bool false) fun T=>k T) A.bad|_=>A.bad)) A.bad|_=>A.bad)
theorem Qmh{A:Ans α}(hA:A.OK){it d ok n f c:Nat}{T:Tmps}{h:Heap}{k:Tmps->α}(b:A.holds (mlEnd A it d ok n f c T h k)):lk T it=.ptr n 0 0/\(∃es,h.get f=some (.map c es)/\es.length=1)/\A.holds (k (up (up T d .any) ok (.bool false))):=by
 unfold mlEnd at b;rw[QeH]at b;split at b
 ·rename_i a hp;rw[QaI]at b;split at b
  ·rename_i i;have:a=n:=by simpa using i
   subst this;rw[QbJ]at b;split at b
   ·rename_i g es j;rw[QaI]at b;split at b;·simp_all[Qdv]
    exact absurd b hA.bad
   exact absurd b hA.bad
  exact absurd b hA.bad
 exact absurd b hA.bad
def exR(A:Ans α)(orc:Orc)(fns:Nat->Option FFn)(d:Nat):FCode->Tmps->Heap->Nat->KcA α->α:=@Nat.rec (fun _=>FCode->Tmps->Heap->Nat->KcA α->α) (fun _ _ _ _ _=>A.bad) (fun _ l c T h n k=>match c with|.skip=>k .normal T h n|.ret=>k .ret T h n|.exit i=>k (.exit i) T h n|.bad=>A.bad|.region ops [] dead=>opsR A (callR A orc fns l) ops n T h (Nat.add n 64) fun T h n=>rmR dead T fun T=>fNat n fun n=>k .normal T h n|.region ops (p::q) dead=>opsRF A (callR A orc fns l) (p::q) ops 0 n T h (Nat.add n 64) fun fs T h n=>ifB ((p::q).all fun p=>(fs.getD p.1 ⟨false,[],[]⟩).apart (fs.getD p.2 ⟨false,[],[]⟩)) (rmR dead T fun T=>fNat n fun n=>k .normal T h n) A.bad|.seq a b=>l a T h n fun e T h n=>(match e with|.normal=>l b T h n k|e=>k e T h n)|.cond x a b=>evK T x fun v=>(match v with|.bool t=>ifB t (l a T h n k) (l b T h n k)|_=>A.bad)|.block i b=>l b T h n fun e T h n=>(match e with|.exit j=>ifB (Nat.beq j i) (k .normal T h n) (k (.exit j) T h n)|e=>k e T h n)|.rfunc g q N r body=>evK T g fun v=>(match v with|.fn f first cap=>getR h n fun o=>(match o with|none=>putBR A h n (.loop 0 N T q (.f r) (.f body) .ready) fun h1=>fList (first++[.yld n 0]++cap) fun args=>callR A orc fns l (.c .heap) f args h1 (Nat.succ n) fun _ B m=>getR B n fun G=>(match G with|some (.loop 0 _ _ _ _ _ st)=>putBR A B n (.dead 0) fun y=>(match st with|.ready=>k .normal T y m|.busy=>A.bad|.done .normal=>A.bad|.done e=>k e T y m)|_=>A.bad)|some _=>A.bad)|_=>A.bad)|.mloop pre x it w ok E H b2 rest body=>opsR A (callR A orc fns l) pre n T h (Nat.add n 64) fun T h n=>evK T x fun v=>(match v with|.map s u=>getR h s fun o=>(match o with|some (.map g es)=>ifB (Nat.beq g u) (getR h n fun o=>(match o with|none=>putBR A h n (.dead 0) fun h=>upR T it (.ptr n 0 0) fun T=>upR T w .any fun T=>(match es with|[]=>upR T ok (.bool false) fun T=>k .normal T h (Nat.succ n)|[(C,F)]=>upR T ok (.bool true) fun T=>upR T E (.tup [C,F]) fun T=>opsR A (callR A orc fns l) rest (Nat.succ n) T h (Nat.add n 64) fun T h m=>l body T h m fun e T h m=>(match e with|.normal=>mlEnd A it w ok n s u T h fun T=>k .normal T h m|.exit j=>ifB (Nat.beq j b2) (mlEnd A it w ok n s u T h fun T=>k .normal T h m) (ifB (Nat.beq j H) (k .normal T h m) (k (.exit j) T h m))|.ret=>k .ret T h m)|_=>A.bad)|some _=>A.bad)) A.bad|_=>A.bad)|_=>A.bad)|.loop b=>l b T h n fun e T h n=>(match e with|.normal=>l (.loop b) T h n k|e=>k e T h n)) d
def ExOKA(P:Program)(A:Ans α)(run:FCode->Tmps->Heap->Nat->KcA α->α):Prop:=∀(N:Nat)(c:FCode)(T:Tmps)(h:Heap)(n:Nat)(k:KcA α),A.holds (run c T h n k)->∃e T' a d,A.holds (k e T' a d)/\WX P N c.slim (fun b B=>b=e/\B=⟨T',a⟩) ⟨T,h⟩
section
variable{A:Ans α}(hA:A.OK){orc:Orc}{fns:Nat->Option FFn}
include hA
theorem QnM{run:FCode->Tmps->Heap->Nat->KcA α->α}(C:ExOKA P A run):RndOK P A (callR A orc fns run):=by
 intro g b args h n k c;have c:A.holds (rndR A run g b args h n k):=c;unfold rndR at c;rw[QbJ]at c;split at c
 ·rename_i E N T y I body O;rw[QaI]at c;split at c
  ·rename_i hc;simp only[Bool.and_eq_true]at hc;obtain⟨⟨⟨G,J⟩,Q⟩,L⟩:=hc;have K:E=g:=by simpa using G
   subst K;have m:b<lim:=Nat.le_of_ble_eq_true J;have hlen:args.length=y.length:=by simpa using Q
   have x:∀p∈y,p<N:=fun p hp=>Nat.le_of_ble_eq_true (List.all_eq_true.1 L p hp);rw[QmR]at c;obtain⟨e,T2,U,V,a,hw,_⟩:=C N _ _ _ _ _ c;cases e with|exit j=>exact absurd a hA.bad|ret=>exact absurd a hA.bad|normal=>
    simp only[QbJ]at a;split at a
    ·rename_i F N2 T2' w t f q;rw[QaI]at a;split at a
     ·rename_i d;have d:F=E:=by simpa using d
      subst d;rw[QbS,if_pos m]at a;obtain⟨e,T4,H,S,a,v,_⟩:=C N _ _ _ _ _ a;split at a
      ·rename_i u N4 T4' s r l M;rw[QaI]at a;split at a
       ·rename_i i;have i:u=F:=by simpa using i
        subst i;have fin:∀o,o=e->RSpec P b u args h (.bool o.isNormal) (H.set b (.loop u N4 T4' s r l (stOf o))):=by rintro o rfl;refine RSpec.of_W O m hlen x (hw.mono ?_);rintro R B⟨rfl,rfl⟩;refine⟨rfl,N2,T2',w,t,f,q,v.mono ?_⟩;grind
        cases e with|normal=>simp only[QbS,if_pos m]at a;exact⟨_,_,_,a,fin _ rfl⟩|exit j=>simp only[QbS,if_pos m]at a;exact⟨_,_,_,a,fin _ rfl⟩|ret=>simp only[QbS,if_pos m]at a;exact⟨_,_,_,a,fin _ rfl⟩
       exact absurd a hA.bad
      exact absurd a hA.bad
     exact absurd a hA.bad
    exact absurd a hA.bad
  exact absurd c hA.bad
 exact absurd c hA.bad
end
def OrcOK(P:Program)(orc:Orc):Prop:=∀f a v,orc f=some (a,v)->PSpec P f a v
section
variable{A:Ans α}(hA:A.OK){orc:Orc}(ho:OrcOK P orc){fns:Nat->Option FFn}(hf:∀f sf,fns f=some sf->okFn P f sf.slim=true)
include hA ho hf
theorem QgO{run:FCode->Tmps->Heap->Nat->KcA α->α}(F:ExOKA P A run):CallOKA P A (callR A orc fns run):=by intro m f args h n k b;unfold callR at b;simp only at b;cases j:orc f with
 |some p=>obtain⟨t,v⟩:=p;rw[j]at b;simp only at b;have hp:=ho f t v j;cases m with|heap=>exact absurd b hA.bad|pure=>obtain⟨e,a⟩:=hA.asm _ _ _ b;exact⟨v,h,n,a,fun e=>(by cases e),fun _=>by simp_all⟩|borrow=>obtain⟨e,a⟩:=hA.asm _ _ _ b;exact⟨v,h,n,a,fun e=>(by cases e),fun _=>by simp_all⟩
 |none=>rw[j]at b;simp only at b;cases s:fns f with|none=>rw[s]at b;exact absurd b hA.bad|some sf=>
  rw[s]at b;simp only[QaI]at b;have o:=hf f sf s;split at b
  ·rename_i q;have q:args.length<=sf.slim.n:=Nat.le_of_ble_eq_true q;have body:∀(u:Heap)(x:Nat)(r:AV->Heap->Nat->α),A.holds (bodyR A sf run args u x r)->∃e T' c i g,(e=.normal\/e=.ret)/\resV T' c sf.res=some g/\A.holds (r (resOf g) c i)/\W P sf.slim.n sf.slim.body (fun w B=>w=e/\B=⟨T',c⟩) ⟨argT 0 args,u⟩:=by
    intro u x r b;unfold bodyR at b;rw[Qix]at b;obtain⟨e,T',c,i,a,hw,_⟩:=F sf.slim.n _ _ _ _ _ b;have he:e=.normal\/e=.ret:=by cases e<;>first|(exact absurd a hA.bad)|simp
    have a:A.holds (resR A T' c sf.res fun g=>fAV (resOf g) fun v=>r v c i):=by grind
    rw[Qiy]at a;cases l:resV T' c sf.res with|none=>rw[l]at a;exact absurd a hA.bad|some g=>rw[l]at a;simp only[Qc4]at a;exact⟨e,T',c,i,g,he,l,a,hw⟩
   have d:∀(K:AV->α),A.holds (if noRefs args=true then bodyR A sf run args .e 64 (fun v c _=>runR A (frzH 6 v) c fun v _=>if noRef v=true then fAV v fun v=>K v else A.bad)else A.bad)->∃v,A.holds (K v)/\PSpec P f args v:=by
    intro K b;split at b
    ·rename_i E;obtain⟨e,T',c,i,g,he,l,a,hw⟩:=body _ _ _ b;simp only[QcQ]at a;split at a
     ·rename_i v G C;split at a;·rename_i y;rw[Qc4]at a;refine⟨v,a,PSpec.of_W 6 o q E y (hw.mono ?_)⟩;rintro w B⟨rfl,rfl⟩;exact⟨he,g,l,G,C⟩
      exact absurd a hA.bad
     exact absurd a hA.bad
    exact absurd b hA.bad
   cases m with|heap=>obtain⟨e,T',c,i,g,he,l,a,hw⟩:=body _ _ _ b;refine⟨_,c,i,a,fun _=>HSpec.unRoom (HSpec.of_W o q (hw.mono ?_)),fun h=>absurd rfl h⟩;rintro w B⟨rfl,rfl⟩;exact⟨he,g,l,rfl,fun _=>rfl⟩|pure=>obtain⟨v,a,hp⟩:=d (fun v=>k v h n) b;exact⟨v,h,n,a,fun h=>(by cases h),fun _=>hp⟩|borrow=>obtain⟨v,a,hp⟩:=d (fun v=>k v h n) b;exact⟨v,h,n,a,fun h=>(by cases h),fun _=>hp⟩
  exact absurd b hA.bad
omit ho in theorem QnN{run:FCode->Tmps->Heap->Nat->KcA α->α}(hr:ExOKA P A run):FrOK P A (callR A orc fns run):=by intro hB f args h n k hx;unfold callR at hx;simp only at hx;cases hor:orc f with|some p=>rw[hor]at hx;exact absurd hx hA.bad|none=>rw[hor]at hx;simp only at hx;cases hs:fns f with|none=>rw[hs]at hx;exact absurd hx hA.bad|some sf=>
 rw[hs]at hx;simp only[QaI]at hx;have hok:=hf f sf hs;split at hx
 ·rename_i hl;have hl:args.length<=sf.slim.n:=Nat.le_of_ble_eq_true hl;unfold bodyR at hx;rw[Qix]at hx;obtain⟨e,T',h',n',hk,hw,_⟩:=hr sf.slim.n _ _ _ _ _ hx;have he:e=.normal\/e=.ret:=by cases e<;>first|(exact absurd hk hA.bad)|simp
  have hk:A.holds (resR A T' h' sf.res fun vs=>fAV (resOf vs) fun v=>k (unRoom v) h' n'):=by grind
  rw[Qiy]at hk;cases hv:resV T' h' sf.res with|none=>rw[hv]at hk;exact absurd hk hA.bad|some vs=>rw[hv]at hk;simp only[Qc4]at hk;refine⟨_,h',n',hk,HSpec.unRoom (HSpec.of_W hok hl (hw.mono ?_))⟩;rintro e' B⟨rfl,rfl⟩;exact⟨he,vs,hv,rfl,fun _=>rfl⟩
 ·exact absurd hx hA.bad
omit ho in theorem Qmi{run:FCode->Tmps->Heap->Nat->KcA α->α}(hr:ExOKA P A run):NewOK P A (callR A orc fns run):=by intro f args h n k ha hx;unfold callR at hx;simp only at hx;cases hor:orc f with|some p=>rw[hor]at hx;exact absurd hx hA.bad|none=>rw[hor]at hx;simp only at hx;cases hs:fns f with|none=>rw[hs]at hx;exact absurd hx hA.bad|some sf=>
 rw[hs]at hx;simp only[QaI]at hx;have hok:=hf f sf hs;split at hx
 ·rename_i hl;have hl:args.length<=sf.slim.n:=Nat.le_of_ble_eq_true hl;unfold bodyR at hx;rw[Qix]at hx;obtain⟨e,T',h',n',hk,hw,_⟩:=hr sf.slim.n _ _ _ _ _ hx;have he:e=.normal\/e=.ret:=by cases e<;>first|(exact absurd hk hA.bad)|simp
  have hk:A.holds (resR A T' h' sf.res fun vs=>fAV (resOf vs) fun v=>k v h' n'):=by grind
  rw[Qiy]at hk;cases hv:resV T' h' sf.res with|none=>rw[hv]at hk;exact absurd hk hA.bad|some vs=>
   rw[hv]at hk;simp only[Qc4]at hk;refine⟨_,h',n',hk,HSpec.of_W hok hl (hw.mono ?_),fun u hh hz hn=>PSpec.of_W 6 hok hl ha hn (hw.mono ?_)⟩;·rintro e' B⟨rfl,rfl⟩;exact⟨he,vs,hv,rfl,fun _=>rfl⟩
   ·rintro e' B⟨rfl,rfl⟩;exact⟨he,vs,hv,hh,hz⟩
 ·exact absurd hx hA.bad
theorem Qjm:∀d,ExOKA P A (exR A orc fns d):=by intro d;induction d with|zero=>intro N c T h n k m;exact absurd m hA.bad|succ d H=>have hc:=QgO hA ho hf H;have hrn:=QnM (orc:=orc) (fns:=fns) hA H;have hgv:=QnN hA hf (orc:=orc) H;have hnw:=Qmi hA hf (orc:=orc) H;intro N c T h n k m;cases c with
 |skip=>exact⟨_,_,_,_,m,.of (W.skip ⟨rfl,rfl⟩) (by simp[FCode.slim])⟩|ret=>exact⟨_,_,_,_,m,.of (W.ret ⟨rfl,rfl⟩) (by simp[FCode.slim])⟩|exit i=>exact⟨_,_,_,_,m,.of (W.exit ⟨rfl,rfl⟩) (by simp[FCode.slim])⟩|bad=>exact absurd m hA.bad|region ops pairs dead=>cases pairs with
  |nil=>
   have m:A.holds (opsR A (callR A orc fns (exR A orc fns d)) ops (n+0) T h (Nat.add n 64) fun T h n=>rmR dead T fun T=>fNat n fun n=>k .normal T h n):=m;obtain⟨T',T0,u,E,fs,l,e,hr⟩:=QdC hA hc hrn ops 0 T T h (Nat.add n 64) (fun _=>rfl) m;rw[QoR,Qbv]at l;refine⟨_,_,_,_,l,.of (W.regionS n fs hr (by simp) (L:=rmM dead T') ?_ ⟨rfl,rfl⟩) (by simp[FCode.slim])⟩;intro i;rcases QmP dead T' i with h|h;·exact .inl h
   simp_all|cons p ps=>
   have m:A.holds (opsRF A (callR A orc fns (exR A orc fns d)) (p::ps) ops 0 (n+0) T h (Nat.add n 64) fun fs T h n=>ifB ((p::ps).all fun p=>(fs.getD p.1 ⟨false,[],[]⟩).apart (fs.getD p.2 ⟨false,[],[]⟩)) (rmR dead T fun T=>fNat n fun n=>k .normal T h n) A.bad):=m;obtain⟨T',T0,u,E,fs,l,e,hr⟩:=QgN hA hc hrn hgv hnw ops 0 T T h (Nat.add n 64) _ (fun _=>rfl) m;rw[QaI]at l;split at l
   ·rename_i hp;rw[QoR,Qbv]at l;refine⟨_,_,_,_,l,.of (W.regionS n fs hr hp (L:=rmM dead T') ?_ ⟨rfl,rfl⟩) (by simp[FCode.slim])⟩;intro i;rcases QmP dead T' i with h|h;·exact .inl h
    simp_all
   exact absurd l hA.bad
 |seq a b=>obtain⟨e,T',u,E,l,hw,_⟩:=H N _ _ _ _ _ m;cases e with|normal=>obtain⟨e2,T2,O,w,L,hw2,_⟩:=H N _ _ _ _ _ l;refine⟨e2,T2,O,w,L,.of (W.seq (hw.mono ?_)) (by simp[FCode.slim])⟩;rintro r B⟨rfl,rfl⟩;exact hw2|exit j=>refine⟨_,_,_,_,l,.of (W.seq (hw.mono ?_)) (by simp[FCode.slim])⟩;rintro r B⟨rfl,rfl⟩;exact⟨rfl,rfl⟩|ret=>refine⟨_,_,_,_,l,.of (W.seq (hw.mono ?_)) (by simp[FCode.slim])⟩;rintro r B⟨rfl,rfl⟩;exact⟨rfl,rfl⟩
 |cond x a b=>
  have m:A.holds (evK T x fun v=>(match v with|.bool t=>ifB t (exR A orc fns d a T h n k) (exR A orc fns d b T h n k)|_=>A.bad)):=m;rw[Qbo]at m;split at m;·rename_i t hb;rw[QaI]at m;cases t with|true=>obtain⟨e,T',u,E,l,hw,_⟩:=H N _ _ _ _ _ m;exact⟨e,T',u,E,l,.of (W.cond hb (fun _=>hw) (fun h=>by cases h)) (by simp[FCode.slim])⟩|false=>obtain⟨e,T',u,E,l,hw,_⟩:=H N _ _ _ _ _ m;exact⟨e,T',u,E,l,.of (W.cond hb (fun h=>by cases h) (fun _=>hw)) (by simp[FCode.slim])⟩
  exact absurd m hA.bad|block i b=>obtain⟨e,T',u,E,l,hw,_⟩:=H N _ _ _ _ _ m;cases e with|normal=>refine⟨_,_,_,_,l,.of (W.block (hw.mono ?_)) (by simp[FCode.slim])⟩;rintro r B⟨rfl,rfl⟩;exact⟨rfl,rfl⟩|ret=>refine⟨_,_,_,_,l,.of (W.block (hw.mono ?_)) (by simp[FCode.slim])⟩;rintro r B⟨rfl,rfl⟩;exact⟨rfl,rfl⟩|exit j=>
   simp only[QaI]at l;split at l
   ·rename_i R;have:j=i:=by simpa using R
    refine⟨_,_,_,_,l,.of (W.block (hw.mono ?_)) (by simp[FCode.slim])⟩;simp_all
   rename_i R;have:j≠i:=by simp_all
   refine⟨_,_,_,_,l,.of (W.block (hw.mono ?_)) (by simp[FCode.slim])⟩;simp_all
 |rfunc g ps M U body=>
  have m:A.holds (evK T g fun v=>(match v with|.fn f first cap=>getR h n fun o=>(match o with|none=>putBR A h n (.loop 0 M T ps (.f U) (.f body) .ready) fun h1=>fList (first++[.yld n 0]++cap) fun args=>callR A orc fns (exR A orc fns d) (.c .heap) f args h1 (Nat.succ n) fun _ O w=>getR O n fun o2=>(match o2 with|some (.loop 0 _ _ _ _ _ st)=>putBR A O n (.dead 0) fun F=>(match st with|.ready=>k .normal T F w|.busy=>A.bad|.done .normal=>A.bad|.done e=>k e T F w)|_=>A.bad)|some _=>A.bad)|_=>A.bad)):=m;rw[Qbo]at m;split at m
  ·rename_i f first cap hg;rw[QbJ]at m;split at m
   ·rename_i hn;rw[QbS]at m;split at m
    ·rename_i hl;simp only[QcH]at m;obtain⟨v,O,w,l,hs,_⟩:=hc _ _ _ _ _ _ m;rw[QbJ]at l;split at l
     ·rename_i N2 T2 ps2 as2 body2 st hst;rw[QbS,if_pos hl]at l;have key:∀(e:SX),leftQ (fun r B=>r=e/\B=⟨T,O.set n (.dead 0)⟩) ⟨T,O.set n (.dead 0)⟩ st->WX P N (FCode.rfunc g ps M U body).slim (fun r B=>r=e/\B=⟨T,O.set n (.dead 0)⟩) ⟨T,h⟩:=by
       intro e hq;refine .of ?_ (by simp[FCode.slim]);show W P N (.rfunc g ps M U.slim body.slim) _ _;by_cases hNM:M=N;·subst hNM;exact W.rfunc (.f U) (.f body) rfl rfl hg hn hl (hs rfl) hst hq
       intro code hok;cases code<;>simp only[okCode,Bool.false_eq_true,Bool.and_eq_true,beq_iff_eq,Bool.not_eq_true']at hok;omega
      split at l;·exact⟨_,_,_,_,l,key .normal ⟨rfl,rfl⟩⟩
      ·exact absurd l hA.bad
      ·exact absurd l hA.bad
      rename_i e he;refine⟨_,_,_,_,l,key e ⟨?_,rfl,rfl⟩⟩;cases e<;>first|rfl|(exact absurd rfl he)
     exact absurd l hA.bad
    exact absurd m hA.bad
   exact absurd m hA.bad
  exact absurd m hA.bad|mloop pre x it Q ok en S b2 rest body=>
  have m:A.holds (opsR A (callR A orc fns (exR A orc fns d)) pre (n+0) T h (Nat.add n 64) fun T h n=>evK T x fun v=>(match v with|.map mb mg=>getR h mb fun o=>(match o with|some (.map g es)=>ifB (Nat.beq g mg) (getR h n fun o=>(match o with|none=>putBR A h n (.dead 0) fun h=>upR T it (.ptr n 0 0) fun T=>upR T Q .any fun T=>(match es with|[]=>upR T ok (.bool false) fun T=>k .normal T h (Nat.succ n)|[(kk,vv)]=>upR T ok (.bool true) fun T=>upR T en (.tup [kk,vv]) fun T=>opsR A (callR A orc fns (exR A orc fns d)) rest (Nat.succ n+0) T h (Nat.add n 64) fun T h w=>exR A orc fns d body T h w fun e T h w=>(match e with|.normal=>mlEnd A it Q ok n mb mg T h fun T=>k .normal T h w|.exit j=>ifB (Nat.beq j b2) (mlEnd A it Q ok n mb mg T h fun T=>k .normal T h w) (ifB (Nat.beq j S) (k .normal T h w) (k (.exit j) T h w))|.ret=>k .ret T h w)|_=>A.bad)|some _=>A.bad)) A.bad|_=>A.bad)|_=>A.bad)):=m;obtain⟨T1,T0,h1,K,fs1,l,e1,hr1⟩:=QdC hA hc hrn pre 0 T T h (Nat.add n 64) (fun _=>rfl) m;rw[Qbo]at l;have evc:∀y:Opd,ev T0 y=ev T1 y:=fun y=>(Qkn fun i _=>e1 i).symm;split at l
  ·rename_i mb mg hxv;rw[QbJ]at l;split at l
   ·rename_i g es hg;rw[QaI]at l;split at l
    ·rename_i Z;have Z:g=mg:=by simpa using Z
     subst Z;rw[QbJ]at l;split at l
     ·rename_i hn;rw[QbS]at l;split at l
      ·rename_i hl;rw[Qdv,Qdv]at l;have hmb:(h1.set K (.dead 0)).get mb=some (.map g es):=by rw[Tr.Qa2 _ hl,if_neg (by grind)];exact hg
       have hit:∀j,lk (up T0 it (.ptr K 0 0)) j=lk (up T1 it (.ptr K 0 0)) j:=Qcl fun j=>(e1 j).symm;split at l
       ·rw[Qdv]at l;refine⟨_,_,_,_,l,.of (W.QkY (W.mloop n fs1 hr1 (by rw[evc,hxv]) hg hn hl (fun q B=>q=[]/\B.h=h1.set K (.dead 0)/\∀j,lk B.T j=lk (up T1 it (.ptr K 0 0)) j) ?_ ?_ ?_ ?_)) (by simp[FCode.slim])⟩;·rintro q B⟨rfl,I,Y⟩;refine⟨by rw[Y,lk_up,if_pos rfl],[],by simp_all,rfl⟩
        ·simp_all
        ·simp_all
        rintro q B⟨rfl,I,Y⟩_;exact⟨rfl,I,.of_eq fun i=>(Qcl (Qcl Y) i).symm⟩
       ·rename_i kk vv;rw[Qdv,Qdv]at l;obtain⟨T2,T20,O,w,fs2,L,e2,hr2⟩:=QdC hA hc hrn rest 0 _ (up (up (up (up T1 it (.ptr K 0 0)) Q .any) ok (.bool true)) en (.tup [kk,vv])) _ _ (fun _=>rfl) l;obtain⟨e,T3,F,n3,s,hw3,_⟩:=H N _ _ _ _ _ L;have walk:∀(Qb:SX->St->Prop)(BT:Tmps),(∀j,lk BT j=lk (up T1 it (.ptr K 0 0)) j)->Qb e ⟨T3,F⟩->∃bs fs C,RunF P bs 0 (rest.map FOp.o) fs ⟨up (up (up BT Q .any) ok (.bool true)) en (.tup [kk,vv]),h1.set K (.dead 0)⟩ C/\W P N body.slim Qb C:=by
         intro Qb BT hBT hq;obtain⟨D,hD,d1,d2⟩:=hr2.congr (T':=up (up (up BT Q .any) ok (.bool true)) en (.tup [kk,vv])) (Qcl (Qcl (Qcl fun j=>(hBT j).symm)));refine⟨_,fs2,D,hD,W.congr (hw3.mono ?_) ⟨fun j=>?_,fun b=>?_⟩⟩;·simp_all
         ·simp_all
         rw[d1]
        have main:∀(e0:SX)(T4:Tmps)(h4:Heap)(J:List Nat->St->Prop),(∀q B,J q B->q=[0]/\lk B.T it=.ptr K 0 0/\(∃V,B.h.get mb=some (.map g V)/\V.length=1))->ml1 e S b2 (J [0] ⟨T3,F⟩) (fun x=>x=e0/\F=h4/\Sub T4 T3)->(∀q B,J q B->SX.normal=e0/\B.h=h4/\Sub T4 (up (up B.T Q .any) ok (.bool false)))->W P N (FCode.mloop pre x it Q ok en S b2 rest body).slim (fun r B=>r=e0/\B=⟨T4,h4⟩) ⟨T,h⟩:=by
         intro e0 T4 h4 J hJ hround hdone;refine W.QkY (W.mloop n fs1 hr1 (by rw[evc,hxv]) hg hn hl (fun q B=>(q=[]/\B.h=h1.set K (.dead 0)/\∀j,lk B.T j=lk (up T1 it (.ptr K 0 0)) j)\/J q B) ?_ ?_ ?_ ?_)
         ·rintro q B(⟨rfl,I,Y⟩|I);·exact⟨by rw[Y,lk_up,if_pos rfl],_,by simp_all,rfl⟩
          grind
         ·simp_all
         ·rintro q B i k' v' V I hni hm' hi;have hi0:i=0:=by grind
          subst hi0;rcases I with⟨rfl,I,Y⟩|I;·rw[I,hmb]at hm';cases hm';simp only[List.getElem?_cons_zero,Option.some.injEq,Prod.mk.injEq]at hi;obtain⟨rfl,rfl⟩:=hi;rw[I];refine walk _ B.T Y ?_;grind[ml1]
          grind
         rintro q B(⟨rfl,I,Y⟩|I)hall;·simp_all
         grind
        have fin:A.holds (mlEnd A it Q ok K mb g T3 F fun T=>k .normal T F n3)->(∀(J:Prop)(X:SX->Prop),J->ml1 e S b2 J X)->∃e T' u E,A.holds (k e T' u E)/\WX P N (FCode.mloop pre x it Q ok en S b2 rest body).slim (fun r B=>r=e/\B=⟨T',u⟩) ⟨T,h⟩:=by
         intro hend hm;obtain⟨h5,⟨V,h6,h7⟩,h8⟩:=Qmh hA hend;refine⟨_,_,_,_,h8,.of (main .normal _ F (fun q B=>q=[0]/\B=⟨T3,F⟩) ?_ (hm _ _ ⟨rfl,rfl⟩) ?_) (by simp[FCode.slim])⟩;·simp_all
         rintro q B⟨rfl,rfl⟩;exact⟨rfl,rfl,.of_eq fun _=>rfl⟩
        cases e with|normal=>exact fin s (fun J X hJ=>hJ)|ret=>exact⟨_,_,_,_,s,.of (main .ret T3 F (fun _ _=>False) (fun _ _ h=>h.elim) ⟨rfl,rfl,.of_eq fun _=>rfl⟩ (fun _ _ h=>h.elim)) (by simp[FCode.slim])⟩|exit j=>
         simp only[QaI]at s;split at s
         ·rename_i R;have R:j=b2:=by simpa using R
          exact fin s (fun J X hJ=>by show(if j=b2 then J else _);simp_all)
         rename_i R;have R:j≠b2:=by simp_all
         split at s
         ·rename_i G;have G:j=S:=by simpa using G
          exact⟨_,_,_,_,s,.of (main .normal T3 F (fun _ _=>False) (fun _ _ h=>h.elim) (by show(if j=b2 then _ else if j=S then _ else _);rw[if_neg R,if_pos G];exact⟨rfl,rfl,.of_eq fun _=>rfl⟩) (fun _ _ h=>h.elim)) (by simp[FCode.slim])⟩
         rename_i G;have G:j≠S:=by simp_all
         exact⟨_,_,_,_,s,.of (main (.exit j) T3 F (fun _ _=>False) (fun _ _ h=>h.elim) (by show(if j=b2 then _ else if j=S then _ else _);rw[if_neg R,if_neg G];exact⟨rfl,rfl,.of_eq fun _=>rfl⟩) (fun _ _ h=>h.elim)) (by simp[FCode.slim])⟩
       exact absurd l hA.bad
      exact absurd l hA.bad
     exact absurd l hA.bad
    exact absurd l hA.bad
   exact absurd l hA.bad
  exact absurd l hA.bad|loop b=>
  have key:∃e T' u E,A.holds (k e T' u E)/\WL P N b.slim (fun r B=>r=e/\B=⟨T',u⟩) ⟨T,h⟩:=by obtain⟨e,T',u,E,l,hw,_⟩:=H N _ _ _ _ _ m;cases e with|normal=>obtain⟨e2,T2,O,w,L,_,hw2⟩:=H N _ _ _ _ _ l;refine⟨e2,T2,O,w,L,WL.round (hw.mono ?_)⟩;rintro r B⟨rfl,rfl⟩;exact hw2 _ rfl|exit j=>refine⟨_,_,_,_,l,WL.round (hw.mono ?_)⟩;rintro r B⟨rfl,rfl⟩;exact⟨rfl,rfl⟩|ret=>refine⟨_,_,_,_,l,WL.round (hw.mono ?_)⟩;rintro r B⟨rfl,rfl⟩;exact⟨rfl,rfl⟩
  obtain⟨e,T',u,E,l,hw⟩:=key;exact⟨e,T',u,E,l,hw.loop,fun b' e=>by cases e;exact hw⟩
end
inductive FT2 where|z|l(k:Nat)(s:FFn)|n(k:Nat)(a b:FT2)
def FT2.get(t:FT2)(i:Nat):Option FFn:=@FT2.rec (fun _=>Option FFn) none (fun k s=>ifB (Nat.beq i k) (some s) none) (fun k _ _ a b=>ifB (Nat.ble (Nat.succ i) k) a b) t
def FT2.OK(P:Program):FT2->Prop|.z=>True|.l k s=>okFn P k s.slim=true|.n _ a b=>a.OK P/\b.OK P
theorem FT2.ok:∀{t:FT2},t.OK P->∀f sf,t.get f=some sf->okFn P f sf.slim=true
 |.z,_,f,sf,h=>by cases h|.l k s,ho,f,sf,h=>by
  have c:ifB (Nat.beq f k) (some s) none=some sf:=h;rw[QaI]at c;split at c
  ·rename_i e;have e:f=k:=by simpa using e
   have d:s=sf:=by simpa using c
   rw[e,<-d];exact ho
  cases c|.n k a b,ho,f,sf,h=>by
  have h:ifB (Nat.ble (Nat.succ f) k) (a.get f) (b.get f)=some sf:=h;rw[QaI]at h;split at h;·exact FT2.ok ho.1 f sf h
  exact FT2.ok ho.2 f sf h
def noOrc:Orc:=fun _=>none
theorem Qe3:OrcOK P noOrc:=fun f a v h=>by cases h
theorem QdB{t:FT2}(a:t.OK P){orc:Orc}(ho:OrcOK P orc){d f:Nat}{args:List AV}{v:AV}(k:AV->Bool)(b:∀u,k u=true->u=v)(c:callR ansB orc t.get (exR ansB orc t.get d) (.c .pure) f args .e 64 (fun u _ _=>k u)=true):PSpec P f args v:=by obtain⟨u,g,i,h1,_,h⟩:=QgO Qiu ho (FT2.ok a) (Qjm Qiu ho (FT2.ok a) d) _ _ _ _ _ _ c;have:=b _ h1;simp_all
theorem Qqf{t:FT2}(g:t.OK P){orc:Orc}(ho:OrcOK P orc){N d m:Nat}{c:FCode}{T:Tmps}{h:Heap}{Q:SX->St->Prop}(k:KcA Bool)(a:exR ansB orc t.get d c T h m k=true)(i:∀e T h n,k e T h n=true->Q e ⟨T,h⟩):W P N c.slim Q ⟨T,h⟩:=by obtain⟨e,T',l,p,h1,j,_⟩:=Qjm Qiu ho (FT2.ok g) d N c T h m k a;exact j.mono fun o B⟨b,f⟩=>by subst b;subst f;exact i _ _ _ _ h1
end
end Go.AM
namespace Go.AM
variable{P:Program}
end Go.AM
namespace Go.AM
abbrev Za(a:List Nat)(n:Nat):List Nat:=a++List.range n
abbrev Zz(d:Nat)(o:SOp)(a:List Nat):SOper:=⟨some d,o,a,none⟩
abbrev Zy(o:SOp)(a:List Nat):SOper:=⟨none,o,a,none⟩
abbrev Zm(d x:Nat)(a:List Nat):SOper:=⟨some d,.mov (.t x),a,none⟩
abbrev Zl(d x:Nat)(a:List Nat):SOper:=⟨some d,.load none (.t x),a,none⟩
abbrev Zf(d k x:Nat)(a:List Nat):SOper:=⟨some d,.faddr k (.t x),a,none⟩
abbrev Zv(d x:Nat)(a:List Nat):SOper:=⟨some d,.len 1 (.t x),a,none⟩
abbrev Zs(n x y:Nat)(a:List Nat):SOper:=⟨none,.store n (.t x) (.t y),a,none⟩
abbrev Zi(d n x y:Nat)(a:List Nat):SOper:=⟨some d,.iaddr none n (.t x) (.t y),a,none⟩
abbrev Zb(d:Nat)(o:BinOp)(x y:Nat)(a:List Nat):SOper:=⟨some d,.bin o (.t x) (.t y),a,none⟩
end Go.AM
namespace Go.AM.YA
open Go
def bt(d:Nat):Nat:=Nat.shiftLeft 1 d
def mn(a b:Nat):Nat:=Nat.xor a (Nat.land a b)
def msk(l:List Nat):Nat:=l.foldl (fun m d=>Nat.lor m (bt d)) 0
def om{α β:Type}(f:α->Option β):List α->Option (List β)|[]=>some []|x::r=>match f x,om f r with|some y,some a=>some (y::a)|_,_=>none
def omap{α β:Type}(f:α->Option β):Option α->Option (Option β)|none=>some none|some x=>(f x).map some
@[irreducible]def u8(n:Nat):UInt8:=UInt8.ofNat n
theorem u8e(n:Nat):u8 n=UInt8.ofNat n:=by unfold u8;rfl
def avV:Nat->Value->Option AV|0,_=>none|n+1,v=>match v with|.bool b=>some (.bool b)|.int k n=>some (.int k n)|.string s=>some (.str (s.data.toList.map fun b=>u8 b.toNat))|.pointer none=>some .nilptr|.slice none 0 0=>some .nilsl|.map none=>some .nilmap|.nilFunc=>some .nilfn|.nilIface=>some .nilif|.agg cs=>(om (avV n) cs.toList).map .agg|.tuple cs=>(om (avV n) cs.toList).map .tup|_=>some .any
def opd:Operand->Option Opd|.tmp t=>some (.t t)|.const v=>(avV 5 v).map .c|.global g=>some (.g g)|.func f=>some (.f f)
def opds(l:Array Operand):Option (List Opd):=om opd l.toList
structure Cf where
 most:CallM:=.heap
 always:List (Nat×CallM):=[]modes:List (Nat×CallM):=[]value:CallM:=.heap
 eqn:Bool:=true
 lends:List Nat:=[]roomy:Bool:=false
section
variable(P:Program)(C:Cf)
def rowN(t:TypeId):Option (Option Nat):=match P.underlying t,P.info? t with|some (.struct _),some i=>some (some i.size)|some (.array _ _),some i=>some (some i.size)|some _,some _=>some none|_,_=>none
def zav(t:TypeId):Option AV:=(zeroOf P t).bind (avV 5)
def flk:Nat->TypeId->Option (List LK)|0,_=>none|d+1,t=>match P.underlying t with|some .bool=>some [.b]|some (.int _)=>some [.i]|some .string=>some [.s]|some (.struct fs)=>(om (fun f=>flk d f.type) fs.toList).map List.flatten|some (.array n e)=>(flk d e).map fun k=>(List.replicate n k).flatten|_=>none
def elemI(t:TypeId):Option (Nat×Nat×AV):=match P.underlying t with
 |some (.slice e)=>match P.info? e,zav P e with|some i,some z=>some (i.size,i.bytes,z)|_,_=>none
 |_=>none
def mapI(t:TypeId):Option (Bool×List LK×AV):=match P.underlying t with
 |some (.map a b)=>match flk P 9 a,zav P b with|some ks,some z=>some (rowB P a,ks,z)|_,_=>none
 |_=>none
def size(t:TypeId):Option Nat:=(P.info? t).map (·.size)
def eqo(t:TypeId)(neg:Bool)(x y:Operand)(a b:Opd):Option SOp:=let nl:=some (SOp.eq (.nil (kindT P t)) neg a b)
 match P.underlying t with
 |some (.int _)|some .string=>some (.bin (cond neg .neq .eql) a b)|some .bool=>some (.eq (.flat false [.b]) neg a b)|some (.struct _)|some (.array _ _)=>(flk P 9 t).map fun k=>.eq (.flat true k) neg a b|some (.slice _)=>match C.eqn,y with|true,.const _=>some (.eqn neg a)|_,_=>nl
 |some (.pointer _)=>match x,y with|.const _,_=>nl|_,.const _=>nl|_,_=>some (.eqp neg a b)
 |_=>nl
def bld(t:TypeId):Bool:=match P.underlying t with
 |some (.struct fs)=>match fs.toList with
  |[f,_]=>match P.underlying f.type with|some (.pointer u)=>u==t|_=>false
  |_=>false
 |_=>false
def ext(f:Operand):Option (Nat×Nat):=match f with
 |.func g=>(P.funcs[g]?).bind fun fn=>match fn.body with|none=>cond (fn.name== "math/bits.Add64") (some (0,g)) (cond (fn.name== "math/bits.Sub64") (some (1,g)) (cond (fn.name== "internal/abi.NoEscape") (some (2,g)) none))|_=>none
 |_=>none
def call(B:Bool)(c:Call):Option SOp:=match opds c.args with|none=>none|some b=>match c.callee,b,c.argTypes.toList with
 |.value f,_,_=>match ext P f with|some (k,g)=>some (.ext k g b)|none=>(opd f).map fun x=>.call .heap x b
 |.builtin .len,[y],[t]=>match P.underlying t with|some .string=>some (.len 0 y)|some (.slice _)=>some (.len 1 y)|some (.map _ _)=>some (.len 2 y)|_=>none
 |.builtin .append,[x,y],[t,d]=>match elemI P t,P.underlying d with
  |some (sz,a,z),some (.int _)=>some (.appendZ .dyn sz a z.cells x y)|some (sz,a,_),_=>match B,P.underlying t with|true,some (.slice e)=>some (.appendT e .dyn sz a x y)|_,_=>some (.append .dyn sz a x y)
  |_,_=>none
 |.builtin .copy,[x,y],t::_=>(elemI P t).map fun q=>.copy q.1 x y|.builtin .cap,[y],_=>some (.cap y)|.builtin .clear,[x],[t]=>(elemI P t).map fun(sz,a,z)=>.clear sz a z.cells x|.builtin .unsafeSliceData,[y],_=>some (.usd y)|.builtin .unsafeString,[x,n],[t,_]=>match P.underlying t with|some (.pointer e)=>some (.ustr e x n)|_=>none
 |.builtin .max,_,_=>some (.maxmin false b)|.builtin .min,_,_=>some (.maxmin true b)|_,_,_=>none
def rows(l:List (Nat×Operand))(f:Nat->Option (Nat×Nat)):Option (List (Nat×Nat×Opd)):=om (fun(i,x)=>match f i,opd x with|some (o,s),some y=>some (o,s,y)|_,_=>none) l
def op(B:Bool)(o:Op):Option SOp:=match o with
 |.move x|.assign x=>(opd x).map .mov|.pick c a b=>match opd c,opd a,opd b with|some c,some a,some b=>some (.pick c a b)|_,_,_=>none
 |.alloc t=>(zav P t).map fun z=>cond (bld P t) (.allocT t .dyn z) (.alloc .dyn z)|.box _ x=>(opd x).map (.box .dyn)|.build t parts=>match(zeroOf P t).bind (fun z=>om (avV 5) z.cells.toList),rows parts.toList (placeOf P t)with|some z,some j=>some (.build z j)|_,_=>none
 |.buildSlice t n parts=>match P.underlying t with
  |some (.slice e)=>(P.info? e).bind fun i=>i.zero.bind fun z=>match om (avV 5) z.cells.toList,rows parts.toList (fun k=>some (Nat.mul k i.size,i.size))with|some p,some j=>some (.bslice false .dyn i.size n (List.replicate n p).flatten j)|_,_=>none
  |_=>none
 |.load t x=>match rowN P t,opd x with|some n,some x=>some (.load n x)|_,_=>none
 |.store t x v=>match size P t,opd x,opd v with|some n,some x,some v=>some (.store n x v)|_,_,_=>none
 |.nilCheck x=>(opd x).map .nilchk|.binOp b t x y _=>match opd x,opd y with
  |some a,some c=>match b with|.eql=>eqo P C t false x y a c|.neq=>eqo P C t true x y a c|_=>some (.bin b a c)
  |_,_=>none
 |.unOp b _ x=>(opd x).map (.un b)|.convert s d x=>(opd x).bind fun x=>match P.underlying s,P.underlying d with
  |some (.int _),some (.int k)=>some (.conv k x)|some .string,some .string=>some (.convS x)|some (.int _),some .string=>some (.convS x)|some (.slice e),some .string=>match P.underlying e with|some (.int .u8)=>some (.convB x)|_=>none
  |some (.pointer t),some .unsafePointer=>(size P t).map fun n=>.convP t n x|some .unsafePointer,some (.pointer t)=>(size P t).map fun n=>.convP t n x|_,_=>none
 |.makeFunc (.func f) a b=>match opds a,opds b with|some a,some b=>some (.mkfn f a b)|_,_=>none
 |.makeMap _ none=>some (.mkmap .dyn)|.makeSlice t l c=>match elemI P t,opd l,opd c with|some (sz,g,z),some l,some c=>some (.mkslice .dyn sz g z.cells l c)|_,_,_=>none
 |.slice t x l h m=>match opd x,omap opd l,omap opd h,omap opd m,P.underlying t with
  |some x,some l,some h,some m,some (.slice e)=>(size P e).map fun n=>match C.roomy,h,m with|true,some _,none=>.sliceK n x l h|_,_,_=>.slice (some n) x l h m
  |some x,some l,some h,some m,some .string=>some (.slice none x l h m)|_,_,_,_,_=>none
 |.fieldAddr s x f=>match P.underlying s,opd x with|some (.struct fs),some x=>(fs[f]?).map fun d=>.faddr d.offset x|_,_=>none
 |.field s x f=>match P.underlying s,opd x with|some (.struct fs),some x=>(fs[f]?).bind fun d=>(rowN P d.type).map fun r=>.field r d.offset x|_,_=>none
 |.indexAddr t x i=>match P.underlying t,opd x,opd i with|some (.array n e),some x,some i=>(size P e).map fun s=>.iaddr (some n) s x i|some (.slice e),some x,some i=>(size P e).map fun s=>.iaddr none s x i|_,_,_=>none
 |.index t x i=>match P.underlying t,opd x,opd i with
  |some (.array n e),some x,some i=>match rowN P e,size P e with|some r,some s=>some (.index (some (n,s,r.isSome)) x i)|_,_=>none
  |some .string,some x,some i=>some (.index none x i)|_,_,_=>none
 |.lookup t x i ok=>match mapI P t,opd x,opd i with|some (r,ks,z),some x,some i=>some (.lookup r ks z ok x i)|_,_,_=>none
 |.mapUpdate t m k v|.insert t m k v=>match mapI P t,opd m,opd k,opd v with|some (r,ks,_),some m,some k,some v=>some (.mupd r ks m k v)|_,_,_,_=>none
 |.mapEntry t m k=>match mapI P t,opd m,opd k with|some (r,ks,z),some m,some k=>some (.ment r ks z m k)|_,_,_=>none
 |.entryStore _ m s v=>match opd m,opd s,opd v with|some m,some s,some v=>some (.estore m s v)|_,_,_=>none
 |.extract x i=>(opd x).map (.extract i)|.call c=>call P B c|_=>none
def oper(B:Bool)(ops:Array Oper)(o:Oper):SOper:=⟨o.dst,(op P C B o.op).getD .bad,(o.after.toList.filter fun e=>Region.binds .any e).map (·.on),match o.guard with|none=>none|some (j,w)=>((ops[j]?).bind (·.dst)).map fun s=>(s,w)⟩
def modeA(o:SOper):SOper:=match o with|⟨d,.call _ (.f g) b,a,u⟩=>⟨d,.call ((C.always.lookup g).getD C.most) (.f g) b,a,u⟩|⟨d,.call _ x b,a,u⟩=>⟨d,.call C.value x b,a,u⟩|_=>o
def modeB(o:SOper):SOper:=match o with|⟨d,.call _ (.f g) b,a,u⟩=>⟨d,.call (match(C.always.lookup g).getD C.most with|.heap=>(C.modes.lookup g).getD .heap|m=>m) (.f g) b,a,u⟩|_=>o
def unfree(s:List SOper):List (Nat×Nat):=let m:=masksFrom [] s
 (List.range s.length).flatMap fun j=>(List.range j).filterMap fun k=>cond ((m.getD j 0).testBit k||pairOK s [] k j) none (some (k,j))
def lent(s:List SOper)(a:List (Nat×Nat)):List (Nat×Nat):=(List.range s.length).filterMap fun k=>match(s[k]?).map SOper.op with|some (.call .heap (.f g) _)=>cond (C.lends.contains g&&a.any (fun p=>p.1==k||p.2==k)) (some (k,999999)) none|_=>none
def ops1(B:Bool)(ops:Array Oper):List SOper:=ops.toList.map fun o=>modeA C (oper P C B ops o)
def reg(B:Bool)(ops:Array Oper)(draw:Bool):SCode:=let s:=ops1 P C B ops
 match draw with|false=>.region s [] []|true=>match unfree s with|[]=>.region s [] []|_=>let s:=s.map (modeB C);let a:=unfree s;.region s (a++lent C s a) []
def mlH(B:Bool)(p:MLParts):Option (List SOper×Opd×Nat×Nat×Nat×Nat×List SOper):=match p.ops6.toList.getLast?,p.ops7.toList,p.ops8.toList with|some ⟨some it,.range _ y,_,_,_,_⟩,[⟨some b,.next _ false,_,_,_,_⟩,⟨some ok,_,_,_,_,_⟩],⟨some a,.entry _,_,_,_,_⟩::r=>(opd y).map fun x=>(p.ops6.toList.dropLast.map (oper P C B p.ops6),x,it,b,ok,a,r.map (oper P C B p.ops8))|_,_,_=>none
def code(rg:Array Oper->Bool->SCode)(B:Bool)(N:Nat):Nat->Code->SCode|0,_=>.bad|n+1,c=>match mlParts c with
 |some p=>match mlH P C B p with|some (pre,x,it,d,ok,f,rest)=>.mloop pre x it d ok f p.b p.b3 rest (code rg B N n p.body)|none=>.bad
 |none=>match c with
  |.skip=>.skip|.region _ ops draw=>rg ops draw|.seq a b=>.seq (code rg B N n a) (code rg B N n b)|.cond c a b=>match opd c with|some x=>.cond x (code rg B N n a) (code rg B N n b)|none=>.bad
  |.block i b=>.block i (code rg B N n b)|.loop b=>.loop (code rg B N n b)|.exit i=>.exit i|.ret=>.ret|.rangeFunc g h a b=>match opd g with|some x=>.rfunc x h.toList N (code rg B N n a) (code rg B N n b)|none=>.bad
  |_=>.bad
end
def it:Nat->(Nat->Nat)->Nat->Nat|0,_,l=>l|n+1,F,l=>match Nat.beq (mn (F l) l) 0 with|true=>l|false=>it n F (Nat.lor l (F l))
def back:List SOper->Nat->Nat|[],l=>l|o::r,l=>Nat.lor (match o.dst,o.guard with|some d,none=>mn (back r l) (bt d)|_,_=>back r l) (msk o.reads)
def exs(ex:List (Nat×Nat)):Nat:=ex.foldl (fun m p=>Nat.lor m p.2) 0
def live(ret:Nat):SCode->List (Nat×Nat)->Nat->Nat|.skip,_,out=>out|.region ops _ _,_,out=>back ops out|.seq a b,ex,out=>live ret a ex (live ret b ex out)|.cond x a b,ex,out=>Nat.lor (Nat.lor (msk x.slots) (live ret a ex out)) (live ret b ex out)|.block i b,ex,out=>live ret b ((i,out)::ex) out|.loop b,ex,_=>it 50 (live ret b ex) 0|.mloop pre x i c ok f d b2 rest body,ex,out=>back pre (Nat.lor (mn (it 50 (fun l=>Nat.lor (Nat.lor out (bt i)) (mn (back rest (live ret body ((d,out)::(b2,l)::ex) l)) (msk [f,ok,c]))) (bt i)) (bt i)) (msk x.slots))|.exit i,ex,_=>(ex.lookup i).getD 0|.ret,_,_=>ret|.rfunc g h _ a b,ex,out=>Nat.lor (Nat.lor (Nat.lor (msk g.slots) out) (mn (live ret a ex (live ret b ex 0)) (msk h))) (Nat.lor ret (exs ex))|.bad,_,_=>0
def dsts(ops:List SOper):Nat:=msk (ops.filterMap (·.dst))
def mark:List SOper->Nat->List FOp|[],_=>[]|s::r,p=>match s.dst with|some d=>⟨!p.testBit d,s⟩::mark r (Nat.lor p (bt d))|none=>⟨false,s⟩::mark r p
def ann(ret:Nat):SCode->List (Nat×Nat)->Nat->Nat->FCode×Nat
 |.region ops d _,_,out,p=>let all:=Nat.lor p (dsts ops)
  (.region (mark ops p) d (mn all out),Nat.land all out)|.seq a b,ex,out,p=>let x:=ann ret a ex (live ret b ex out) p
  let y:=ann ret b ex out x.2
  (.seq x.1 y.1,y.2)|.cond c a b,ex,out,p=>let x:=ann ret a ex out p
  let y:=ann ret b ex out p
  (.cond c x.1 y.1,Nat.lor x.2 y.2)|.block i b,ex,out,p=>let x:=ann ret b ((i,out)::ex) out p
  (.block i x.1,Nat.lor x.2 (Nat.land p out))|.loop b,ex,out,p=>let l:=live ret (.loop b) ex out
  (.loop (ann ret b ex l (Nat.lor p l)).1,Nat.lor p l)|.mloop pre x i j ok k f b2 rest body,ex,out,p=>let h:=it 50 (fun l=>Nat.lor (Nat.lor out (bt i)) (mn (back rest (live ret body ((f,out)::(b2,l)::ex) l)) (msk [k,ok,j]))) (bt i)
  let o:=Nat.lor p (dsts pre)
  let q:=Nat.lor o (msk [i,j,ok,k])
  let m:=Nat.lor q (dsts rest)
  let z:=ann ret body ((f,out)::(b2,h)::ex) h (Nat.lor m h)
  (.mloop (mark pre p) x i j ok k f b2 (mark rest q) z.1,Nat.lor m z.2)|.rfunc g d N a b,ex,out,p=>let x:=ann ret a ex (live ret b ex 0) (Nat.lor p (msk d))
  (.rfunc g d N x.1 (ann ret b ex 0 x.2).1,p)|.skip,_,_,p=>(.skip,p)|.exit i,_,_,p=>(.exit i,p)|.ret,_,_,p=>(.ret,p)|.bad,_,_,p=>(.bad,p)
def dd(C:Cf)(q:List (Nat×List (Nat×Nat))):SCode->List (List Nat)->SCode×List (List Nat)
 |.region ops _ _,d::r=>match q.lookup r.length with|some f=>(.region (ops.map (modeB C)) f d,r)|none=>(.region ops [] d,r)
 |.seq a b,l=>let x:=dd C q a l;let y:=dd C q b x.2;(.seq x.1 y.1,y.2)|.cond c a b,l=>let x:=dd C q a l;let y:=dd C q b x.2;(.cond c x.1 y.1,y.2)|.block i b,l=>let x:=dd C q b l;(.block i x.1,x.2)|.loop b,l=>let x:=dd C q b l;(.loop x.1,x.2)|.mloop pre x i h ok j k b2 rest b,l=>let z:=dd C q b l;(.mloop pre x i h ok j k b2 rest z.1,z.2)|.rfunc g f n a b,l=>let x:=dd C q a l;let y:=dd C q b x.2;(.rfunc g f n x.1 y.1,y.2)|c,l=>(c,l)
def resS(P:Program):ResultVar->SRes|.tmp t=>.tmp t|.cell a t=>.cell a ((rowN P t).getD none)
def SRes.slot:SRes->Nat|.tmp t=>t|.cell a _=>a
def ffn(P:Program)(C:Cf)(f:Nat):FFn:=match P.funcs[f]? with
 |some fn=>match fn.body with|some c=>let C:Cf:={C with roomy:= "slices.Delete[".isPrefixOf fn.name}
  let res:=fn.results.toList.map (resS P)
  let m:=msk (res.map SRes.slot)
  ⟨fn.ntmps,res,(ann m (let B:= "(*strings.Builder)".isPrefixOf fn.name;code P C (reg P C B) B fn.ntmps 1000 c) [] m (msk (List.range (fn.params.size+fn.nfree)))).1⟩|none=>⟨0,[],.bad⟩
 |none=>⟨0,[],.bad⟩
def sfn(P:Program)(C:Cf)(f:Nat)(l:List (List Nat))(q:List (Nat×List (Nat×Nat))):SFn:=match P.funcs[f]? with
 |some fn=>match fn.body with|some c=>⟨fn.ntmps,fn.results.toList.map (resS P),(dd C q (code P C (fun ops _=>.region (ops1 P C false ops) [] []) false fn.ntmps 1000 c) l).1⟩|none=>⟨0,[],.bad⟩
 |none=>⟨0,[],.bad⟩
theorem rr{a b:SFn}(h:a=b:=by conv=>lhs;reduce;simp only[Int.reduceOfNat,Int.reduceNegSucc,Go.AM.YA.u8e,UInt8.reduceOfNat]):a=b:=h
def Yt(P:Program)(C:Cf)(f:Nat)(l:List (List Nat))(q:List (Nat×List (Nat×Nat)):=[]):=∀s:SFn,sfn P C f l q=s->SFn
def tre(P:Program)(C:Cf):Nat->List Nat->FT2|0,_=>.z|k+1,l=>match l with|[]=>.z|[f]=>.l f (ffn P C f)|_=>let h:=l.length/2;.n (l.getD h 0) (tre P C k (l.take h)) (tre P C k (l.drop h))
def allOK(P:Program)(C:Cf):List Nat->Bool|[]=>true|f::r=>okFn P f (ffn P C f).slim&&allOK P C r
theorem Qe4{P:Program}{C:Cf}:∀{l:List Nat},allOK P C l=true->∀f∈l,okFn P f (ffn P C f).slim=true
 |[],_,_,h=>by cases h|g::r,h,f,hf=>by
  simp only[allOK,Bool.and_eq_true]at h;rcases List.mem_cons.1 hf with rfl|hf;·exact h.1
  exact Qe4 h.2 f hf
theorem QfQ{P:Program}{C:Cf}:∀(k:Nat)(l:List Nat),(∀f∈l,okFn P f (ffn P C f).slim=true)->(tre P C k l).OK P|0,_,_=>trivial|k+1,[],_=>trivial|k+1,[f],h=>h f (by simp)|k+1,f::g::r,h=>⟨QfQ k _ fun x a=>h x (List.mem_of_mem_take a),QfQ k _ fun x a=>h x (List.mem_of_mem_drop a)⟩
end Go.AM.YA
