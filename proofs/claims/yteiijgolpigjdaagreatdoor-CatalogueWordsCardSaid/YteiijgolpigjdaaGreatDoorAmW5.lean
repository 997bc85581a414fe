/- A part of the proof of CatalogueWordsCardSaid: lemmas on the way (AmI). Conditions: none of ours. -/
import Derived.RangeFuncRecord
import Derived.OrdersIn
import Derived.Test.YteiijgolpigjdaaGreatDoorAmW4
set_option linter.unusedSectionVars false
set_option maxHeartbeats 32000000
set_option maxRecDepth 100000
set_option linter.unusedVariables false
set_option linter.unusedSimpArgs false
namespace Go.AM
variable {P:Program}
def FW (ro:Option Nat):Fence:={Fence.wide with round:=ro}
theorem Ql9 {ro:Option Nat} (n:Nat):(FW ro).room n:=fun _ h=>by simp[FW,Fence.wide]at h
theorem callsFW {ro:Option Nat} {f:FuncId} {args:Array Value} {w:World} {R:Ending->World->Prop} (h:Calls P f args w R):CallsIn (FW ro) 0 P f args w R:=
 (callsIn_wide (n:=0)).2 h
def Lp (ro:Option Nat) (P:Program) (c:Code) (Q:Exit->Act->World->Prop) (a:Act) (w:World):Prop:=
 ∀(b:Frame) (k:List Item) (cs:List Frame),b.roundOf=ro->
  ∃e a' w',Q e a' w'/\ArrivesIn (Machine.fenced P (FW ro)) P (lone (b.atR a (.code c:: .inLoop c::k)) cs w) b k cs e a' w'
theorem Lp.loop {ro:Option Nat} {c:Code} {Q:Exit->Act->World->Prop} {a:Act} {w:World} (h:Lp ro P c Q a w):(Code.loop c).wpIn (FW ro) 0 P Q a w:=by
 intro b k cs hro hb hr
 obtain⟨e,a',w',hq,harr⟩:=h b k cs hro
 exact⟨e,a',w',hq,.of_steps (.one (fenced_calm hb hr rfl) stepR_loop) harr⟩
theorem Lp.round {ro:Option Nat} {c:Code} {Q:Exit->Act->World->Prop} {a:Act} {w:World} (h:c.wpIn (FW ro) 0 P (Exit.then (Lp ro P c Q) Q) a w):Lp ro P c Q a w:=by
 intro b k cs hro
 obtain⟨e,a',w',hq,harr⟩:=h b (.inLoop c::k) cs hro trivial (Ql9 _)
 cases e with
 |normal=>
  obtain⟨e3,a3,w3,hq3,harr3⟩:=hq b k cs hro
  exact⟨e3,a3,w3,hq3,.of_steps (StepsIn.trans harr (.one (fenced_calm (n:=0) trivial (Ql9 _) rfl) stepR_inLoop)) harr3⟩
 |exit i=>exact⟨_,a',w',hq,.pass (x:= .inLoop c) rfl (fun _ _=> .inl (by simp)) harr⟩
 |goto l=>exact⟨_,a',w',hq,.pass (x:= .inLoop c) rfl (fun _ _=> .inl (by simp)) harr⟩
 |ret=>exact⟨_,a',w',hq,.pass (x:= .inLoop c) rfl (fun _ _=> .inl (by simp)) harr⟩
 |panic ch=>exact⟨_,a',w',hq,.pass (x:= .inLoop c) rfl (fun _ _=> .inl (by simp)) harr⟩
 |outgrown=>exact⟨_,a',w',hq,.pass (x:= .inLoop c) rfl (fun _ _=> .inl (by simp)) harr⟩
def HSpec (P:Program) (f:Nat) (args:List AV) (h:Heap) (v:AV) (h':Heap):Prop:=
 Callable P f/\∀(c:Ctx (okc P)) (w:World) (cargs:Array Value),HRel c h w->VRels c w args cargs.toList->
  Calls P f cargs w fun e w'=>∃cv c',e= .returned cv/\Evo c w c' w'/\HRel c' h' w'/\VRel c' w' v cv
def Rets (P:Program) (c:Ctx (okc P)) (w:World) (h1:Heap) (v:AV):Ending->World->Prop:=fun e w'=>∃cv c',e= .returned cv/\Evo c w c' w'/\HRel c' h1 w'/\VRel c' w' v cv
def RSpec (P:Program) (b g:Nat) (args:List AV) (h:Heap) (v:AV) (h':Heap):Prop:=
 ∀(c:Ctx (okc P)) (w:World) (cargs:Array Value) (cb:Nat),HRel c h w->VRels c w args cargs.toList->c.ρ b g=some (.loc cb 0)->
  ∃(fn:Nat) (tmps:Array Value) (asg body:Code),(Instr.yield cb cargs).run P w= .ok (.round cb fn tmps asg body) w/\RoundIn Fence.wide 0 P cb fn tmps asg body w (Rets P c w h' v)
def PSpec (P:Program) (f:Nat) (args:List AV) (v:AV):Prop:=
 noRefs args=true/\noRef v=true/\∃h',HSpec P f args .e v h'
def one (b:Nat) (x:Blk):Heap:=Tr.set .e b x
theorem Qqp {b:Nat} {x:Blk} (hb:b<lim) (j:Nat):(one b x).get j=if j=b then some x else none:=by
 simp_all [one,Tr.Qa2,Tr.get]
def own1 (b g:Nat):List AV->Bool
 |[]=>true
 | .sl b' g' _ _ _::xs=>b'==b&&g'==g&&own1 b g xs
 |x::xs=>noRef x&&own1 b g xs
def GSpec (P:Program) (f:Nat) (args:List AV) (b g:Nat) (xs:List AV) (v:AV):Prop:=
 Callable P f/\own1 b g args=true/\noRef v=true/\flatVs xs=true/\b<lim/\∀(c:Ctx (okc P)) (w:World) (cargs:Array Value),HRel c (one b (.cells g xs)) w->VRels c w args cargs.toList->
  Calls P f cargs w fun e w'=>∃cv c',e= .returned cv/\Evo c w c' w'/\(∀k,c'.F k\/c'.O k->k<w'.heap.size)/\VRel (lent c') w' v cv
def NSpec (P:Program) (f:Nat) (args ys:List AV) (len sz:Nat):Prop:=
 Callable P f/\noRefs args=true/\∃(b g off:Nat) (cs:List AV) (h':Heap),cs.drop off=ys/\off<=cs.length/\h'.get b=some (.cells g cs)/\HSpec P f args .e (.sl b g off len sz) h'
def HM.fp {α:Type}:HM α->Heap->List Nat×List Nat
 | .ret _,_=>([],[])
 | .fail,_=>([],[])
 | .look b k,h=>let r:=(k (h.get b)).fp h;(b::r.1,r.2)
 | .put b x k,h=>let r:=k.fp (h.set b x);(r.1,b::r.2)
theorem HM.local {α:Type} (m:HM α):∀(h h':Heap) (a:α) (h1:Heap),m.run h=some (a,h1)->(∀b∈(m.fp h).1,h.get b=h'.get b)->
  ∃h1',m.run h'=some (a,h1')/\m.fp h'=m.fp h/\(∀b∈(m.fp h).2,h1'.get b=h1.get b)/\(∀b,b∉(m.fp h).2->h1'.get b=h'.get b)/\(∀b,b∉(m.fp h).2->h1.get b=h.get b):=by
 induction m with
 |ret x=>
  intro h h' a h1 hm _
  simp only[HM.run,Option.some.injEq,Prod.mk.injEq]at hm
  obtain⟨rfl,rfl⟩:=hm
  exact⟨h',rfl,rfl,by simp[HM.fp],by simp,by simp⟩
 |fail=>intro h h' a h1 hm;simp[HM.run]at hm
 |look b k ih=>
  intro h h' a h1 hm hag
  simp only[HM.run]at hm
  simp only[HM.fp]at hag⊢
  have hb:h.get b=h'.get b:=hag b (by simp)
  obtain⟨h1',k1,k2,k3,k4,k5⟩:=ih _ h h' a h1 hm (fun b' hb'=>hag b' (by simp[hb']))
  rw[<-hb]
  refine⟨h1',by simp_all [HM.run],by rw[k2],k3,k4,k5⟩
 | put b x k ih =>
  intro h h' a h1 hm hag
  obtain⟨hl,hm⟩:=Qa3 hm
  simp only[HM.fp]at hag⊢
  obtain⟨h1',k1,k2,k3,k4,k5⟩:=ih (h.set b x) (h'.set b x) a h1 hm (fun b' hb'=>by
   simp_all [Tr.Qa2])
  refine⟨h1',?_,by rw[k2],?_,?_,?_⟩
  ·grind [HM.run]
  ·grind [Tr.Qa2]
  ·simp_all [Tr.Qa2]
  ·simp_all [Tr.Qa2]
def HM.ro {α:Type}:HM α->Prop
 | .ret _=>True
 | .fail=>True
 | .look _ k=>∀x,(k x).ro
 | .put _ _ _=>False
theorem HM.ro_fp {α:Type} (m:HM α):m.ro->∀h,(m.fp h).2=[]:=by
 induction m with
 |ret a=>intro _ h;rfl
 |fail=>intro _ h;rfl
 |look b k ih=>intro hr h;exact ih _ (hr _) h
 |put b x k ih=>intro hr;exact hr.elim
theorem HM.QbS {α β:Type} {m:HM α} {f:α->HM β} (h1:m.ro) (h2:∀a,(f a).ro):(m.bind f).ro:=by
 induction m with
 |ret a=>exact h2 a
 |fail=>trivial
 |look b k ih=>exact fun x=>ih x (h1 x)
 |put b x k ih=>exact h1.elim
theorem Qhz {α:Type} (o:Option α):(HM.opt o).ro:=by cases o<;>trivial
theorem QeP {α:Type} {b g:Nat} {k:List AV->HM α} (h:∀cs,(k cs).ro):(HM.cells b g k).ro:=by
 intro x
 dsimp only
 split
 ·rename_i g' cs
  cases Nat.beq g' g with
  |true=>exact h cs
  |false=>trivial
 ·trivial
theorem Qni {α:Type} {b g:Nat} {k:List (AV×AV)->HM α} (h:∀cs,(k cs).ro):(HM.entries b g k).ro:=by
 intro x
 dsimp only
 split
 ·rename_i g' cs
  cases Nat.beq g' g with
  |true=>exact h cs
  |false=>trivial
 ·trivial
theorem QcQ {f:AV->HM AV} (hf:∀x,(f x).ro):∀xs,(mapH f xs).ro
 |[]=>trivial
 |x::xs=>HM.QbS (hf x) fun y=>HM.QbS (QcQ hf xs) fun ys=>trivial
theorem QdT:∀(d:Nat) (x:AV),(frzH d x).ro
 |0,x=>trivial
 | d + 1, x => by
  cases x<;>simp only[frzH]<;>try trivial
  ·exact HM.QbS (QcQ (QdT d) _) fun _=>trivial
  ·exact HM.QbS (QcQ (QdT d) _) fun _=>trivial
  ·exact QeP fun cs=>HM.QbS (QcQ (QdT d) _) fun _=>trivial
  ·refine QeP fun cs => ?_
   split
   ·exact HM.QbS (QcQ (QdT d) _) fun _=>trivial
   ·trivial
theorem HM.QnY {α:Type} (m:HM α):m.ro->∀{h:Heap} {a:α} {h1:Heap},m.run h=some (a,h1)->h1=h:=by
 induction m with
 |ret x=>intro _ h a h1 hm;simp only[HM.run,Option.some.injEq,Prod.mk.injEq]at hm;exact hm.2.symm
 |fail=>intro _ h a h1 hm;simp[HM.run]at hm
 |look b k ih=>intro hr h a h1 hm;exact ih _ (hr _) hm
 |put b x k ih=>intro hr;exact hr.elim
theorem HM.Qpy {α:Type} {m:HM α} (hr:m.ro) {h h':Heap} {a:α} (hm:m.run h=some (a,h)) (he:∀b∈(m.fp h).1,h.get b=h'.get b):m.run h'=some (a,h')/\m.fp h'=m.fp h:=by
 obtain⟨h1',k1,k2,_⟩:=m.local h h' a h hm he
 grind [HM.QnY]
theorem lk_up (T : Tmps) (i : Nat) (v : AV) (j : Nat) : lk (up T i v) j = if j = i then v else lk T j := by
  induction T with
  | nil =>
    simp only[up,lk]
    by_cases e:j=i
    · simp_all
    · have : Nat.beq i j = false := by rw [Bool.eq_false_iff]; simpa using fun h => e h.symm
      simp_all
  | cons p T ih =>
    obtain⟨k,u⟩:=p
    simp only[up]
    by_cases hk:k=i
    · subst hk
      have:Nat.beq k k=true:=by simp
      rw[this]
      simp only[cond_true,lk]
      by_cases e:j=k
      · simp_all
      · have h2 : Nat.beq k j = false := by rw [Bool.eq_false_iff]; simpa using fun h => e h.symm
        simp_all
    · have : Nat.beq k i = false := by simp_all [Bool.eq_false_iff]
      grind [lk]
def putD (T:Tmps) (dst:Option Nat) (v:AV):Tmps:=
 match dst with
 |some d=>up T d v
 |none=>T
theorem QbI (T:Tmps) (dst:Option Nat) (v:AV) (j:Nat):lk (putD T dst v) j=if dst=some j then v else lk T j:=by
 cases dst with
 |none=>simp[putD]
 |some d=>
  simp only[putD,lk_up,Option.some.injEq]
  by_cases e:j=d
  ·subst e;simp
  ·grind
theorem Qka {T T':Tmps} {x:Opd} (h:∀i∈x.slots,lk T i=lk T' i):ev T x=ev T' x:=by
 cases x<;>simp only[ev]
 simp_all [Opd.slots]
theorem QnZ {xs:List Opd} {x:Opd} (hx:x∈xs) {i:Nat} (hi:i∈x.slots):i∈slotsOf xs:=List.mem_flatMap.2 ⟨x,hx,hi⟩
theorem QiL {i:Nat} {T T':Tmps} {s:SOp} (h:∀j∈slotsOf s.opds,lk T j=lk T' j):aop i T s=aop i T' s:=by
  have one:∀x∈s.opds,ev T x=ev T' x:=fun x hx=>Qka fun j hj=>h j (QnZ hx hj)
  cases s<;>simp only[SOp.opds]at one<;>simp only[aop]<;>
    first
      |rfl
      |(rw[one _ (by simp)];done)
      |(rw[one _ (List.mem_cons_self ..),one _ (by simp)];done)
      | (simp only [List.mem_cons, List.not_mem_nil, or_false, forall_eq_or_imp, forall_eq] at one
         simp only[one];done)
      |skip
  case build zero parts=>
    have:evParts T parts=evParts T' parts:=List.map_congr_left fun p hp=>by grind
    rw[this]
  case bslice fz s sz len zero parts=>
    have:evParts T parts=evParts T' parts:=List.map_congr_left fun p hp=>by grind
    rw[this]
  case mkfn f xs ys=>
    simp_all [evs]
  case slice sz x l hh m=>
    have e1:evo T l=evo T' l:=by cases l<;>simp[evo];simp_all
    have e2:evo T hh=evo T' hh:=by cases hh<;>simp[evo];simp_all
    have e3:evo T m=evo T' m:=by cases m<;>simp[evo];simp_all
    simp_all
  case sliceK sz x l hh=>
    have e1:evo T l=evo T' l:=by cases l<;>simp[evo];simp_all
    have e2:evo T hh=evo T' hh:=by cases hh<;>simp[evo];simp_all
    simp_all
  case maxmin mn xs=>
    grind [evs,List.map_congr_left]
  case ext k f xs=>
    grind [evs,List.map_congr_left]
  grind [evs,List.map_congr_left]
structure FP where
 all:Bool
 R:List Nat
 W:List Nat
def fpOf (r:List Nat×List Nat):FP:=⟨false,r.1,r.2⟩
def NStep (P : Program) (i f : Nat) (args : List AV) (h : Heap) (v : AV) (h1 : Heap) (fp : FP) : Prop :=
  ∃ asg R, ((asg = args /\ R = []) \/ ((mapH (frzH 4) args).run h = some (asg, h) /\ R = ((mapH (frzH 4) args).fp h).1)) /\
    ((∃ ys len sz, NSpec P f asg ys len sz /\ (flatVs ys = true \/ noRefs ys = true /\ asg = args) /\ i < lim /\ h.get i = none /\ v = .sl i 0 0 len sz /\ h1 = h.set i (.cells 0 ys) /\ fp = ⟨false, i :: R, [i]⟩) \/
     (PSpec P f asg v/\(flatV v=true\/asg=args)/\h1=h/\fp=⟨false,R,[]⟩))
def over (k:Heap) (h:Heap):List Nat->Heap
 |[]=>h
 |b::D=>match k.get b with
  |some x=>over k (h.set b x) D
  |none=>over k h D
def pick (h:Heap) (B:List Nat):Heap:=over h .e B
def allLim (B:List Nat):Bool:=B.all fun b=>Nat.blt b lim
theorem Qdu {B:List Nat} (h:allLim B=true) {b:Nat} (hb:b∈B):b<lim:=by
 have:=List.all_eq_true.1 h b hb
 simp_all
theorem QeQ {k:Heap}:∀{D:List Nat} {h:Heap},(∀b∈D,b<lim)->(∀b∈D,k.get b≠none)->∀j,(over k h D).get j=if j∈D then k.get j else h.get j
 |[],h,_,_,j=>by simp[over]
 | b :: D, h, hD, hk, j => by
  simp only[over]
  cases hb:k.get b with
  |none=>exact absurd hb (hk b (by simp))
  |some x=>
   simp only
   rw[QeQ (D:=D) (fun b hb=>hD b (by simp[hb])) (fun b hb=>hk b (by simp[hb])) j,Tr.Qa2 _ (hD b (by simp))]
   by_cases e:j=b
   ·simp_all
   ·simp[e]
theorem QeR {h h':Heap}:∀{B:List Nat} {k:Heap},(∀b∈B,h.get b=h'.get b)->over h k B=over h' k B
 |[],_,_=>rfl
 |b::B,k,e=>by
  simp only[over]
  rw[<-e b (by simp)]
  cases h.get b with
  |none=>exact QeR fun b hb=>e b (by simp[hb])
  |some x=>exact QeR fun b hb=>e b (by simp[hb])
theorem Qnj {h h':Heap} {B:List Nat} (e:∀b∈B,h.get b=h'.get b):pick h B=pick h' B:=QeR e
theorem Qpz {h:Heap} {B:List Nat} (hB:∀b∈B,b<lim) (hn:∀b∈B,h.get b≠none) (k:Nat):(pick h B).get k=if k∈B then h.get k else none:=by
 simp_all [pick,QeQ,Tr.get]
def blkIn (B:List Nat):Option Blk->Bool
 |some (.cells _ cs)=>inBs B cs
 |some (.map _ es)=>inBe B es
 |some (.dead _)=>true
 |_=>false
def eqStr:List UInt8->List UInt8->Bool
 |[],[]=>true
 |x::xs,y::ys=>bif Nat.beq x.toNat y.toNat then eqStr xs ys else false
 |_,_=>false
theorem Qkb:∀{x y:List UInt8},eqStr x y=true->x=y
 |[],[],_=>rfl
 |[],_::_,h=>by simp[eqStr]at h
 |_::_,[],h=>by simp[eqStr]at h
 | x :: xs, y :: ys, h => by
  simp only[eqStr]at h
  cases e:Nat.beq x.toNat y.toNat with
  |false=>rw[e]at h;simp at h
  |true=>
   rw[e]at h
   have:x=y:=UInt8.toNat_inj.1 (by simpa using e)
   have e2:xs=ys:=Qkb (by simpa using h)
   rw[this,e2]
def eqInt:Int->Int->Bool
 | .ofNat a,.ofNat b=>Nat.beq a b
 | .negSucc a,.negSucc b=>Nat.beq a b
 |_,_=>false
theorem QpA:∀{a b:Int},eqInt a b=true->a=b
 | .ofNat a,.ofNat b,h=>by simp_all [eqInt]
 | .negSucc a,.negSucc b,h=>by simp_all [eqInt]
 | .ofNat a,.negSucc b,h=>by simp[eqInt]at h
 | .negSucc a,.ofNat b,h=>by simp[eqInt]at h
def eqK:IntKind->IntKind->Bool
 | .i8,.i8| .i16,.i16| .i32,.i32| .i64,.i64| .u8,.u8| .u16,.u16| .u32,.u32| .u64,.u64=>true
 |_,_=>false
theorem Qrm {a b:IntKind} (h:eqK a b=true):a=b:=by cases a<;>cases b<;>simp[eqK]at h<;>rfl
mutual
def eqAV:AV->AV->Bool
 | .any,.any=>true
 | .bool a,.bool b=>match a,b with|true,true=>true|false,false=>true|_,_=>false
 | .int k n,.int k' n'=>bif eqInt n n' then eqK k k' else false
 | .str s,.str s'=>eqStr s s'
 | .agg cs,.agg cs'=>eqAVs cs cs'
 | .tup cs,.tup cs'=>eqAVs cs cs'
 | .nilptr,.nilptr=>true
 | .ptr b g o,.ptr b' g' o'=>Nat.beq b b'&&Nat.beq g g'&&Nat.beq o o'
 | .fptr cs,.fptr cs'=>eqAVs cs cs'
 | .nilsl,.nilsl=>true
 | .sl b g o l s,.sl b' g' o' l' s'=>Nat.beq b b'&&Nat.beq g g'&&Nat.beq o o'&&Nat.beq l l'&&Nat.beq s s'
 | .fsl cs l s,.fsl cs' l' s'=>Nat.beq l l'&&Nat.beq s s'&&eqAVs cs cs'
 | .esl,.esl=>true
 | .nsl,.nsl=>true
 | .nilmap,.nilmap=>true
 | .map b g,.map b' g'=>Nat.beq b b'&&Nat.beq g g'
 | .fmap x y,.fmap x' y'=>eqAVs x x'&&eqAVs y y'
 | .nilfn,.nilfn=>true
 | .fn f x y,.fn f' x' y'=>Nat.beq f f'&&eqAVs x x'&&eqAVs y y'
 | .nilif,.nilif=>true
 | .ifc t v,.ifc t' v'=>Nat.beq t t'&&eqAV v v'
 | .typed t n v,.typed t' n' v'=>Nat.beq t t'&&Nat.beq n n'&&eqAV v v'
 |_,_=>false
termination_by structural x=>x
def eqAVs:List AV->List AV->Bool
 |[],[]=>true
 |x::xs,y::ys=>bif eqAV x y then eqAVs xs ys else false
 |_,_=>false
termination_by structural x=>x
end
mutual
theorem QdK:∀(x y:AV),eqAV x y=true->x=y
 | .any,y,h=>by grind [eqAV]
 | .bool a,y,h=>by
  cases y<;>simp only[eqAV,Bool.false_eq_true]at h
  grind
 | .int k n,y,h=>by
  cases y<;>simp only[eqAV,Bool.false_eq_true]at h
  grind [Qrm,QpA]
 | .str s,y,h=>by
  cases y<;>simp only[eqAV,Bool.false_eq_true]at h
  rw[Qkb h]
 | .agg cs,y,h=>by
  cases y<;>simp only[eqAV,Bool.false_eq_true]at h
  rw[Qb2 _ _ h]
 | .tup cs,y,h=>by
  cases y<;>simp only[eqAV,Bool.false_eq_true]at h
  rw[Qb2 _ _ h]
 | .nilptr,y,h=>by grind [eqAV]
 | .ptr b g o,y,h=>by cases y<;>simp[eqAV]at h;simp[h]
 | .fptr cs,y,h=>by
  cases y<;>simp only[eqAV,Bool.false_eq_true]at h
  rw[Qb2 _ _ h]
 | .nilsl,y,h=>by grind [eqAV]
 | .sl b g o l s,y,h=>by cases y<;>simp[eqAV]at h;simp[h]
 | .fsl cs l s,y,h=>by
  cases y<;>simp only[eqAV,Bool.false_eq_true,Bool.and_eq_true,Nat.beq_eq]at h
  rw[Qb2 _ _ h.2,h.1.1,h.1.2]
 | .esl,y,h=>by grind [eqAV]
 | .nsl,y,h=>by grind [eqAV]
 | .nilmap,y,h=>by grind [eqAV]
 | .map b g,y,h=>by cases y<;>simp[eqAV]at h;simp[h]
 | .fmap x z,y,h=>by
  cases y<;>simp only[eqAV,Bool.false_eq_true,Bool.and_eq_true]at h
  rw[Qb2 _ _ h.1,Qb2 _ _ h.2]
 | .nilfn,y,h=>by grind [eqAV]
 | .fn f x z,y,h=>by
  cases y<;>simp only[eqAV,Bool.false_eq_true,Bool.and_eq_true,Nat.beq_eq]at h
  rw[h.1.1,Qb2 _ _ h.1.2,Qb2 _ _ h.2]
 | .nilif,y,h=>by grind [eqAV]
 | .yld b g,y,h=>by simp_all [eqAV]
 | .ifc t v,y,h=>by
  cases y<;>simp only[eqAV,Bool.false_eq_true,Bool.and_eq_true,Nat.beq_eq]at h
  rw[h.1,QdK _ _ h.2]
 | .typed t n v,y,h=>by
  cases y<;>simp only[eqAV,Bool.false_eq_true,Bool.and_eq_true,Nat.beq_eq]at h
  rw[h.1.1,h.1.2,QdK _ _ h.2]
theorem Qb2:∀(x y:List AV),eqAVs x y=true->x=y
 |[],y,h=>by grind [eqAVs]
 | x :: xs, y, h => by
  cases y with
  |nil=>simp[eqAVs]at h
  | cons y ys =>
   simp only[eqAVs]at h
   cases e:eqAV x y with
   |false=>rw[e]at h;simp at h
   |true=>
    rw[e]at h
    have e2:xs=ys:=Qb2 _ _ (by simpa using h)
    rw[QdK _ _ e,e2]
end
def eqEs:List (AV×AV)->List (AV×AV)->Bool
 |[],[]=>true
 |p::r,q::s=>bif eqAV p.1 q.1&&eqAV p.2 q.2 then eqEs r s else false
 |_,_=>false
theorem Qma:∀{x y:List (AV×AV)},eqEs x y=true->x=y
 |[],[],_=>rfl
 |[],_::_,h=>by simp[eqEs]at h
 |_::_,[],h=>by simp[eqEs]at h
 | (a, b) :: xs, (c, d) :: ys, h => by
  simp only[eqEs]at h
  cases e:eqAV a c&&eqAV b d with
  |false=>rw[e]at h;simp at h
  |true=>
   rw[e]at h
   simp only[Bool.and_eq_true]at e
   have e2:xs=ys:=Qma (by simpa using h)
   rw[QdK _ _ e.1,QdK _ _ e.2,e2]
def eqBlk:Option Blk->Option Blk->Bool
 |some (.cells g cs),some (.cells g' cs')=>bif Nat.beq g g' then eqAVs cs cs' else false
 |some (.map g es),some (.map g' es')=>bif Nat.beq g g' then eqEs es es' else false
 |some (.dead g),some (.dead g')=>Nat.beq g g'
 |_,_=>false
theorem QpB {x y:Option Blk} (h:eqBlk x y=true):x=y:=by
 unfold eqBlk at h
 split at h
 ·rename_i g cs g' cs'
  cases e:Nat.beq g g' with
  |false=>rw[e]at h;simp at h
  |true=>
   rw[e]at h
   have e1:g=g':=by simpa using e
   have e2:cs=cs':=Qb2 _ _ (by simpa using h)
   rw[e1,e2]
 ·rename_i g es g' es'
  cases e:Nat.beq g g' with
  |false=>rw[e]at h;simp at h
  |true=>
   rw[e]at h
   have e1:g=g':=by simpa using e
   have e2:es=es':=Qma (by simpa using h)
   rw[e1,e2]
 ·simp_all
 ·cases h
def FStep (P:Program) (f:Nat) (args:List AV) (h:Heap) (v:AV) (h1:Heap) (fp:FP):Prop:=
 ∃B D W k1,allLim B=true/\allLim D=true/\inBs B args=true/\(∀b∈B,blkIn B (h.get b)=true)/\HSpec P f args (pick h B) v k1/\
  (∀b∈D,k1.get b≠none)/\(∀b,k1.get b≠none->b∈D)/\(∀b∈B,b∈D)/\(∀b∈D,b∉B->h.get b=none)/\(∀b∈D,b∉W->k1.get b=h.get b)/\(∀b∈W,b∈D)/\h1=over k1 h D/\fp=⟨false,D,W⟩
def StepX (P:Program) (i:Nat) (s:SOp) (T:Tmps) (h:Heap) (v:AV) (h1:Heap) (fp:FP):Prop:=
 ∃out h2,(aop i T s).run h=some (out,h2)/\
  match out with
  | .val u=>v=u/\h1=h2/\fp=fpOf ((aop i T s).fp h)
  | .call .pure f args=>PSpec P f args v/\h1=h2/\fp=fpOf ((aop i T s).fp h)
  | .call .borrow f args=>PSpec P f args v/\flatV v=true/\h1=h2/\fp=fpOf ((aop i T s).fp h)
  | .call .heap f args=>(HSpec P f args h2 v h1/\fp=⟨true,[],[]⟩)\/(∃b g xs,GSpec P f args b g xs v/\h2.get b=some (.cells g xs)/\h1=h2.set b (.dead g)/\fp=⟨false,[b],[b]⟩)\/NStep P i f args h2 v h1 fp\/FStep P f args h2 v h1 fp
  | .round b g args=>RSpec P b g args h2 v h1/\fp=⟨true,[],[]⟩
def wantedA (x:AV) (want:Bool):Option Bool:=
 match x with
 | .bool b=>some (b==want)
 | .tup []=>some false
 |_=>none
def StepV (P:Program) (i:Nat) (s:SOper) (T:Tmps) (h:Heap) (v:AV) (h1:Heap) (fp:FP):Prop:=
 match s.guard with
 |none=>StepX P i s.op T h v h1 fp
 |some (g,want)=>∃b,wantedA (lk T g) want=some b/\if b=true then StepX P i s.op T h v h1 fp else(v= .tup []/\h1=h/\fp=⟨false,[],[]⟩)
structure St where
 T:Tmps
 h:Heap
def SEq (A B:St):Prop:=(∀i,lk A.T i=lk B.T i)/\∀b,A.h.get b=B.h.get b
theorem SEq.refl (A:St):SEq A A:=⟨fun _=>rfl,fun _=>rfl⟩
theorem SEq.symm {A B:St} (h:SEq A B):SEq B A:=⟨fun i=>(h.1 i).symm,fun b=>(h.2 b).symm⟩
theorem SEq.trans {A B C:St} (h:SEq A B) (k:SEq B C):SEq A C:=⟨fun i=>(h.1 i).trans (k.1 i),fun b=>(h.2 b).trans (k.2 b)⟩
theorem QhA {h h':Heap} (e:∀b,h.get b=h'.get b) {b g:Nat}:Live h b g↔Live h' b g:=by
 grind [Live]
theorem Qcd {ok:Okc} {c:Ctx ok} {w:World} {h h':Heap} (e:∀b,h.get b=h'.get b) (H:HRel c h w):HRel c h' w:=
 ⟨fun b hb => H.fresh b (by simp_all), fun b x hx => H.later b x (by simp_all), fun b x hx => H.blk b x (by simp_all),
  fun b g b' g' cb base base' l l'=>H.inj b g b' g' cb base base' ((QhA e).2 l) ((QhA e).2 l'),H.disj,H.inF,H.inO⟩
theorem QlX {f:Nat} {args:List AV} {h h2 h1:Heap} {v:AV} (e:∀b,h.get b=h2.get b) (H:HSpec P f args h v h1):HSpec P f args h2 v h1:=
 ⟨H.1,fun c w cargs hr ha=>H.2 c w cargs (Qcd (fun b=>(e b).symm) hr) ha⟩
theorem QlY {b g:Nat} {args:List AV} {h h2 h1:Heap} {v:AV} (e:∀b,h.get b=h2.get b) (H:RSpec P b g args h v h1):RSpec P b g args h2 v h1:=
 fun c w cargs cb hr ha=>H c w cargs cb (Qcd (fun b=>(e b).symm) hr) ha
def AOut.whole:AOut->Bool
 | .call .heap _ _=>true
 | .round .. =>true
 |_=>false
theorem QpC {m:CallM} {x:AV} {args:List AV} {h:Heap} {out:AOut} (ho:out.whole=true) {h2:Heap} (hm:(aCall m x args).run h=some (out,h2)):h2=h/\(∀h',(aCall m x args).run h'=some (out,h')):=by
 cases x<;>simp only[aCall]at hm<;>try (cases hm;done)
 ·cases m with
  |heap=>
   simp only[HM.run,Option.some.injEq,Prod.mk.injEq]at hm
   obtain⟨h1,rfl⟩:=hm
   exact⟨rfl,fun h'=>by grind [aCall,HM.run]⟩
  |pure=>
   simp only[HM.run,Option.some.injEq,Prod.mk.injEq]at hm
   obtain⟨rfl,rfl⟩:=hm
   cases ho
  |borrow=>
   simp only at hm
   obtain⟨asg',h3,k1,k2⟩:=run_bind hm
   simp only[HM.run,Option.some.injEq,Prod.mk.injEq]at k2
   obtain⟨rfl,rfl⟩:=k2
   cases ho
 ·cases m <;> simp only [HM.run, Option.some.injEq, Prod.mk.injEq, reduceCtorEq] at hm
  obtain⟨h1,rfl⟩:=hm
  exact⟨rfl,fun h'=>by grind [aCall,HM.run]⟩
theorem Qkc {i:Nat} {T:Tmps} {s:SOp} {h:Heap} {out:AOut} (ho:out.whole=true) {h2:Heap} (hm:(aop i T s).run h=some (out,h2)):h2=h/\(∀h',(aop i T s).run h'=some (out,h')):=by
 have lf:∀(o:Option AV),(lift o).run h≠some (out,h2):=by
  intro o e
  obtain⟨v,_,k⟩:=QaV e
  cases k;cases ho
 have hf:∀(m:HM AV),(hval m).run h≠some (out,h2):=by
  intro m e
  obtain⟨v,h1,_,k⟩:=QaS e
  cases k;cases ho
 have vf:∀(u:AV),(HM.ret (AOut.val u)).run h≠some (out,h2):=by
  intro u e
  simp only[HM.run,Option.some.injEq,Prod.mk.injEq]at e
  obtain⟨rfl,rfl⟩:=e
  cases ho
 cases s<;>simp only[aop]at hm⊢ <;>first
  |exact absurd hm (lf _)
  |exact absurd hm (hf _)
  |exact absurd hm (vf _)
  |(simp only[HM.run,reduceCtorEq]at hm;done)
  |exact QpC ho hm
theorem StepX.local {i : Nat} {s : SOp} {T T' : Tmps} {h h' : Heap} {v : AV} {h1 : Heap} {fp : FP} (hs : StepX P i s T h v h1 fp) (hT : ∀ j ∈ slotsOf s.opds, lk T j = lk T' j)
    (hR:fp.all=false->∀b∈fp.R,h.get b=h'.get b) (hA:fp.all=true->∀b,h.get b=h'.get b):
    ∃h1',StepX P i s T' h' v h1' fp/\(fp.all=false->(∀b∈fp.W,h1'.get b=h1.get b)/\(∀b,b∉fp.W->h1'.get b=h'.get b)/\∀b,b∉fp.W->h1.get b=h.get b)/\(fp.all=true->h1'=h1):=by
  obtain⟨out,h2,hm,hh⟩:=hs
  have hop:=QiL (i:=i) (s:=s) hT
  have gen:fp=fpOf ((aop i T s).fp h)->(∀b∈((aop i T s).fp h).1,h.get b=h'.get b)->∃h2',(aop i T' s).run h'=some (out,h2')/\fpOf ((aop i T' s).fp h')=fp/\
      (∀b∈fp.W,h2'.get b=h2.get b)/\(∀b,b∉fp.W->h2'.get b=h'.get b)/\∀b,b∉fp.W->h2.get b=h.get b:=by
    intro e hag
    obtain⟨h2',k1,k2,k3,k4,k5⟩:=(aop i T s).local h h' out h2 hm hag
    rw[hop]at k1 k2
    refine⟨h2',k1,?_,?_,?_,?_⟩
    · rw[k2,e,hop]
    · rw[e];exact k3
    · rw[e];exact k4
    · rw[e];exact k5
  match out,hm,hh with
  | .val u, hm, hh =>
    obtain⟨rfl,rfl,e⟩:=hh
    obtain⟨h2',k1,k2,k3,k4,k5⟩:=gen e (by have:=hR (by rw[e];rfl);rw[e]at this;exact this)
    exact⟨h2',⟨_,h2',k1,rfl,rfl,k2.symm⟩,fun _=>⟨k3,k4,k5⟩,fun ha=>by rw[e]at ha;cases ha⟩
  | .call .pure f args, hm, hh =>
    obtain⟨g1,rfl,e⟩:=hh
    obtain⟨h2',k1,k2,k3,k4,k5⟩:=gen e (by have:=hR (by rw[e];rfl);rw[e]at this;exact this)
    exact⟨h2',⟨_,h2',k1,g1,rfl,k2.symm⟩,fun _=>⟨k3,k4,k5⟩,fun ha=>by rw[e]at ha;cases ha⟩
  | .call .borrow f args, hm, hh =>
    obtain⟨g1,g2,rfl,e⟩:=hh
    obtain⟨h2',k1,k2,k3,k4,k5⟩:=gen e (by have:=hR (by rw[e];rfl);rw[e]at this;exact this)
    exact⟨h2',⟨_,h2',k1,g1,g2,rfl,k2.symm⟩,fun _=>⟨k3,k4,k5⟩,fun ha=>by rw[e]at ha;cases ha⟩
  | .call .heap f args, hm, hh =>
    obtain⟨rfl,hall⟩:=Qkc rfl hm
    rcases hh with⟨g1,e⟩|⟨b,g,xs,g1,hb,rfl,e⟩|⟨asg,R,hR2,hN⟩|⟨B,D,W,k1,f1,f2,f3,f4,f5,f6,f7,f8,f9,fw1,fw2,rfl,e⟩
    · have hag := hA (by rw [e])
      refine⟨h1,⟨.call .heap f args,h',?_,.inl ⟨QlX hag g1,e⟩⟩,⟨fun ha=>(by simp_all),fun _=>rfl⟩⟩
      simp_all
    · have hb' : h'.get b = some (.cells g xs) := by simp_all
      have hl:=g1.2.2.2.2.1
      refine⟨h'.set b (.dead g),⟨.call .heap f args,h',?_,.inr (.inl ⟨b,g,xs,g1,hb',rfl,e⟩)⟩,⟨fun _=>?_,fun ha=>(by simp_all)⟩⟩
      · simp_all
      simp_all [Tr.Qa2]
    · have hag : fp.all = false /\ (∀ b ∈ R, b ∈ fp.R) := by
        grind
      have hR':(asg=args/\R=[])\/((mapH (frzH 4) args).run h'=some (asg,h')/\R=((mapH (frzH 4) args).fp h').1):=by
        grind [HM.Qpy,QcQ,QdT]
      rcases hN with⟨ys,len,sz,n1,n2,hl,hi,rfl,rfl,e⟩|⟨n1,n2,rfl,e⟩
      · have hi' : h'.get i = none := by simp_all
        refine⟨h'.set i (.cells 0 ys),⟨.call .heap f args,h',?_,.inr (.inr (.inl ⟨asg,R,hR',.inl ⟨ys,len,sz,n1,n2,hl,hi',rfl,rfl,e⟩⟩))⟩,⟨fun _=>?_,fun ha=>(by simp_all)⟩⟩
        · simp_all
        simp_all [Tr.Qa2]
      · refine ⟨h', ⟨.call .heap f args, h', ?_, .inr (.inr (.inl ⟨asg, R, hR', .inr ⟨n1, n2, rfl, e⟩⟩))⟩, ⟨fun _ => ?_, fun ha => (by simp_all)⟩⟩
        · simp_all
        simp_all
    · have hag : ∀ b ∈ D, h2.get b = h'.get b := fun b hb => hR (by rw [e]) b (by simp_all)
      have hpk:pick h2 B=pick h' B:=Qnj fun b hb=>hag b (f8 b hb)
      have hD:∀b∈D,b<lim:=fun b hb=>Qdu f2 hb
      refine⟨over k1 h' D,⟨.call .heap f args,h',?_,.inr (.inr (.inr ⟨B,D,W,k1,f1,f2,f3,fun b hb=>by simp_all,by simp_all,f6,f7,f8,fun b hb hB=>by simp_all,fun b hb hW=>by simp_all,fw2,rfl,e⟩))⟩,⟨fun _=>?_,fun ha=>(by simp_all)⟩⟩
      · simp_all
      simp_all [QeQ]
  | .round b g args, hm, hh =>
    obtain⟨g1,e⟩:=hh
    obtain⟨rfl,hall⟩:=Qkc rfl hm
    have hag:=hA (by rw[e])
    refine⟨h1,⟨.round b g args,h',?_,QlY hag g1,e⟩,⟨fun ha=>(by simp_all),fun _=>rfl⟩⟩
    rw[<-hop];exact hall h'
theorem StepV.local {i:Nat} {s:SOper} {T T':Tmps} {h h':Heap} {v:AV} {h1:Heap} {fp:FP} (hs:StepV P i s T h v h1 fp) (hT:∀j∈s.reads,lk T j=lk T' j)
  (hR:fp.all=false->∀b∈fp.R,h.get b=h'.get b) (hA:fp.all=true->∀b,h.get b=h'.get b):
  ∃h1',StepV P i s T' h' v h1' fp/\(fp.all=false->(∀b∈fp.W,h1'.get b=h1.get b)/\(∀b,b∉fp.W->h1'.get b=h'.get b)/\∀b,b∉fp.W->h1.get b=h.get b)/\(fp.all=true->h1'=h1):=by
 unfold StepV at hs⊢
 cases hg:s.guard with
 |none=>
  rw[hg]at hs
  exact StepX.local hs (fun j hj=>hT j (by simp[SOper.reads,hj])) hR hA
 | some p =>
  obtain⟨g,want⟩:=p
  rw[hg]at hs
  simp only at hs⊢
  obtain⟨b,hb,hs⟩:=hs
  have hb':wantedA (lk T' g) want=some b:=by simp_all [SOper.reads]
  split at hs
  ·rename_i e
   obtain⟨h1',k1,k2⟩:=StepX.local hs (fun j hj=>hT j (by simp[SOper.reads,hj])) hR hA
   grind
  ·simp_all
def disj (xs ys:List Nat):Bool:=xs.all fun x=> !ys.contains x
def FP.apart (a b:FP):Bool:=
 match a.all,b.all with
 |true,true=>false
 |true,false=>b.R.isEmpty&&b.W.isEmpty
 |false,true=>a.R.isEmpty&&a.W.isEmpty
 |false,false=>disj a.W b.R&&disj a.W b.W&&disj b.W a.R
theorem Qfv {xs ys:List Nat} (hh:disj xs ys=true) {b:Nat} (h1:b∈xs) (h2:b∈ys):False:=by
 simp_all [disj]
theorem Qgs {d:Option Nat} {xs:List Nat} (h:optIn d xs=false) {j:Nat} (hj:j∈xs):d≠some j:=by
 rintro rfl
 grind [optIn]
theorem StepV.comm {i j:Nat} {s t:SOper} {A:St} {v u:AV} {hB hC:Heap} {fs ft:FP} (hs:StepV P i s A.T A.h v hB fs) (ht:StepV P j t (putD A.T s.dst v) hB u hC ft)
  (hst:s.apart t=true) (hf:fs.apart ft=true):
  ∃hB' hC',StepV P j t A.T A.h u hB' ft/\StepV P i s (putD A.T t.dst u) hB' v hC' fs/\SEq ⟨putD (putD A.T t.dst u) s.dst v,hC'⟩ ⟨putD (putD A.T s.dst v) t.dst u,hC⟩:=by
 simp only[SOper.apart,Bool.and_eq_true,Bool.not_eq_true']at hst
 obtain⟨⟨a1,a2⟩,a3⟩:=hst
 have hd:∀x,s.dst=some x->t.dst≠some x:=by
  grind
 have teq:∀x,lk (putD (putD A.T t.dst u) s.dst v) x=lk (putD (putD A.T s.dst v) t.dst u) x:=by
  intro x
  simp only[QbI]
  grind
 have ht1:∀x∈t.reads,lk (putD A.T s.dst v) x=lk A.T x:=fun x hx=>by rw[QbI,if_neg (Qgs a1 hx)]
 have hs1:∀x∈s.reads,lk A.T x=lk (putD A.T t.dst u) x:=fun x hx=>by rw[QbI,if_neg (Qgs a2 hx)]
 have sfr:fs.all=false->∀b,b∉fs.W->hB.get b=A.h.get b:=by
  intro ha
  obtain⟨_,_,k,_⟩:=StepV.local (T':=A.T) (h':=A.h) hs (fun _ _=>rfl) (fun _ _ _=>rfl) (fun _ _=>rfl)
  simp_all
 have tfr:ft.all=false->∀b,b∉ft.W->hC.get b=hB.get b:=by
  intro ha
  obtain⟨_,_,k,_⟩:=StepV.local (T':=putD A.T s.dst v) (h':=hB) ht (fun _ _=>rfl) (fun _ _ _=>rfl) (fun _ _=>rfl)
  simp_all
 unfold FP.apart at hf
 cases hsa:fs.all<;>cases hta:ft.all<;>rw[hsa,hta]at hf<;>simp only[Bool.false_eq_true]at hf
 ·-- both touch but some blocks
  simp only[Bool.and_eq_true]at hf
  obtain⟨⟨f1,f2⟩,f3⟩:=hf
  obtain⟨hB',k1,k2,_⟩:=StepV.local (T':=A.T) (h':=A.h) ht ht1 (fun _ b hb=>sfr hsa b (fun hw=>Qfv f1 hw hb)) (fun h=>by simp_all)
  obtain⟨k3,k4,_⟩:=k2 hta
  obtain⟨hC',g1,g2,_⟩:=StepV.local (T':=putD A.T t.dst u) (h':=hB') hs hs1 (fun _ b hb=>(k4 b (fun hw=>Qfv f3 hw hb)).symm) (fun h=>by simp_all)
  obtain⟨g3,g4,_⟩:=g2 hsa
  refine⟨hB',hC',k1,g1,teq,fun b=>?_⟩
  show hC'.get b=hC.get b
  by_cases hw:b∈fs.W
  ·grind [Qfv]
  grind
 ·-- the second touches all: the first touches nothing
  simp only[Bool.and_eq_true,List.isEmpty_iff]at hf
  obtain⟨f1,f2⟩:=hf
  have hBA:∀b,hB.get b=A.h.get b:=fun b=>sfr hsa b (by rw[f2];simp)
  obtain⟨hB',k1,_,k2⟩:=StepV.local (T':=A.T) (h':=A.h) ht ht1 (fun h=>by simp_all) (fun _ b=>hBA b)
  have k2:=k2 hta
  subst k2
  obtain⟨hC',g1,g2,_⟩:=StepV.local (T':=putD A.T t.dst u) (h':=hB') hs hs1 (fun _ b hb=>by simp_all) (fun h=>by simp_all)
  obtain⟨_,g4,_⟩:=g2 hsa
  exact⟨hB',hC',k1,g1,teq,fun b=>g4 b (by rw[f2];simp)⟩
 ·-- the first touches all: the second touches nothing
  simp only[Bool.and_eq_true,List.isEmpty_iff]at hf
  obtain⟨f1,f2⟩:=hf
  have hCB:∀b,hC.get b=hB.get b:=fun b=>tfr hta b (by rw[f2];simp)
  obtain⟨hB',k1,k2,_⟩:=StepV.local (T':=A.T) (h':=A.h) ht ht1 (fun _ b hb=>by simp_all) (fun h=>by simp_all)
  obtain⟨_,k4,_⟩:=k2 hta
  have hB'A:∀b,A.h.get b=hB'.get b:=fun b=>(k4 b (by rw[f2];simp)).symm
  obtain⟨hC',g1,_,g2⟩:=StepV.local (T':=putD A.T t.dst u) (h':=hB') hs hs1 (fun h=>by simp_all) (fun _ b=>hB'A b)
  have g2:=g2 hsa
  subst g2
  exact⟨hB',hC',k1,g1,teq,fun b=>(hCB b).symm⟩
theorem StepV.congr {i:Nat} {s:SOper} {A B:St} {v:AV} {h1:Heap} {fp:FP} (hs:StepV P i s A.T A.h v h1 fp) (e:SEq A B):
  ∃h1',StepV P i s B.T B.h v h1' fp/\SEq ⟨putD A.T s.dst v,h1⟩ ⟨putD B.T s.dst v,h1'⟩:=by
 obtain⟨h1',k1,k2,k3⟩:=StepV.local (T':=B.T) (h':=B.h) hs (fun j _=>e.1 j) (fun _ b _=>e.2 b) (fun _ b=>e.2 b)
 refine⟨h1',k1,fun j=>?_,fun b=>?_⟩
 ·show lk (putD A.T s.dst v) j = lk (putD B.T s.dst v) j
  rw[QbI,QbI,e.1 j]
 ·show h1.get b = h1'.get b
  cases ha:fp.all with
  |true=>rw[k3 ha]
  |false=>
   obtain⟨g1,g2,g3⟩:=k2 ha
   by_cases hw:b∈fp.W
   ·simp_all
   ·rw[g3 b hw,g2 b hw,e.2 b]
end Go.AM
