/- Lemmas on the way to ExplainEventsCardSaid. Conditions: none of ours. -/
import Derived.RangeFuncRecord
import Derived.OrdersIn
import Derived.Test.YtgfnbkngfedlkaaGreatDoorAmW4
set_option linter.unusedSectionVars false
set_option maxHeartbeats 32000000
set_option maxRecDepth 100000
set_option linter.unusedVariables false
set_option linter.unusedSimpArgs false
namespace Go.AM
variable{P:Program}
def FW(ro:Option Nat):Fence:={Fence.wide with round:=ro}
theorem QnX{ro:Option Nat}(n:Nat):(FW ro).room n:=fun _ h=>by simp[FW,Fence.wide]at h
theorem callsFW{ro:Option Nat}{f:FuncId}{args:Array Value}{w:World}{R:Ending->World->Prop}(h:Calls P f args w R):CallsIn (FW ro) 0 P f args w R:=(callsIn_wide (n:=0)).2 h
def Lp(ro:Option Nat)(P:Program)(c:Code)(Q:Exit->Act->World->Prop)(a:Act)(w:World):Prop:=∀(b:Frame)(k:List Item)(cs:List Frame),b.roundOf=ro->∃e d f,Q e d f/\ArrivesIn (Machine.fenced P (FW ro)) P (lone (b.atR a (.code c::.inLoop c::k)) cs w) b k cs e d f
theorem Lp.loop{ro:Option Nat}{c:Code}{Q:Exit->Act->World->Prop}{a:Act}{w:World}(h:Lp ro P c Q a w):(Code.loop c).wpIn (FW ro) 0 P Q a w:=by intro b k cs f g o;obtain⟨e,l,i,m,d⟩:=h b k cs f;exact⟨e,l,i,m,.of_steps (.one (fenced_calm g o rfl) stepR_loop) d⟩
theorem Lp.round{ro:Option Nat}{c:Code}{Q:Exit->Act->World->Prop}{a:Act}{w:World}(h:c.wpIn (FW ro) 0 P (Exit.then (Lp ro P c Q) Q) a w):Lp ro P c Q a w:=by intro b k cs p;obtain⟨e,o,m,g,d⟩:=h b (.inLoop c::k) cs p trivial (QnX _);cases e with|normal=>obtain⟨s,t,r,q,f⟩:=g b k cs p;exact⟨s,t,r,q,.of_steps (StepsIn.trans d (.one (fenced_calm (n:=0) trivial (QnX _) rfl) stepR_inLoop)) f⟩|exit i=>exact⟨_,o,m,g,.pass (x:=.inLoop c) rfl (fun _ _=>.inl (by simp)) d⟩|goto l=>exact⟨_,o,m,g,.pass (x:=.inLoop c) rfl (fun _ _=>.inl (by simp)) d⟩|ret=>exact⟨_,o,m,g,.pass (x:=.inLoop c) rfl (fun _ _=>.inl (by simp)) d⟩|panic ch=>exact⟨_,o,m,g,.pass (x:=.inLoop c) rfl (fun _ _=>.inl (by simp)) d⟩|outgrown=>exact⟨_,o,m,g,.pass (x:=.inLoop c) rfl (fun _ _=>.inl (by simp)) d⟩
def HSpec(P:Program)(f:Nat)(args:List AV)(h:Heap)(v:AV)(h':Heap):Prop:=Callable P f/\∀(c:Ctx (okc P))(w:World)(a:Array Value),HRel c h w->VRels c w args a.toList->Calls P f a w fun e d=>∃g b,e=.returned g/\Evo c w b d/\HRel b h' d/\VRel b d v g
def Rets(P:Program)(c:Ctx (okc P))(w:World)(h1:Heap)(v:AV):Ending->World->Prop:=fun e a=>∃d b,e=.returned d/\Evo c w b a/\HRel b h1 a/\VRel b a v d
def RSpec(P:Program)(b g:Nat)(args:List AV)(h:Heap)(v:AV)(h':Heap):Prop:=∀(c:Ctx (okc P))(w:World)(a:Array Value)(f:Nat),HRel c h w->VRels c w args a.toList->c.ρ b g=some (.loc f 0)->∃(fn:Nat)(tmps:Array Value)(d body:Code),(Instr.yield f a).run P w=.ok (.round f fn tmps d body) w/\RoundIn Fence.wide 0 P f fn tmps d body w (Rets P c w h' v)
def PSpec(P:Program)(f:Nat)(args:List AV)(v:AV):Prop:=noRefs args=true/\noRef v=true/\∃a,HSpec P f args .e v a
def one(b:Nat)(x:Blk):Heap:=Tr.set .e b x
theorem QsZ{b:Nat}{x:Blk}(a:b<lim)(j:Nat):(one b x).get j=if j=b then some x else none:=by simp_all[one,Zck,Tr.get]
def own1(b g:Nat):List AV->Bool|[]=>true|.sl c a _ _ _::xs=>c==b&&a==g&&own1 b g xs|x::xs=>noRef x&&own1 b g xs
def GSpec(P:Program)(f:Nat)(args:List AV)(b g:Nat)(xs:List AV)(v:AV):Prop:=Callable P f/\own1 b g args=true/\noRef v=true/\flatVs xs=true/\b<lim/\∀(c:Ctx (okc P))(w:World)(a:Array Value),HRel c (one b (.cells g xs)) w->VRels c w args a.toList->Calls P f a w fun e h=>∃i d,e=.returned i/\Evo c w d h/\(∀k,d.F k\/d.O k->k<h.heap.size)/\VRel (lent d) h v i
def NSpec(P:Program)(f:Nat)(args ys:List AV)(len sz:Nat):Prop:=Callable P f/\noRefs args=true/\∃(b g off:Nat)(cs:List AV)(a:Heap),cs.drop off=ys/\off<=cs.length/\a.get b=some (.cells g cs)/\HSpec P f args .e (.sl b g off len sz) a
def HM.fp{α:Type}:HM α->Heap->List Nat×List Nat|.ret _,_=>([],[])|.fail,_=>([],[])|.look b k,h=>let r:=(k (h.get b)).fp h;(b::r.1,r.2)|.put b x k,h=>let r:=k.fp (h.set b x);(r.1,b::r.2)
theorem HM.local{α:Type}(m:HM α):∀(h h':Heap)(a:α)(h1:Heap),m.run h=some (a,h1)->(∀b∈(m.fp h).1,h.get b=h'.get b)->∃c,m.run h'=some (a,c)/\m.fp h'=m.fp h/\(∀b∈(m.fp h).2,c.get b=h1.get b)/\(∀b,b∉(m.fp h).2->c.get b=h'.get b)/\(∀b,b∉(m.fp h).2->h1.get b=h.get b):=by induction m with|ret x=>intro h h' a h1 hm _;simp only[HM.run,Zab,Zaj]at hm;obtain⟨rfl,rfl⟩:=hm;exact⟨h',rfl,rfl,by simp[HM.fp],by simp,by simp⟩|fail=>intro h h' a h1 hm;simp[HM.run]at hm|look b k g=>intro h h' a h1 hm d;simp only[HM.run]at hm;simp only[HM.fp]at d⊢;have o:h.get b=h'.get b:=d b (by simp);obtain⟨c,k1,k2,k3,k4,i⟩:=g _ h h' a h1 hm (fun l f=>d l (by simp[f]));rw[<-o];refine⟨c,by simp_all[HM.run],by rw[k2],k3,k4,i⟩|put b x k g=>
 intro h h' a h1 hm d;obtain⟨p,hm⟩:=QaU hm;simp only[HM.fp]at d⊢;obtain⟨c,k1,k2,k3,k4,i⟩:=g (h.set b x) (h'.set b x) a h1 hm (fun l f=>by simp_all[Zck]);refine⟨c,?_,by rw[k2],?_,?_,?_⟩;·grind[HM.run]
 ·grind[Zck]
 ·simp_all[Zck]
 simp_all[Zck]
def HM.ro{α:Type}:HM α->Prop|.ret _=>True|.fail=>True|.look _ k=>∀x,(k x).ro|.put _ _ _=>False
theorem HM.ro_fp{α:Type}(m:HM α):m.ro->∀h,(m.fp h).2=[]:=by induction m with|ret a=>intro _ h;rfl|fail=>intro _ h;rfl|look b k d=>intro c h;exact d _ (c _) h|put b x k d=>intro c;exact c.elim
theorem HM.QbP{α β:Type}{m:HM α}{f:α->HM β}(h1:m.ro)(d:∀a,(f a).ro):(m.bind f).ro:=by induction m with|ret a=>exact d a|fail=>trivial|look b k c=>exact fun x=>c x (h1 x)|put b x k c=>exact h1.elim
theorem QiK{α:Type}(o:Option α):(HM.opt o).ro:=by cases o<;>trivial
theorem QfC{α:Type}{b g:Nat}{k:List AV->HM α}(h:∀cs,(k cs).ro):(HM.cells b g k).ro:=by
 intro x;dsimp only;split;·rename_i a cs;cases Nat.beq a g with|true=>exact h cs|false=>trivial
 trivial
theorem Qpe{α:Type}{b g:Nat}{k:List (AV×AV)->HM α}(h:∀cs,(k cs).ro):(HM.entries b g k).ro:=by
 intro x;dsimp only;split;·rename_i a cs;cases Nat.beq a g with|true=>exact h cs|false=>trivial
 trivial
theorem QcT{f:AV->HM AV}(hf:∀x,(f x).ro):∀xs,(mapH f xs).ro|[]=>trivial|x::xs=>HM.QbP (hf x) fun y=>HM.QbP (QcT hf xs) fun a=>trivial
theorem Qes:∀(d:Nat)(x:AV),(frzH d x).ro
 |0,x=>trivial|d+1,x=>by
  cases x<;>simp only[frzH]<;>try trivial
  ·exact HM.QbP (QcT (Qes d) _) fun _=>trivial
  ·exact HM.QbP (QcT (Qes d) _) fun _=>trivial
  ·exact QfC fun cs=>HM.QbP (QcT (Qes d) _) fun _=>trivial
  refine QfC fun cs=>?_;split;·exact HM.QbP (QcT (Qes d) _) fun _=>trivial
  trivial
theorem HM.QpX{α:Type}(m:HM α):m.ro->∀{h:Heap}{a:α}{h1:Heap},m.run h=some (a,h1)->h1=h:=by induction m with|ret x=>intro _ h a h1 hm;simp only[HM.run,Zab,Zaj]at hm;exact hm.2.symm|fail=>intro _ h a h1 hm;simp[HM.run]at hm|look b k d=>intro c h a h1 hm;exact d _ (c _) hm|put b x k d=>intro c;exact c.elim
theorem HM.QrR{α:Type}{m:HM α}(d:m.ro){h h':Heap}{a:α}(hm:m.run h=some (a,h))(he:∀b∈(m.fp h).1,h.get b=h'.get b):m.run h'=some (a,h')/\m.fp h'=m.fp h:=by obtain⟨c,k1,k2,_⟩:=m.local h h' a h hm he;grind[HM.QpX]
theorem lk_up(T:Tmps)(i:Nat)(v:AV)(j:Nat):lk (up T i v) j=if j=i then v else lk T j:=by induction T with
 |nil=>
  simp only[up,lk];by_cases e:j=i;·simp_all
  have :Nat.beq i j=false:=by rw[ZaA];simpa using fun h=>e h.symm
  simp_all|cons p T c=>
  obtain⟨k,u⟩:=p;simp only[up];by_cases a:k=i
  ·subst a;have:Nat.beq k k=true:=by simp
   rw[this];simp only[cond_true,lk];by_cases e:j=k;·simp_all
   have b:Nat.beq k j=false:=by rw[ZaA];simpa using fun h=>e h.symm
   simp_all
  have :Nat.beq k i=false:=by simp_all[ZaA]
  grind[lk]
def putD(T:Tmps)(dst:Option Nat)(v:AV):Tmps:=match dst with|some d=>up T d v|none=>T
theorem QbC(T:Tmps)(dst:Option Nat)(v:AV)(j:Nat):lk (putD T dst v) j=if dst=some j then v else lk T j:=by cases dst with|none=>simp[putD]|some d=>
 simp only[putD,lk_up,Zab];by_cases e:j=d;·subst e;simp
 grind
theorem QlO{T T':Tmps}{x:Opd}(h:∀i∈x.slots,lk T i=lk T' i):ev T x=ev T' x:=by cases x<;>simp only[ev];simp_all[Opd.slots]
theorem QpY{xs:List Opd}{x:Opd}(a:x∈xs){i:Nat}(hi:i∈x.slots):i∈slotsOf xs:=ZbD.2 ⟨x,a,hi⟩
theorem Qkb{i:Nat}{T T':Tmps}{s:SOp}(h:∀j∈slotsOf s.opds,lk T j=lk T' j):aop i T s=aop i T' s:=by
 have one:∀x∈s.opds,ev T x=ev T' x:=fun x hx=>QlO fun j hj=>h j (QpY hx hj);cases s<;>simp only[SOp.opds]at one<;>simp only[aop]<;>first|rfl|(rw[one _ (by simp)];done)|(rw[one _ (List.mem_cons_self ..),one _ (by simp)];done)|(simp only[Zau,ZbQ,or_false,forall_eq_or_imp,forall_eq]at one;simp only[one];done)|skip
 case build zero parts=>
  have:evParts T parts=evParts T' parts:=Za8 fun p hp=>by grind
  rw[this]
 case bslice fz s sz len zero parts=>
  have:evParts T parts=evParts T' parts:=Za8 fun p hp=>by grind
  rw[this]
 case mkfn f xs ys=>simp_all[evs]
 case slice sz x l hh m=>
  have e1:evo T l=evo T' l:=by cases l<;>simp[evo];simp_all
  have e2:evo T hh=evo T' hh:=by cases hh<;>simp[evo];simp_all
  have e3:evo T m=evo T' m:=by cases m<;>simp[evo];simp_all
  simp_all
 case sliceK sz x l hh=>
  have e1:evo T l=evo T' l:=by cases l<;>simp[evo];simp_all
  have e2:evo T hh=evo T' hh:=by cases hh<;>simp[evo];simp_all
  simp_all
 case maxmin mn xs=>grind[evs,Za8]
 case ext k f xs=>grind[evs,Za8]
 grind[evs,Za8]
structure FP where
 all:Bool
 R:List Nat
 W:List Nat
def fpOf(r:List Nat×List Nat):FP:=⟨false,r.1,r.2⟩
def NStep(P:Program)(i f:Nat)(args:List AV)(h:Heap)(v:AV)(h1:Heap)(fp:FP):Prop:=∃a R,((a=args/\R=[])\/((mapH (frzH 4) args).run h=some (a,h)/\R=((mapH (frzH 4) args).fp h).1))/\((∃b len sz,NSpec P f a b len sz/\(flatVs b=true\/noRefs b=true/\a=args)/\i<lim/\h.get i=none/\v=.sl i 0 0 len sz/\h1=h.set i (.cells 0 b)/\fp=⟨false,i::R,[i]⟩)\/(PSpec P f a v/\(flatV v=true\/a=args)/\h1=h/\fp=⟨false,R,[]⟩))
def over(k:Heap)(h:Heap):List Nat->Heap|[]=>h|b::D=>match k.get b with|some x=>over k (h.set b x) D|none=>over k h D
def pick(h:Heap)(B:List Nat):Heap:=over h .e B
def allLim(B:List Nat):Bool:=B.all fun b=>Nat.blt b lim
theorem QdM{B:List Nat}(h:allLim B=true){b:Nat}(a:b∈B):b<lim:=by have:=ZaH.1 h b a;simp_all
theorem QfD{k:Heap}:∀{D:List Nat}{h:Heap},(∀b∈D,b<lim)->(∀b∈D,k.get b≠none)->∀j,(over k h D).get j=if j∈D then k.get j else h.get j|[],h,_,_,j=>by simp[over]|b::D,h,d,c,j=>by simp only[over];cases a:k.get b with|none=>exact absurd a (c b (by simp))|some x=>
 simp only;rw[QfD (D:=D) (fun b a=>d b (by simp[a])) (fun b a=>c b (by simp[a])) j,Zck _ (d b (by simp))];by_cases e:j=b;·simp_all
 simp[e]
theorem QfE{h h':Heap}:∀{B:List Nat}{k:Heap},(∀b∈B,h.get b=h'.get b)->over h k B=over h' k B|[],_,_=>rfl|b::B,k,e=>by simp only[over];rw[<-e b (by simp)];cases h.get b with|none=>exact QfE fun b a=>e b (by simp[a])|some x=>exact QfE fun b a=>e b (by simp[a])
theorem Qpf{h h':Heap}{B:List Nat}(e:∀b∈B,h.get b=h'.get b):pick h B=pick h' B:=QfE e
theorem QrS{h:Heap}{B:List Nat}(c:∀b∈B,b<lim)(a:∀b∈B,h.get b≠none)(k:Nat):(pick h B).get k=if k∈B then h.get k else none:=by simp_all[pick,QfD,Tr.get]
def blkIn(B:List Nat):Option Blk->Bool|some (.cells _ cs)=>inBs B cs|some (.map _ es)=>inBe B es|some (.dead _)=>true|_=>false
def eqStr:List UInt8->List UInt8->Bool|[],[]=>true|x::xs,y::a=>bif Nat.beq x.toNat y.toNat then eqStr xs a else false|_,_=>false
theorem QlP:∀{x y:List UInt8},eqStr x y=true->x=y|[],[],_=>rfl|[],_::_,h=>by simp[eqStr]at h|_::_,[],h=>by simp[eqStr]at h|x::xs,y::a,h=>by simp only[eqStr]at h;cases e:Nat.beq x.toNat y.toNat with|false=>rw[e]at h;simp at h|true=>rw[e]at h;have:x=y:=UInt8.toNat_inj.1 (by simpa using e);have b:xs=a:=QlP (by simpa using h);rw[this,b]
def eqInt:Int->Int->Bool|.ofNat a,.ofNat b=>Nat.beq a b|.negSucc a,.negSucc b=>Nat.beq a b|_,_=>false
theorem QrT:∀{a b:Int},eqInt a b=true->a=b|.ofNat a,.ofNat b,h=>by simp_all[eqInt]|.negSucc a,.negSucc b,h=>by simp_all[eqInt]|.ofNat a,.negSucc b,h=>by simp[eqInt]at h|.negSucc a,.ofNat b,h=>by simp[eqInt]at h
def eqK:IntKind->IntKind->Bool|.i8,.i8|.i16,.i16|.i32,.i32|.i64,.i64|.u8,.u8|.u16,.u16|.u32,.u32|.u64,.u64=>true|_,_=>false
theorem Quh{a b:IntKind}(h:eqK a b=true):a=b:=by cases a<;>cases b<;>simp[eqK]at h<;>rfl
mutual def eqAV:AV->AV->Bool
 |.any,.any=>true|.bool a,.bool b=>match a,b with|true,true=>true|false,false=>true|_,_=>false
 |.int k n,.int k' n'=>bif eqInt n n' then eqK k k' else false|.str s,.str s'=>eqStr s s'|.agg cs,.agg cs'=>eqAVs cs cs'|.tup cs,.tup cs'=>eqAVs cs cs'|.nilptr,.nilptr=>true|.ptr b g o,.ptr b' g' o'=>Nat.beq b b'&&Nat.beq g g'&&Nat.beq o o'|.fptr cs,.fptr cs'=>eqAVs cs cs'|.nilsl,.nilsl=>true|.sl b g o l s,.sl b' g' o' l' s'=>Nat.beq b b'&&Nat.beq g g'&&Nat.beq o o'&&Nat.beq l l'&&Nat.beq s s'|.fsl cs l s,.fsl cs' l' s'=>Nat.beq l l'&&Nat.beq s s'&&eqAVs cs cs'|.esl,.esl=>true|.nsl,.nsl=>true|.nilmap,.nilmap=>true|.map b g,.map b' g'=>Nat.beq b b'&&Nat.beq g g'|.fmap x y,.fmap x' y'=>eqAVs x x'&&eqAVs y y'|.nilfn,.nilfn=>true|.fn f x y,.fn f' x' y'=>Nat.beq f f'&&eqAVs x x'&&eqAVs y y'|.nilif,.nilif=>true|.ifc t v,.ifc t' v'=>Nat.beq t t'&&eqAV v v'|.typed t n v,.typed t' n' v'=>Nat.beq t t'&&Nat.beq n n'&&eqAV v v'|_,_=>false termination_by structural x=>x def eqAVs:List AV->List AV->Bool|[],[]=>true|x::xs,y::ys=>bif eqAV x y then eqAVs xs ys else false|_,_=>false termination_by structural x=>x end
mutual theorem Qdn:∀(x y:AV),eqAV x y=true->x=y|.any,y,h=>by grind[eqAV]|.bool a,y,h=>by cases y<;>simp only[eqAV,Zao]at h;grind|.int k n,y,h=>by cases y<;>simp only[eqAV,Zao]at h;grind[Quh,QrT]|.str s,y,h=>by cases y<;>simp only[eqAV,Zao]at h;rw[QlP h]|.agg cs,y,h=>by cases y<;>simp only[eqAV,Zao]at h;rw[QbY _ _ h]|.tup cs,y,h=>by cases y<;>simp only[eqAV,Zao]at h;rw[QbY _ _ h]|.nilptr,y,h=>by grind[eqAV]|.ptr b g o,y,h=>by cases y<;>simp[eqAV]at h;simp[h]|.fptr cs,y,h=>by cases y<;>simp only[eqAV,Zao]at h;rw[QbY _ _ h]|.nilsl,y,h=>by grind[eqAV]|.sl b g o l s,y,h=>by cases y<;>simp[eqAV]at h;simp[h]|.fsl cs l s,y,h=>by cases y<;>simp only[eqAV,Zao,Zaa,ZbO]at h;rw[QbY _ _ h.2,h.1.1,h.1.2]|.esl,y,h=>by grind[eqAV]|.nsl,y,h=>by grind[eqAV]|.nilmap,y,h=>by grind[eqAV]|.map b g,y,h=>by cases y<;>simp[eqAV]at h;simp[h]|.fmap x z,y,h=>by cases y<;>simp only[eqAV,Zao,Zaa]at h;rw[QbY _ _ h.1,QbY _ _ h.2]|.nilfn,y,h=>by grind[eqAV]|.fn f x z,y,h=>by cases y<;>simp only[eqAV,Zao,Zaa,ZbO]at h;rw[h.1.1,QbY _ _ h.1.2,QbY _ _ h.2]|.nilif,y,h=>by grind[eqAV]|.yld b g,y,h=>by simp_all[eqAV]|.ifc t v,y,h=>by cases y<;>simp only[eqAV,Zao,Zaa,ZbO]at h;rw[h.1,Qdn _ _ h.2]|.typed t n v,y,h=>by cases y<;>simp only[eqAV,Zao,Zaa,ZbO]at h;rw[h.1.1,h.1.2,Qdn _ _ h.2]theorem QbY:∀(x y:List AV),eqAVs x y=true->x=y|[],y,h=>by grind[eqAVs]|x::xs,y,h=>by cases y with|nil=>simp[eqAVs]at h|cons y ys=>simp only[eqAVs]at h;cases e:eqAV x y with|false=>rw[e]at h;simp at h|true=>rw[e]at h;have e2:xs=ys:=QbY _ _ (by simpa using h);rw[Qdn _ _ e,e2]end
def eqEs:List (AV×AV)->List (AV×AV)->Bool|[],[]=>true|p::r,q::s=>bif eqAV p.1 q.1&&eqAV p.2 q.2 then eqEs r s else false|_,_=>false
theorem QnY:∀{x y:List (AV×AV)},eqEs x y=true->x=y|[],[],_=>rfl|[],_::_,h=>by simp[eqEs]at h|_::_,[],h=>by simp[eqEs]at h|(a,b)::xs,(c,d)::f,h=>by simp only[eqEs]at h;cases e:eqAV a c&&eqAV b d with|false=>rw[e]at h;simp at h|true=>rw[e]at h;simp only[Zaa]at e;have g:xs=f:=QnY (by simpa using h);rw[Qdn _ _ e.1,Qdn _ _ e.2,g]
def eqBlk:Option Blk->Option Blk->Bool|some (.cells g cs),some (.cells a c)=>bif Nat.beq g a then eqAVs cs c else false|some (.map g es),some (.map a b)=>bif Nat.beq g a then eqEs es b else false|some (.dead g),some (.dead a)=>Nat.beq g a|_,_=>false
theorem QrU{x y:Option Blk}(h:eqBlk x y=true):x=y:=by
 unfold eqBlk at h;split at h;·rename_i g cs a f;cases e:Nat.beq g a with|false=>rw[e]at h;simp at h|true=>
  rw[e]at h;have c:g=a:=by simpa using e
  have d:cs=f:=QbY _ _ (by simpa using h);rw[c,d]
 ·rename_i g es a b;cases e:Nat.beq g a with|false=>rw[e]at h;simp at h|true=>
  rw[e]at h;have c:g=a:=by simpa using e
  have d:es=b:=QnY (by simpa using h);rw[c,d]
 ·simp_all
 cases h
def FStep(P:Program)(f:Nat)(args:List AV)(h:Heap)(v:AV)(h1:Heap)(fp:FP):Prop:=∃B D W k1,allLim B=true/\allLim D=true/\inBs B args=true/\(∀b∈B,blkIn B (h.get b)=true)/\HSpec P f args (pick h B) v k1/\(∀b∈D,k1.get b≠none)/\(∀b,k1.get b≠none->b∈D)/\(∀b∈B,b∈D)/\(∀b∈D,b∉B->h.get b=none)/\(∀b∈D,b∉W->k1.get b=h.get b)/\(∀b∈W,b∈D)/\h1=over k1 h D/\fp=⟨false,D,W⟩
def StepX(P:Program)(i:Nat)(s:SOp)(T:Tmps)(h:Heap)(v:AV)(h1:Heap)(fp:FP):Prop:=∃out a,(aop i T s).run h=some (out,a)/\match out with|.val u=>v=u/\h1=a/\fp=fpOf ((aop i T s).fp h)|.call .pure f args=>PSpec P f args v/\h1=a/\fp=fpOf ((aop i T s).fp h)|.call .borrow f args=>PSpec P f args v/\flatV v=true/\h1=a/\fp=fpOf ((aop i T s).fp h)|.call .heap f args=>(HSpec P f args a v h1/\fp=⟨true,[],[]⟩)\/(∃b g xs,GSpec P f args b g xs v/\a.get b=some (.cells g xs)/\h1=a.set b (.dead g)/\fp=⟨false,[b],[b]⟩)\/NStep P i f args a v h1 fp\/FStep P f args a v h1 fp|.round b g args=>RSpec P b g args a v h1/\fp=⟨true,[],[]⟩
def wantedA(x:AV)(a:Bool):Option Bool:=match x with|.bool b=>some (b==a)|.tup []=>some false|_=>none
def StepV(P:Program)(i:Nat)(s:SOper)(T:Tmps)(h:Heap)(v:AV)(h1:Heap)(fp:FP):Prop:=match s.guard with|none=>StepX P i s.op T h v h1 fp|some (g,a)=>∃b,wantedA (lk T g) a=some b/\if b=true then StepX P i s.op T h v h1 fp else(v=.tup []/\h1=h/\fp=⟨false,[],[]⟩)
structure St where
 T:Tmps
 h:Heap
def SEq(A B:St):Prop:=(∀i,lk A.T i=lk B.T i)/\∀b,A.h.get b=B.h.get b
theorem SEq.refl(A:St):SEq A A:=⟨fun _=>rfl,fun _=>rfl⟩
theorem SEq.symm{A B:St}(h:SEq A B):SEq B A:=⟨fun i=>(h.1 i).symm,fun b=>(h.2 b).symm⟩
theorem SEq.trans{A B C:St}(h:SEq A B)(k:SEq B C):SEq A C:=⟨fun i=>(h.1 i).trans (k.1 i),fun b=>(h.2 b).trans (k.2 b)⟩
theorem QiL{h h':Heap}(e:∀b,h.get b=h'.get b){b g:Nat}:Live h b g↔Live h' b g:=by grind[Live]
theorem QbS{ok:Okc}{c:Ctx ok}{w:World}{h h':Heap}(e:∀b,h.get b=h'.get b)(H:HRel c h w):HRel c h' w:=⟨fun b o=>H.fresh b (by simp_all),fun b x f=>H.later b x (by simp_all),fun b x f=>H.blk b x (by simp_all),fun b g i m d base a l k=>H.inj b g i m d base a ((QiL e).2 l) ((QiL e).2 k),H.disj,H.inF,H.inO⟩
theorem QnH{f:Nat}{args:List AV}{h d h1:Heap}{v:AV}(e:∀b,h.get b=d.get b)(H:HSpec P f args h v h1):HSpec P f args d v h1:=⟨H.1,fun c w a g i=>H.2 c w a (QbS (fun b=>(e b).symm) g) i⟩
theorem QnI{b g:Nat}{args:List AV}{h d h1:Heap}{v:AV}(e:∀b,h.get b=d.get b)(H:RSpec P b g args h v h1):RSpec P b g args d v h1:=fun c w a f i k=>H c w a f (QbS (fun b=>(e b).symm) i) k
def AOut.whole:AOut->Bool|.call .heap _ _=>true|.round ..=>true|_=>false
theorem QrV{m:CallM}{x:AV}{args:List AV}{h:Heap}{out:AOut}(ho:out.whole=true){a:Heap}(hm:(aCall m x args).run h=some (out,a)):a=h/\(∀h',(aCall m x args).run h'=some (out,h')):=by
 cases x<;>simp only[aCall]at hm<;>try(cases hm;done)
 ·cases m with|heap=>simp only[HM.run,Zab,Zaj]at hm;obtain⟨h1,rfl⟩:=hm;exact⟨rfl,fun h'=>by grind[aCall,HM.run]⟩|pure=>simp only[HM.run,Zab,Zaj]at hm;obtain⟨rfl,rfl⟩:=hm;cases ho|borrow=>simp only at hm;obtain⟨b,c,k1,k2⟩:=run_bind hm;simp only[HM.run,Zab,Zaj]at k2;obtain⟨rfl,rfl⟩:=k2;cases ho
 cases m<;>simp only[HM.run,Zab,Zaj,reduceCtorEq]at hm;obtain⟨h1,rfl⟩:=hm;exact⟨rfl,fun h'=>by grind[aCall,HM.run]⟩
theorem QlQ{i:Nat}{T:Tmps}{s:SOp}{h:Heap}{out:AOut}(ho:out.whole=true){a:Heap}(hm:(aop i T s).run h=some (out,a)):a=h/\(∀h',(aop i T s).run h'=some (out,h')):=by
 have lf:∀(o:Option AV),(lift o).run h≠some (out,a):=by intro o e;obtain⟨v,_,k⟩:=QaN e;cases k;cases ho
 have hf:∀(m:HM AV),(hval m).run h≠some (out,a):=by intro m e;obtain⟨v,h1,_,k⟩:=QaK e;cases k;cases ho
 have b:∀(u:AV),(HM.ret (AOut.val u)).run h≠some (out,a):=by intro u e;simp only[HM.run,Zab,Zaj]at e;obtain⟨rfl,rfl⟩:=e;cases ho
 cases s<;>simp only[aop]at hm⊢<;>first|exact absurd hm (lf _)|exact absurd hm (hf _)|exact absurd hm (b _)|(simp only[HM.run,reduceCtorEq]at hm;done)|exact QrV ho hm
theorem StepX.local{i:Nat}{s:SOp}{T T':Tmps}{h h':Heap}{v:AV}{h1:Heap}{fp:FP}(N:StepX P i s T h v h1 fp)(Y:∀j∈slotsOf s.opds,lk T j=lk T' j)(y:fp.all=false->∀b∈fp.R,h.get b=h'.get b)(hA:fp.all=true->∀b,h.get b=h'.get b):∃m,StepX P i s T' h' v m fp/\(fp.all=false->(∀b∈fp.W,m.get b=h1.get b)/\(∀b,b∉fp.W->m.get b=h'.get b)/\∀b,b∉fp.W->h1.get b=h.get b)/\(fp.all=true->m=h1):=by
 obtain⟨out,w,hm,k⟩:=N;have t:=Qkb (i:=i) (s:=s) Y;have gen:fp=fpOf ((aop i T s).fp h)->(∀b∈((aop i T s).fp h).1,h.get b=h'.get b)->∃a,(aop i T' s).run h'=some (out,a)/\fpOf ((aop i T' s).fp h')=fp/\(∀b∈fp.W,a.get b=w.get b)/\(∀b,b∉fp.W->a.get b=h'.get b)/\∀b,b∉fp.W->w.get b=h.get b:=by
  intro e c;obtain⟨a,k1,k2,k3,k4,r⟩:=(aop i T s).local h h' out w hm c;rw[t]at k1 k2;refine⟨a,k1,?_,?_,?_,?_⟩;·rw[k2,e,t]
  ·rw[e];exact k3
  ·rw[e];exact k4
  rw[e];exact r
 match out,hm,k with
 |.val u,hm,k=>obtain⟨rfl,rfl,e⟩:=k;obtain⟨a,k1,k2,k3,k4,r⟩:=gen e (by have:=y (by rw[e];rfl);rw[e]at this;exact this);exact⟨a,⟨_,a,k1,rfl,rfl,k2.symm⟩,fun _=>⟨k3,k4,r⟩,fun d=>by rw[e]at d;cases d⟩|.call .pure f args,hm,k=>obtain⟨l,rfl,e⟩:=k;obtain⟨a,k1,k2,k3,k4,r⟩:=gen e (by have:=y (by rw[e];rfl);rw[e]at this;exact this);exact⟨a,⟨_,a,k1,l,rfl,k2.symm⟩,fun _=>⟨k3,k4,r⟩,fun d=>by rw[e]at d;cases d⟩|.call .borrow f args,hm,k=>obtain⟨l,g2,rfl,e⟩:=k;obtain⟨a,k1,k2,k3,k4,r⟩:=gen e (by have:=y (by rw[e];rfl);rw[e]at this;exact this);exact⟨a,⟨_,a,k1,l,g2,rfl,k2.symm⟩,fun _=>⟨k3,k4,r⟩,fun d=>by rw[e]at d;cases d⟩|.call .heap f args,hm,k=>
  obtain⟨rfl,q⟩:=QlQ rfl hm;rcases k with⟨l,e⟩|⟨b,g,xs,l,p,rfl,e⟩|⟨o,R,V,Z⟩|⟨B,D,W,k1,Q,K,S,f4,f5,L,X,I,f9,U,z,rfl,e⟩;·have c:=hA (by rw[e]);refine⟨h1,⟨.call .heap f args,h',?_,.inl ⟨QnH c l,e⟩⟩,⟨fun d=>(by simp_all),fun _=>rfl⟩⟩;simp_all
  ·have C:h'.get b=some (.cells g xs):=by simp_all
   have J:=l.2.2.2.2.1;refine⟨h'.set b (.dead g),⟨.call .heap f args,h',?_,.inr (.inl ⟨b,g,xs,l,C,rfl,e⟩)⟩,⟨fun _=>?_,fun d=>(by simp_all)⟩⟩;·simp_all
   simp_all[Zck]
  ·have c:fp.all=false/\(∀b∈R,b∈fp.R):=by grind
   have x:(o=args/\R=[])\/((mapH (frzH 4) args).run h'=some (o,h')/\R=((mapH (frzH 4) args).fp h').1):=by grind[HM.QrR,QcT,Qes]
   rcases Z with⟨H,len,sz,G,E,J,hi,rfl,rfl,e⟩|⟨G,E,rfl,e⟩
   ·have A:h'.get i=none:=by simp_all
    refine⟨h'.set i (.cells 0 H),⟨.call .heap f args,h',?_,.inr (.inr (.inl ⟨o,R,x,.inl ⟨H,len,sz,G,E,J,A,rfl,rfl,e⟩⟩))⟩,⟨fun _=>?_,fun d=>(by simp_all)⟩⟩;·simp_all
    simp_all[Zck]
   refine⟨h',⟨.call .heap f args,h',?_,.inr (.inr (.inl ⟨o,R,x,.inr ⟨G,E,rfl,e⟩⟩))⟩,⟨fun _=>?_,fun d=>(by simp_all)⟩⟩;·simp_all
   simp_all
  ·have c:∀b∈D,w.get b=h'.get b:=fun b p=>y (by rw[e]) b (by simp_all);have M:pick w B=pick h' B:=Qpf fun b p=>c b (I b p);have hD:∀b∈D,b<lim:=fun b p=>QdM K p;refine⟨over k1 h' D,⟨.call .heap f args,h',?_,.inr (.inr (.inr ⟨B,D,W,k1,Q,K,S,fun b p=>by simp_all,by simp_all,L,X,I,fun b p hB=>by simp_all,fun b p hW=>by simp_all,z,rfl,e⟩))⟩,⟨fun _=>?_,fun d=>(by simp_all)⟩⟩;·simp_all
   simp_all[QfD]|.round b g args,hm,k=>obtain⟨l,e⟩:=k;obtain⟨rfl,q⟩:=QlQ rfl hm;have c:=hA (by rw[e]);refine⟨h1,⟨.round b g args,h',?_,QnI c l,e⟩,⟨fun d=>(by simp_all),fun _=>rfl⟩⟩;rw[<-t];exact q h'
theorem StepV.local{i:Nat}{s:SOper}{T T':Tmps}{h h':Heap}{v:AV}{h1:Heap}{fp:FP}(c:StepV P i s T h v h1 fp)(k:∀j∈s.reads,lk T j=lk T' j)(l:fp.all=false->∀b∈fp.R,h.get b=h'.get b)(hA:fp.all=true->∀b,h.get b=h'.get b):∃a,StepV P i s T' h' v a fp/\(fp.all=false->(∀b∈fp.W,a.get b=h1.get b)/\(∀b,b∉fp.W->a.get b=h'.get b)/\∀b,b∉fp.W->h1.get b=h.get b)/\(fp.all=true->a=h1):=by unfold StepV at c⊢;cases m:s.guard with|none=>rw[m]at c;exact StepX.local c (fun j f=>k j (by simp[SOper.reads,f])) l hA|some p=>
 obtain⟨g,d⟩:=p;rw[m]at c;simp only at c⊢;obtain⟨b,q,c⟩:=c;have o:wantedA (lk T' g) d=some b:=by simp_all[SOper.reads]
 split at c;·rename_i e;obtain⟨a,k1,k2⟩:=StepX.local c (fun j f=>k j (by simp[SOper.reads,f])) l hA;grind
 simp_all
def disj(xs ys:List Nat):Bool:=xs.all fun x=>!ys.contains x
def FP.apart(a b:FP):Bool:=match a.all,b.all with|true,true=>false|true,false=>b.R.isEmpty&&b.W.isEmpty|false,true=>a.R.isEmpty&&a.W.isEmpty|false,false=>disj a.W b.R&&disj a.W b.W&&disj b.W a.R
theorem Qgr{xs ys:List Nat}(c:disj xs ys=true){b:Nat}(h1:b∈xs)(a:b∈ys):False:=by simp_all[disj]
theorem Qhy{d:Option Nat}{xs:List Nat}(h:optIn d xs=false){j:Nat}(a:j∈xs):d≠some j:=by rintro rfl;grind[optIn]
theorem StepV.comm{i j:Nat}{s t:SOper}{A:St}{v u:AV}{o y:Heap}{fs ft:FP}(G:StepV P i s A.T A.h v o fs)(E:StepV P j t (putD A.T s.dst v) o u y ft)(B:s.apart t=true)(hf:fs.apart ft=true):∃a c,StepV P j t A.T A.h u a ft/\StepV P i s (putD A.T t.dst u) a v c fs/\SEq ⟨putD (putD A.T t.dst u) s.dst v,c⟩ ⟨putD (putD A.T s.dst v) t.dst u,y⟩:=by
 simp only[SOper.apart,Zaa,Zbx]at B;obtain⟨⟨S,Q⟩,V⟩:=B;have U:∀x,s.dst=some x->t.dst≠some x:=by grind
 have g:∀x,lk (putD (putD A.T t.dst u) s.dst v) x=lk (putD (putD A.T s.dst v) t.dst u) x:=by intro x;simp only[QbC];grind
 have p:∀x∈t.reads,lk (putD A.T s.dst v) x=lk A.T x:=fun x K=>by rw[QbC,if_neg (Qhy S K)]
 have l:∀x∈s.reads,lk A.T x=lk (putD A.T t.dst u) x:=fun x K=>by rw[QbC,if_neg (Qhy Q K)]
 have w:fs.all=false->∀b,b∉fs.W->o.get b=A.h.get b:=by intro R;obtain⟨_,_,k,_⟩:=StepV.local (T':=A.T) (h':=A.h) G (fun _ _=>rfl) (fun _ _ _=>rfl) (fun _ _=>rfl);simp_all
 have H:ft.all=false->∀b,b∉ft.W->y.get b=o.get b:=by intro R;obtain⟨_,_,k,_⟩:=StepV.local (T':=putD A.T s.dst v) (h':=o) E (fun _ _=>rfl) (fun _ _ _=>rfl) (fun _ _=>rfl);simp_all
 unfold FP.apart at hf;cases d:fs.all<;>cases f:ft.all<;>rw[d,f]at hf<;>simp only[Zao]at hf
 ·simp only[Zaa]at hf;obtain⟨⟨L,q⟩,N⟩:=hf;obtain⟨a,k1,k2,_⟩:=StepV.local (T':=A.T) (h':=A.h) E p (fun _ b C=>w d b (fun hw=>Qgr L hw C)) (fun h=>by simp_all);obtain⟨k3,k4,_⟩:=k2 f;obtain⟨c,z,m,_⟩:=StepV.local (T':=putD A.T t.dst u) (h':=a) G l (fun _ b C=>(k4 b (fun hw=>Qgr N hw C)).symm) (fun h=>by simp_all);obtain⟨T,M,_⟩:=m d;refine⟨a,c,k1,z,g,fun b=>?_⟩;show c.get b=y.get b;by_cases hw:b∈fs.W;·grind[Qgr]
  grind
 ·simp only[Zaa,List.isEmpty_iff]at hf;obtain⟨L,q⟩:=hf;have I:∀b,o.get b=A.h.get b:=fun b=>w d b (by rw[q];simp);obtain⟨a,k1,_,k2⟩:=StepV.local (T':=A.T) (h':=A.h) E p (fun h=>by simp_all) (fun _ b=>I b);have k2:=k2 f;subst k2;obtain⟨c,z,m,_⟩:=StepV.local (T':=putD A.T t.dst u) (h':=a) G l (fun _ b C=>by simp_all) (fun h=>by simp_all);obtain⟨_,M,_⟩:=m d;exact⟨a,c,k1,z,g,fun b=>M b (by rw[q];simp)⟩
 simp only[Zaa,List.isEmpty_iff]at hf;obtain⟨L,q⟩:=hf;have J:∀b,y.get b=o.get b:=fun b=>H f b (by rw[q];simp);obtain⟨a,k1,k2,_⟩:=StepV.local (T':=A.T) (h':=A.h) E p (fun _ b C=>by simp_all) (fun h=>by simp_all);obtain⟨_,k4,_⟩:=k2 f;have r:∀b,A.h.get b=a.get b:=fun b=>(k4 b (by rw[q];simp)).symm;obtain⟨c,z,_,m⟩:=StepV.local (T':=putD A.T t.dst u) (h':=a) G l (fun h=>by simp_all) (fun _ b=>r b);have m:=m d;subst m;exact⟨a,c,k1,z,g,fun b=>(J b).symm⟩
theorem StepV.congr{i:Nat}{s:SOper}{A B:St}{v:AV}{h1:Heap}{fp:FP}(g:StepV P i s A.T A.h v h1 fp)(e:SEq A B):∃a,StepV P i s B.T B.h v a fp/\SEq ⟨putD A.T s.dst v,h1⟩ ⟨putD B.T s.dst v,a⟩:=by
 obtain⟨a,k1,k2,k3⟩:=StepV.local (T':=B.T) (h':=B.h) g (fun j _=>e.1 j) (fun _ b _=>e.2 b) (fun _ b=>e.2 b);refine⟨a,k1,fun j=>?_,fun b=>?_⟩;·show lk (putD A.T s.dst v) j=lk (putD B.T s.dst v) j;rw[QbC,QbC,e.1 j]
 show h1.get b=a.get b;cases c:fp.all with|true=>rw[k3 c]|false=>
  obtain⟨h,f,d⟩:=k2 c;by_cases hw:b∈fp.W;·simp_all
  rw[d b hw,f b hw,e.2 b]
end Go.AM
