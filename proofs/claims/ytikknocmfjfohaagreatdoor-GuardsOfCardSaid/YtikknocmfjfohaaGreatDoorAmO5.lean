/- A part of the proof of GuardsOfCardSaid: lemmas on the way (AmI). Conditions: none of ours. -/
import Derived.RangeFuncRecord
import Derived.OrdersIn
import Derived.Test.YtikknocmfjfohaaGreatDoorAmO4
theorem Go.AM.bx7zr{p:Prop}(h:p:=by
 intro x;dsimp only;split;·rename_i a cs;cases Nat.beq a g with|true=>exact h cs|false=>trivial
 trivial):p:=h
set_option linter.unusedSectionVars false
set_option maxHeartbeats 32000000
set_option maxRecDepth 100000
set_option linter.unusedVariables false
set_option linter.unusedSimpArgs false
namespace Go.AM
variable{P:Program}
variable{v:AV}{c:Code}{R:Ending->World->Prop}{Q:Exit->Act->World->Prop}{a h h' h1:Heap}{args:List AV}{B xs:List Nat}{b g i:Nat}{x:Opd}{y:Option Blk}{d:Option Nat}{s t:SOper}{T T':Tmps}{α:Type}{w:World}
def FW(ro:Option Nat):Fence:={Fence.wide with round:=ro}
theorem Qof{ro}(n):(FW ro).room n:=fun _ h=>by simp[FW,Fence.wide]at h
theorem callsFW{ro}{f}{args}(h:Calls P f args w R):CallsIn (FW ro) 0 P f args w R:=(callsIn_wide (n:=0)).2 h
def Lp(ro:Option Nat)(P:Program)(c:Code)(Q:Exit->Act->World->Prop)(a:Act)(w:World):Prop:=∀(b:Frame)(k:List Item)(cs:List Frame),b.roundOf=ro->∃e d f,Q e d f/\ArrivesIn (Machine.fenced P (FW ro)) P (lone (b.atR a (.code c::.inLoop c::k)) cs w) b k cs e d f
theorem Lp.loop{ro}{a}(h:Lp ro P c Q a w):(Code.loop c).wpIn (FW ro) 0 P Q a w:=by intro b k cs f g n;obtain⟨e,l,i,m,d⟩:=h b k cs f;exact⟨e,l,i,m,.of_steps (.one (fenced_calm g n rfl) stepR_loop) d⟩
theorem Lp.round{ro}{a}(h:c.wpIn (FW ro) 0 P (Exit.then (Lp ro P c Q) Q) a w):Lp ro P c Q a w:=by intro b k cs o;obtain⟨e,n,m,g,d⟩:=h b (.inLoop c::k) cs o trivial (Qof _);cases e with|normal=>obtain⟨r,s,q,p,f⟩:=g b k cs o;exact⟨r,s,q,p,.of_steps (StepsIn.trans d (.one (fenced_calm (n:=0) trivial (Qof _) rfl) stepR_inLoop)) f⟩|exit i=>exact⟨_,n,m,g,.pass (x:=.inLoop c) rfl (fun _ _=>.inl (by simp)) d⟩|goto l=>exact⟨_,n,m,g,.pass (x:=.inLoop c) rfl (fun _ _=>.inl (by simp)) d⟩|ret=>exact⟨_,n,m,g,.pass (x:=.inLoop c) rfl (fun _ _=>.inl (by simp)) d⟩|panic ch=>exact⟨_,n,m,g,.pass (x:=.inLoop c) rfl (fun _ _=>.inl (by simp)) d⟩|outgrown=>exact⟨_,n,m,g,.pass (x:=.inLoop c) rfl (fun _ _=>.inl (by simp)) d⟩
def HSpec(P:Program)(f:Nat)(args:List AV)(h:Heap)(v:AV)(h':Heap):Prop:=Callable P f/\∀(c:Ctx (okc P))(w:World)(a:Array Value),HRel c h w->VRels c w args a.toList->Calls P f a w fun e d=>∃g b,e=.returned g/\Evo c w b d/\HRel b h' d/\VRel b d v g
def Rets(P)(c:Ctx (okc P))(w:World)(h1:Heap)(v:AV):Ending->World->Prop:=fun e a=>∃d b,e=.returned d/\Evo c w b a/\HRel b h1 a/\VRel b a v d
def RSpec(P:Program)(b g:Nat)(args:List AV)(h:Heap)(v:AV)(h':Heap):Prop:=∀(c:Ctx (okc P))(w:World)(a:Array Value)(f:Nat),HRel c h w->VRels c w args a.toList->c.ρ b g=some (.loc f 0)->∃(fn:Nat)(tmps:Array Value)(d body:Code),(Instr.yield f a).run P w=.ok (.round f fn tmps d body) w/\RoundIn Fence.wide 0 P f fn tmps d body w (Rets P c w h' v)
def PSpec(P:Program)(f:Nat)(args:List AV)(v:AV):Prop:=noRefs args=true/\noRef v=true/\∃a,HSpec P f args .e v a
def one(b:Nat)(x:Blk):Heap:=Tr.set .e b x
theorem QtA{x}(a:b<lim)(j):(one b x).get j=if j=b then some x else none:=by simp_all[one,Zcd,Tr.get]
def own1(b g:Nat):List AV->Bool|[]=>true|.sl c a _ _ _::xs=>c==b&&a==g&&own1 b g xs|x::xs=>noRef x&&own1 b g xs
def GSpec(P:Program)(f:Nat)(args:List AV)(b g:Nat)(xs:List AV)(v:AV):Prop:=Callable P f/\own1 b g args=true/\noRef v=true/\flatVs xs=true/\b<lim/\∀(c:Ctx (okc P))(w:World)(a:Array Value),HRel c (one b (.cells g xs)) w->VRels c w args a.toList->Calls P f a w fun e h=>∃i d,e=.returned i/\Evo c w d h/\(∀k,d.F k\/d.O k->k<h.heap.size)/\VRel (lent d) h v i
def NSpec(P:Program)(f:Nat)(args ys:List AV)(len sz:Nat):Prop:=Callable P f/\noRefs args=true/\∃(b g off:Nat)(cs:List AV)(a:Heap),cs.drop off=ys/\off<=cs.length/\a.get b=some (.cells g cs)/\HSpec P f args .e (.sl b g off len sz) a
def HM.fp{α}:HM α->Heap->List Nat×List Nat|.ret _,_=>([],[])|.fail,_=>([],[])|.look b k,h=>let r:=(k (h.get b)).fp h;(b::r.1,r.2)|.put b x k,h=>let r:=k.fp (h.set b x);(r.1,b::r.2)
variable{f:AV->HM AV}{m:HM α}{k:List (AV×AV)->HM α}
theorem HM.local(m:HM α):∀(h h':Heap)(a:α)(h1:Heap),m.run h=some (a,h1)->(∀b∈(m.fp h).1,h.get b=h'.get b)->∃c,m.run h'=some (a,c)/\m.fp h'=m.fp h/\(∀b∈(m.fp h).2,c.get b=h1.get b)/\(∀b,b∉(m.fp h).2->c.get b=h'.get b)/\(∀b,b∉(m.fp h).2->h1.get b=h.get b):=by induction m with|ret x=>intro h h' a h1 hm _;simp only[HM.run,Zaa,Zal]at hm;obtain⟨rfl,rfl⟩:=hm;exact⟨h',rfl,rfl,by simp[HM.fp],by simp,by simp⟩|fail=>intro h h' a h1 hm;simp[HM.run]at hm|look b k i=>intro h h' a h1 hm d;simp only[HM.run]at hm;simp only[HM.fp]at d⊢;have q:h.get b=h'.get b:=d b (by simp);obtain⟨c,r,g,l,p,n⟩:=i _ h h' a h1 hm (fun o f=>d o (by simp[f]));rw[<-q];refine⟨c,by simp_all[HM.run],by rw[g],l,p,n⟩|put b x k i=>
 intro h h' a h1 hm d;obtain⟨s,hm⟩:=Qa2 hm;simp only[HM.fp]at d⊢;obtain⟨c,r,g,l,p,n⟩:=i (h.set b x) (h'.set b x) a h1 hm (fun o f=>by simp_all[Zcd]);refine⟨c,?_,by rw[g],?_,?_,?_⟩;·grind[HM.run]
 ·grind[Zcd]
 ·simp_all[Zcd]
 simp_all[Zcd]
def HM.ro{α}:HM α->Prop|.ret _=>True|.fail=>True|.look _ k=>∀x,(k x).ro|.put _ _ _=>False
theorem HM.ro_fp(m:HM α):m.ro->∀h,(m.fp h).2=[]:=by induction m with|ret a=>intro _ h;rfl|fail=>intro _ h;rfl|look b k d=>intro c h;exact d _ (c _) h|put b x k d=>intro c;exact c.elim
theorem HM.Qb6{β}{f:α->HM β}(h1:m.ro)(d:∀a,(f a).ro):(m.bind f).ro:=by induction m with|ret a=>exact d a|fail=>trivial|look b k c=>exact fun x=>c x (h1 x)|put b x k c=>exact h1.elim
theorem QiC(o:Option α):(HM.opt o).ro:=by cases o<;>trivial
theorem QfB{k:List AV->HM α}(h:∀cs,(k cs).ro):(HM.cells b g k).ro:=by
 exact bx7zr
theorem QpD(h:∀cs,(k cs).ro):(HM.entries b g k).ro:=by
 exact bx7zr
theorem Qc4(hf:∀x,(f x).ro):∀xs,(mapH f xs).ro|[]=>trivial|x::xs=>HM.Qb6 (hf x) fun y=>HM.Qb6 (Qc4 hf xs) fun a=>trivial
theorem Qey:∀(d:Nat)(x:AV),(frzH d x).ro
 |0,x=>trivial|d+1,x=>by
  cases x<;>simp only[frzH]<;>try trivial
  ·exact HM.Qb6 (Qc4 (Qey d) _) fun _=>trivial
  ·exact HM.Qb6 (Qc4 (Qey d) _) fun _=>trivial
  ·exact QfB fun cs=>HM.Qb6 (Qc4 (Qey d) _) fun _=>trivial
  refine QfB fun cs=>?_;split;·exact HM.Qb6 (Qc4 (Qey d) _) fun _=>trivial
  trivial
theorem HM.Qqm(m:HM α):m.ro->∀{h:Heap}{a:α}{h1:Heap},m.run h=some (a,h1)->h1=h:=by induction m with|ret x=>intro _ h a h1 hm;simp only[HM.run,Zaa,Zal]at hm;exact hm.2.symm|fail=>intro _ h a h1 hm;simp[HM.run]at hm|look b k d=>intro c h a h1 hm;exact d _ (c _) hm|put b x k d=>intro c;exact c.elim
theorem HM.Qss(f:m.ro){a}(hm:m.run h=some (a,h))(he:∀b∈(m.fp h).1,h.get b=h'.get b):m.run h'=some (a,h')/\m.fp h'=m.fp h:=by obtain⟨c,g,d,_⟩:=m.local h h' a h hm he;grind[HM.Qqm]
theorem lk_up(T)(i)(v)(j):lk (up T i v) j=if j=i then v else lk T j:=by induction T with
 |nil=>
  simp only[up,lk];by_cases e:j=i;·simp_all
  have :Nat.beq i j=false:=by rw[ZaJ];simpa using fun h=>e h.symm
  simp_all|cons p T c=>
  obtain⟨k,u⟩:=p;simp only[up];by_cases a:k=i
  ·subst a;have:Nat.beq k k=true:=by simp
   rw[this];simp only[cond_true,lk];by_cases e:j=k;·simp_all
   have b:Nat.beq k j=false:=by rw[ZaJ];simpa using fun h=>e h.symm
   simp_all
  have :Nat.beq k i=false:=by simp_all[ZaJ]
  grind[lk]
def putD(T:Tmps)(dst:Option Nat)(v:AV):Tmps:=match dst with|some d=>up T d v|none=>T
theorem QbG(T)(dst)(v)(j):lk (putD T dst v) j=if dst=some j then v else lk T j:=by cases dst with|none=>simp[putD]|some d=>
 simp only[putD,lk_up,Zaa];by_cases e:j=d;·subst e;simp
 grind
theorem Ql0(h:∀i∈x.slots,lk T i=lk T' i):ev T x=ev T' x:=by cases x<;>simp only[ev];simp_all[Opd.slots]
theorem Qqn{xs}(a:x∈xs)(hi:i∈x.slots):i∈slotsOf xs:=Zbt.2 ⟨x,a,hi⟩
theorem Qkl{s:SOp}(h:∀j∈slotsOf s.opds,lk T j=lk T' j):aop i T s=aop i T' s:=by
 have one:∀x∈s.opds,ev T x=ev T' x:=fun x hx=>Ql0 fun j hj=>h j (Qqn hx hj);cases s<;>simp only[SOp.opds]at one<;>simp only[aop]<;>first|rfl|(rw[one _ (by simp)];done)|(rw[one _ (List.mem_cons_self ..),one _ (by simp)];done)|(simp only[Zax,Za1,or_false,forall_eq_or_imp,forall_eq]at one;simp only[one];done)|skip
 case build zero parts=>
  have:evParts T parts=evParts T' parts:=Zba fun p hp=>by grind
  rw[this]
 case bslice fz s sz len zero parts=>
  have:evParts T parts=evParts T' parts:=Zba fun p hp=>by grind
  rw[this]
 case mkfn f xs ys=>simp_all[evs]
 case slice sz x l hh m=>
  have e1:evo T l=evo T' l:=by cases l<;>simp[evo];simp_all
  have e2:evo T hh=evo T' hh:=by cases hh<;>simp[evo];simp_all
  have e3:evo T m=evo T' m:=by cases m<;>simp[evo];simp_all
  simp_all
 case sliceK sz x l hh=>
  have e1:evo T l=evo T' l:=by cases l<;>simp[evo];simp_all
  have e2:evo T hh=evo T' hh:=by cases hh<;>simp[evo];simp_all
  simp_all
 case maxmin mn xs=>grind[evs,Zba]
 case ext k f xs=>grind[evs,Zba]
 grind[evs,Zba]
structure FP where
 all:Bool
 R:List Nat
 W:List Nat
def fpOf(r:List Nat×List Nat):FP:=⟨false,r.1,r.2⟩
def NStep(P:Program)(i f:Nat)(args:List AV)(h:Heap)(v:AV)(h1:Heap)(fp:FP):Prop:=∃a R,((a=args/\R=[])\/((mapH (frzH 4) args).run h=some (a,h)/\R=((mapH (frzH 4) args).fp h).1))/\((∃b len sz,NSpec P f a b len sz/\(flatVs b=true\/noRefs b=true/\a=args)/\i<lim/\h.get i=none/\v=.sl i 0 0 len sz/\h1=h.set i (.cells 0 b)/\fp=⟨false,i::R,[i]⟩)\/(PSpec P f a v/\(flatV v=true\/a=args)/\h1=h/\fp=⟨false,R,[]⟩))
def over(k:Heap)(h:Heap):List Nat->Heap|[]=>h|b::D=>match k.get b with|some x=>over k (h.set b x) D|none=>over k h D
def pick(h:Heap)(B:List Nat):Heap:=over h .e B
def allLim(B:List Nat):Bool:=B.all fun b=>Nat.blt b lim
theorem QdW(h:allLim B=true)(a:b∈B):b<lim:=by have:=ZaH.1 h b a;simp_all
theorem QfC{k}:∀{D:List Nat}{h:Heap},(∀b∈D,b<lim)->(∀b∈D,k.get b≠none)->∀j,(over k h D).get j=if j∈D then k.get j else h.get j|[],h,_,_,j=>by simp[over]|b::D,h,d,c,j=>by simp only[over];cases a:k.get b with|none=>exact absurd a (c b (by simp))|some x=>
 simp only;rw[QfC (D:=D) (fun b a=>d b (by simp[a])) (fun b a=>c b (by simp[a])) j,Zcd _ (d b (by simp))];by_cases e:j=b;·simp_all
 simp[e]
theorem QfD:∀{B:List Nat}{k:Heap},(∀b∈B,h.get b=h'.get b)->over h k B=over h' k B|[],_,_=>rfl|b::B,k,e=>by simp only[over];rw[<-e b (by simp)];cases h.get b with|none=>exact QfD fun b a=>e b (by simp[a])|some x=>exact QfD fun b a=>e b (by simp[a])
theorem QpE(e:∀b∈B,h.get b=h'.get b):pick h B=pick h' B:=QfD e
theorem Qst(c:∀b∈B,b<lim)(a:∀b∈B,h.get b≠none)(k):(pick h B).get k=if k∈B then h.get k else none:=by simp_all[pick,QfC,Tr.get]
def blkIn(B:List Nat):Option Blk->Bool|some (.cells _ cs)=>inBs B cs|some (.map _ es)=>inBe B es|some (.dead _)=>true|_=>false
def eqStr:List UInt8->List UInt8->Bool|[],[]=>true|x::xs,y::a=>bif Nat.beq x.toNat y.toNat then eqStr xs a else false|_,_=>false
theorem Ql1:∀{x y:List UInt8},eqStr x y=true->x=y|[],[],_=>rfl|[],_::_,h=>by simp[eqStr]at h|_::_,[],h=>by simp[eqStr]at h|x::xs,y::a,h=>by simp only[eqStr]at h;cases e:Nat.beq x.toNat y.toNat with|false=>rw[e]at h;simp at h|true=>rw[e]at h;have:x=y:=UInt8.toNat_inj.1 (by simpa using e);have b:xs=a:=Ql1 (by simpa using h);rw[this,b]
def eqInt:Int->Int->Bool|.ofNat a,.ofNat b=>Nat.beq a b|.negSucc a,.negSucc b=>Nat.beq a b|_,_=>false
theorem Qsu:∀{a b:Int},eqInt a b=true->a=b|.ofNat a,.ofNat b,h=>by simp_all[eqInt]|.negSucc a,.negSucc b,h=>by simp_all[eqInt]|.ofNat a,.negSucc b,h=>by simp[eqInt]at h|.negSucc a,.ofNat b,h=>by simp[eqInt]at h
def eqK:IntKind->IntKind->Bool|.i8,.i8|.i16,.i16|.i32,.i32|.i64,.i64|.u8,.u8|.u16,.u16|.u32,.u32|.u64,.u64=>true|_,_=>false
theorem QuT{a b}(h:eqK a b=true):a=b:=by cases a<;>cases b<;>simp[eqK]at h<;>rfl
mutual def eqAV:AV->AV->Bool
 |.any,.any=>true|.bool a,.bool b=>match a,b with|true,true=>true|false,false=>true|_,_=>false
 |.int k n,.int k' n'=>bif eqInt n n' then eqK k k' else false|.str s,.str s'=>eqStr s s'|.agg cs,.agg cs'=>eqAVs cs cs'|.tup cs,.tup cs'=>eqAVs cs cs'|.nilptr,.nilptr=>true|.ptr b g o,.ptr b' g' o'=>Nat.beq b b'&&Nat.beq g g'&&Nat.beq o o'|.fptr cs,.fptr cs'=>eqAVs cs cs'|.nilsl,.nilsl=>true|.sl b g o l s,.sl b' g' o' l' s'=>Nat.beq b b'&&Nat.beq g g'&&Nat.beq o o'&&Nat.beq l l'&&Nat.beq s s'|.fsl cs l s,.fsl cs' l' s'=>Nat.beq l l'&&Nat.beq s s'&&eqAVs cs cs'|.esl,.esl=>true|.nsl,.nsl=>true|.nilmap,.nilmap=>true|.map b g,.map b' g'=>Nat.beq b b'&&Nat.beq g g'|.fmap x y,.fmap x' y'=>eqAVs x x'&&eqAVs y y'|.nilfn,.nilfn=>true|.fn f x y,.fn f' x' y'=>Nat.beq f f'&&eqAVs x x'&&eqAVs y y'|.nilif,.nilif=>true|.ifc t v,.ifc t' v'=>Nat.beq t t'&&eqAV v v'|.typed t n v,.typed t' n' v'=>Nat.beq t t'&&Nat.beq n n'&&eqAV v v'|_,_=>false termination_by structural x=>x def eqAVs:List AV->List AV->Bool|[],[]=>true|x::xs,y::ys=>bif eqAV x y then eqAVs xs ys else false|_,_=>false termination_by structural x=>x end
mutual theorem QdA:∀(x y:AV),eqAV x y=true->x=y|.any,y,h=>by grind[eqAV]|.bool a,y,h=>by cases y<;>simp only[eqAV,Zar]at h;grind|.int k n,y,h=>by cases y<;>simp only[eqAV,Zar]at h;grind[QuT,Qsu]|.str s,y,h=>by cases y<;>simp only[eqAV,Zar]at h;rw[Ql1 h]|.agg cs,y,h=>by cases y<;>simp only[eqAV,Zar]at h;rw[Qcf _ _ h]|.tup cs,y,h=>by cases y<;>simp only[eqAV,Zar]at h;rw[Qcf _ _ h]|.nilptr,y,h=>by grind[eqAV]|.ptr b g o,y,h=>by cases y<;>simp[eqAV]at h;simp[h]|.fptr cs,y,h=>by cases y<;>simp only[eqAV,Zar]at h;rw[Qcf _ _ h]|.nilsl,y,h=>by grind[eqAV]|.sl b g o l s,y,h=>by cases y<;>simp[eqAV]at h;simp[h]|.fsl cs l s,y,h=>by cases y<;>simp only[eqAV,Zar,Zab,Zb0]at h;rw[Qcf _ _ h.2,h.1.1,h.1.2]|.esl,y,h=>by grind[eqAV]|.nsl,y,h=>by grind[eqAV]|.nilmap,y,h=>by grind[eqAV]|.map b g,y,h=>by cases y<;>simp[eqAV]at h;simp[h]|.fmap x z,y,h=>by cases y<;>simp only[eqAV,Zar,Zab]at h;rw[Qcf _ _ h.1,Qcf _ _ h.2]|.nilfn,y,h=>by grind[eqAV]|.fn f x z,y,h=>by cases y<;>simp only[eqAV,Zar,Zab,Zb0]at h;rw[h.1.1,Qcf _ _ h.1.2,Qcf _ _ h.2]|.nilif,y,h=>by grind[eqAV]|.yld b g,y,h=>by simp_all[eqAV]|.ifc t v,y,h=>by cases y<;>simp only[eqAV,Zar,Zab,Zb0]at h;rw[h.1,QdA _ _ h.2]|.typed t n v,y,h=>by cases y<;>simp only[eqAV,Zar,Zab,Zb0]at h;rw[h.1.1,h.1.2,QdA _ _ h.2]theorem Qcf:∀(x y:List AV),eqAVs x y=true->x=y|[],y,h=>by grind[eqAVs]|x::xs,y,h=>by cases y with|nil=>simp[eqAVs]at h|cons y ys=>simp only[eqAVs]at h;cases e:eqAV x y with|false=>rw[e]at h;simp at h|true=>rw[e]at h;have e2:xs=ys:=Qcf _ _ (by simpa using h);rw[QdA _ _ e,e2]end
def eqEs:List (AV×AV)->List (AV×AV)->Bool|[],[]=>true|p::r,q::s=>bif eqAV p.1 q.1&&eqAV p.2 q.2 then eqEs r s else false|_,_=>false
theorem Qog:∀{x y:List (AV×AV)},eqEs x y=true->x=y|[],[],_=>rfl|[],_::_,h=>by simp[eqEs]at h|_::_,[],h=>by simp[eqEs]at h|(a,b)::xs,(c,d)::f,h=>by simp only[eqEs]at h;cases e:eqAV a c&&eqAV b d with|false=>rw[e]at h;simp at h|true=>rw[e]at h;simp only[Zab]at e;have g:xs=f:=Qog (by simpa using h);rw[QdA _ _ e.1,QdA _ _ e.2,g]
def eqBlk:Option Blk->Option Blk->Bool|some (.cells g cs),some (.cells a c)=>bif Nat.beq g a then eqAVs cs c else false|some (.map g es),some (.map a b)=>bif Nat.beq g a then eqEs es b else false|some (.dead g),some (.dead a)=>Nat.beq g a|_,_=>false
theorem Qsv{x}(h:eqBlk x y=true):x=y:=by
 unfold eqBlk at h;split at h;·rename_i g cs a f;cases e:Nat.beq g a with|false=>rw[e]at h;simp at h|true=>
  rw[e]at h;have c:g=a:=by simpa using e
  have d:cs=f:=Qcf _ _ (by simpa using h);rw[c,d]
 ·rename_i g es a b;cases e:Nat.beq g a with|false=>rw[e]at h;simp at h|true=>
  rw[e]at h;have c:g=a:=by simpa using e
  have d:es=b:=Qog (by simpa using h);rw[c,d]
 ·simp_all
 cases h
def FStep(P:Program)(f:Nat)(args:List AV)(h:Heap)(v:AV)(h1:Heap)(fp:FP):Prop:=∃B D W a,allLim B=true/\allLim D=true/\inBs B args=true/\(∀b∈B,blkIn B (h.get b)=true)/\HSpec P f args (pick h B) v a/\(∀b∈D,a.get b≠none)/\(∀b,a.get b≠none->b∈D)/\(∀b∈B,b∈D)/\(∀b∈D,b∉B->h.get b=none)/\(∀b∈D,b∉W->a.get b=h.get b)/\(∀b∈W,b∈D)/\h1=over a h D/\fp=⟨false,D,W⟩
def StepX(P:Program)(i:Nat)(s:SOp)(T:Tmps)(h:Heap)(v:AV)(h1:Heap)(fp:FP):Prop:=∃out a,(aop i T s).run h=some (out,a)/\match out with|.val u=>v=u/\h1=a/\fp=fpOf ((aop i T s).fp h)|.call .pure f args=>PSpec P f args v/\h1=a/\fp=fpOf ((aop i T s).fp h)|.call .borrow f args=>PSpec P f args v/\flatV v=true/\h1=a/\fp=fpOf ((aop i T s).fp h)|.call .heap f args=>(HSpec P f args a v h1/\fp=⟨true,[],[]⟩)\/(∃b g xs,GSpec P f args b g xs v/\a.get b=some (.cells g xs)/\h1=a.set b (.dead g)/\fp=⟨false,[b],[b]⟩)\/NStep P i f args a v h1 fp\/FStep P f args a v h1 fp|.round b g args=>RSpec P b g args a v h1/\fp=⟨true,[],[]⟩
def wantedA(x:AV)(a:Bool):Option Bool:=match x with|.bool b=>some (b==a)|.tup []=>some false|_=>none
def StepV(P:Program)(i:Nat)(s:SOper)(T:Tmps)(h:Heap)(v:AV)(h1:Heap)(fp:FP):Prop:=match s.guard with|none=>StepX P i s.op T h v h1 fp|some (g,a)=>∃b,wantedA (lk T g) a=some b/\if b=true then StepX P i s.op T h v h1 fp else(v=.tup []/\h1=h/\fp=⟨false,[],[]⟩)
structure St where
 T:Tmps
 h:Heap
variable{A:St}
def SEq(A B:St):Prop:=(∀i,lk A.T i=lk B.T i)/\∀b,A.h.get b=B.h.get b
theorem SEq.refl(A):SEq A A:=⟨fun _=>rfl,fun _=>rfl⟩
theorem SEq.symm{B}(h:SEq A B):SEq B A:=⟨fun i=>(h.1 i).symm,fun b=>(h.2 b).symm⟩
theorem SEq.trans{B C}(h:SEq A B)(k:SEq B C):SEq A C:=⟨fun i=>(h.1 i).trans (k.1 i),fun b=>(h.2 b).trans (k.2 b)⟩
theorem QiD(e:∀b,h.get b=h'.get b):Live h b g↔Live h' b g:=by grind[Live]
theorem Qct{ok}{c:Ctx ok}(e:∀b,h.get b=h'.get b)(H:HRel c h w):HRel c h' w:=⟨fun b n=>H.fresh b (by simp_all),fun b x f=>H.later b x (by simp_all),fun b x f=>H.blk b x (by simp_all),fun b g i m d base a l k=>H.inj b g i m d base a ((QiD e).2 l) ((QiD e).2 k),H.disj,H.inF,H.inO⟩
theorem Qn1{f}{d:Heap}(e:∀b,h.get b=d.get b)(H:HSpec P f args h v h1):HSpec P f args d v h1:=⟨H.1,fun c w a g i=>H.2 c w a (Qct (fun b=>(e b).symm) g) i⟩
theorem Qn2{d:Heap}(e:∀b,h.get b=d.get b)(H:RSpec P b g args h v h1):RSpec P b g args d v h1:=fun c w a f i k=>H c w a f (Qct (fun b=>(e b).symm) i) k
def AOut.whole:AOut->Bool|.call .heap _ _=>true|.round ..=>true|_=>false
theorem Qsw{m}{x}{out}(ho:out.whole=true)(hm:(aCall m x args).run h=some (out,a)):a=h/\(∀h',(aCall m x args).run h'=some (out,h')):=by
 cases x<;>simp only[aCall]at hm<;>try(cases hm;done)
 ·cases m with|heap=>simp only[HM.run,Zaa,Zal]at hm;obtain⟨h1,rfl⟩:=hm;exact⟨rfl,fun h'=>by grind[aCall,HM.run]⟩|pure=>simp only[HM.run,Zaa,Zal]at hm;obtain⟨rfl,rfl⟩:=hm;cases ho|borrow=>simp only at hm;obtain⟨c,d,f,b⟩:=run_bind hm;simp only[HM.run,Zaa,Zal]at b;obtain⟨rfl,rfl⟩:=b;cases ho
 cases m<;>simp only[HM.run,Zaa,Zal,reduceCtorEq]at hm;obtain⟨h1,rfl⟩:=hm;exact⟨rfl,fun h'=>by grind[aCall,HM.run]⟩
theorem Ql2{s}{out}(ho:out.whole=true)(hm:(aop i T s).run h=some (out,a)):a=h/\(∀h',(aop i T s).run h'=some (out,h')):=by
 have lf:∀(o:Option AV),(lift o).run h≠some (out,a):=by intro o e;obtain⟨v,_,k⟩:=QaV e;cases k;cases ho
 have hf:∀(m:HM AV),(hval m).run h≠some (out,a):=by intro m e;obtain⟨v,h1,_,k⟩:=QaS e;cases k;cases ho
 have b:∀(u:AV),(HM.ret (AOut.val u)).run h≠some (out,a):=by intro u e;simp only[HM.run,Zaa,Zal]at e;obtain⟨rfl,rfl⟩:=e;cases ho
 cases s<;>simp only[aop]at hm⊢<;>first|exact absurd hm (lf _)|exact absurd hm (hf _)|exact absurd hm (b _)|(simp only[HM.run,reduceCtorEq]at hm;done)|exact Qsw ho hm
theorem StepX.local{s}{fp}(O:StepX P i s T h v h1 fp)(Q:∀j∈slotsOf s.opds,lk T j=lk T' j)(C:fp.all=false->∀b∈fp.R,h.get b=h'.get b)(hA:fp.all=true->∀b,h.get b=h'.get b):∃o,StepX P i s T' h' v o fp/\(fp.all=false->(∀b∈fp.W,o.get b=h1.get b)/\(∀b,b∉fp.W->o.get b=h'.get b)/\∀b,b∉fp.W->h1.get b=h.get b)/\(fp.all=true->o=h1):=by
 obtain⟨out,z,hm,k⟩:=O;have y:=Qkl (i:=i) (s:=s) Q;have gen:fp=fpOf ((aop i T s).fp h)->(∀b∈((aop i T s).fp h).1,h.get b=h'.get b)->∃a,(aop i T' s).run h'=some (out,a)/\fpOf ((aop i T' s).fp h')=fp/\(∀b∈fp.W,a.get b=z.get b)/\(∀b,b∉fp.W->a.get b=h'.get b)/\∀b,b∉fp.W->z.get b=h.get b:=by
  intro e c;obtain⟨a,l,r,w,t,x⟩:=(aop i T s).local h h' out z hm c;rw[y]at l r;refine⟨a,l,?_,?_,?_,?_⟩;·rw[r,e,y]
  ·rw[e];exact w
  ·rw[e];exact t
  rw[e];exact x
 match out,hm,k with
 |.val u,hm,k=>obtain⟨rfl,rfl,e⟩:=k;obtain⟨a,l,r,w,t,x⟩:=gen e (by have:=C (by rw[e];rfl);rw[e]at this;exact this);exact⟨a,⟨_,a,l,rfl,rfl,r.symm⟩,fun _=>⟨w,t,x⟩,fun d=>by rw[e]at d;cases d⟩|.call .pure f args,hm,k=>obtain⟨m,rfl,e⟩:=k;obtain⟨a,l,r,w,t,x⟩:=gen e (by have:=C (by rw[e];rfl);rw[e]at this;exact this);exact⟨a,⟨_,a,l,m,rfl,r.symm⟩,fun _=>⟨w,t,x⟩,fun d=>by rw[e]at d;cases d⟩|.call .borrow f args,hm,k=>obtain⟨m,V,rfl,e⟩:=k;obtain⟨a,l,r,w,t,x⟩:=gen e (by have:=C (by rw[e];rfl);rw[e]at this;exact this);exact⟨a,⟨_,a,l,m,V,rfl,r.symm⟩,fun _=>⟨w,t,x⟩,fun d=>by rw[e]at d;cases d⟩|.call .heap f args,hm,k=>
  obtain⟨rfl,p⟩:=Ql2 rfl hm;rcases k with⟨m,e⟩|⟨b,g,xs,m,q,rfl,e⟩|⟨n,R,Y,hN⟩|⟨B,D,W,l,U,K,X,f4,f5,N,f7,L,f9,S,H,rfl,e⟩;·have c:=hA (by rw[e]);refine⟨h1,⟨.call .heap f args,h',?_,.inl ⟨Qn1 c m,e⟩⟩,⟨fun d=>(by simp_all),fun _=>rfl⟩⟩;simp_all
  ·have G:h'.get b=some (.cells g xs):=by simp_all
   have J:=m.2.2.2.2.1;refine⟨h'.set b (.dead g),⟨.call .heap f args,h',?_,.inr (.inl ⟨b,g,xs,m,G,rfl,e⟩)⟩,⟨fun _=>?_,fun d=>(by simp_all)⟩⟩;·simp_all
   simp_all[Zcd]
  ·have c:fp.all=false/\(∀b∈R,b∈fp.R):=by grind
   have A:(n=args/\R=[])\/((mapH (frzH 4) args).run h'=some (n,h')/\R=((mapH (frzH 4) args).fp h').1):=by grind[HM.Qss,Qc4,Qey]
   rcases hN with⟨M,len,sz,I,E,J,hi,rfl,rfl,e⟩|⟨I,E,rfl,e⟩
   ·have F:h'.get i=none:=by simp_all
    refine⟨h'.set i (.cells 0 M),⟨.call .heap f args,h',?_,.inr (.inr (.inl ⟨n,R,A,.inl ⟨M,len,sz,I,E,J,F,rfl,rfl,e⟩⟩))⟩,⟨fun _=>?_,fun d=>(by simp_all)⟩⟩;·simp_all
    simp_all[Zcd]
   refine⟨h',⟨.call .heap f args,h',?_,.inr (.inr (.inl ⟨n,R,A,.inr ⟨I,E,rfl,e⟩⟩))⟩,⟨fun _=>?_,fun d=>(by simp_all)⟩⟩;·simp_all
   simp_all
  ·have c:∀b∈D,z.get b=h'.get b:=fun b q=>C (by rw[e]) b (by simp_all);have Z:pick z B=pick h' B:=QpE fun b q=>c b (L b q);have hD:∀b∈D,b<lim:=fun b q=>QdW K q;refine⟨over l h' D,⟨.call .heap f args,h',?_,.inr (.inr (.inr ⟨B,D,W,l,U,K,X,fun b q=>by simp_all,by simp_all,N,f7,L,fun b q hB=>by simp_all,fun b q hW=>by simp_all,H,rfl,e⟩))⟩,⟨fun _=>?_,fun d=>(by simp_all)⟩⟩;·simp_all
   simp_all[QfC]|.round b g args,hm,k=>obtain⟨m,e⟩:=k;obtain⟨rfl,p⟩:=Ql2 rfl hm;have c:=hA (by rw[e]);refine⟨h1,⟨.round b g args,h',?_,Qn2 c m,e⟩,⟨fun d=>(by simp_all),fun _=>rfl⟩⟩;rw[<-y];exact p h'
theorem StepV.local{fp}(c:StepV P i s T h v h1 fp)(k:∀j∈s.reads,lk T j=lk T' j)(l:fp.all=false->∀b∈fp.R,h.get b=h'.get b)(hA:fp.all=true->∀b,h.get b=h'.get b):∃a,StepV P i s T' h' v a fp/\(fp.all=false->(∀b∈fp.W,a.get b=h1.get b)/\(∀b,b∉fp.W->a.get b=h'.get b)/\∀b,b∉fp.W->h1.get b=h.get b)/\(fp.all=true->a=h1):=by unfold StepV at c⊢;cases m:s.guard with|none=>rw[m]at c;exact StepX.local c (fun j f=>k j (by simp[SOper.reads,f])) l hA|some p=>
 obtain⟨g,d⟩:=p;rw[m]at c;simp only at c⊢;obtain⟨b,o,c⟩:=c;have n:wantedA (lk T' g) d=some b:=by simp_all[SOper.reads]
 split at c;·rename_i e;obtain⟨a,r,q⟩:=StepX.local c (fun j f=>k j (by simp[SOper.reads,f])) l hA;grind
 simp_all
def disj(xs ys:List Nat):Bool:=xs.all fun x=>!ys.contains x
def FP.apart(a b:FP):Bool:=match a.all,b.all with|true,true=>false|true,false=>b.R.isEmpty&&b.W.isEmpty|false,true=>a.R.isEmpty&&a.W.isEmpty|false,false=>disj a.W b.R&&disj a.W b.W&&disj b.W a.R
theorem Qgm{ys}(c:disj xs ys=true)(h1:b∈xs)(a:b∈ys):False:=by simp_all[disj]
theorem Qhn(h:optIn d xs=false){j}(a:j∈xs):d≠some j:=by rintro rfl;grind[optIn]
theorem StepV.comm{j}{u}{m z}{fs ft}(F:StepV P i s A.T A.h v m fs)(G:StepV P j t (putD A.T s.dst v) m u z ft)(E:s.apart t=true)(hf:fs.apart ft=true):∃a c,StepV P j t A.T A.h u a ft/\StepV P i s (putD A.T t.dst u) a v c fs/\SEq ⟨putD (putD A.T t.dst u) s.dst v,c⟩ ⟨putD (putD A.T s.dst v) t.dst u,z⟩:=by
 simp only[SOper.apart,Zab,Zbq]at E;obtain⟨⟨Q,S⟩,X⟩:=E;have V:∀x,s.dst=some x->t.dst≠some x:=by grind
 have n:∀x,lk (putD (putD A.T t.dst u) s.dst v) x=lk (putD (putD A.T s.dst v) t.dst u) x:=by intro x;simp only[QbG];grind
 have p:∀x∈t.reads,lk (putD A.T s.dst v) x=lk A.T x:=fun x J=>by rw[QbG,if_neg (Qhn Q J)]
 have o:∀x∈s.reads,lk A.T x=lk (putD A.T t.dst u) x:=fun x J=>by rw[QbG,if_neg (Qhn S J)]
 have y:fs.all=false->∀b,b∉fs.W->m.get b=A.h.get b:=by intro R;obtain⟨_,_,k,_⟩:=StepV.local (T':=A.T) (h':=A.h) F (fun _ _=>rfl) (fun _ _ _=>rfl) (fun _ _=>rfl);simp_all
 have H:ft.all=false->∀b,b∉ft.W->z.get b=m.get b:=by intro R;obtain⟨_,_,k,_⟩:=StepV.local (T':=putD A.T s.dst v) (h':=m) G (fun _ _=>rfl) (fun _ _ _=>rfl) (fun _ _=>rfl);simp_all
 unfold FP.apart at hf;cases d:fs.all<;>cases f:ft.all<;>rw[d,f]at hf<;>simp only[Zar]at hf
 ·simp only[Zab]at hf;obtain⟨⟨L,q⟩,O⟩:=hf;obtain⟨a,B,g,_⟩:=StepV.local (T':=A.T) (h':=A.h) G p (fun _ b w=>y d b (fun hw=>Qgm L hw w)) (fun h=>by simp_all);obtain⟨U,M,_⟩:=g f;obtain⟨c,C,l,_⟩:=StepV.local (T':=putD A.T t.dst u) (h':=a) F o (fun _ b w=>(M b (fun hw=>Qgm O hw w)).symm) (fun h=>by simp_all);obtain⟨T,N,_⟩:=l d;refine⟨a,c,B,C,n,fun b=>?_⟩;show c.get b=z.get b;by_cases hw:b∈fs.W;·grind[Qgm]
  grind
 ·simp only[Zab,List.isEmpty_iff]at hf;obtain⟨L,q⟩:=hf;have K:∀b,m.get b=A.h.get b:=fun b=>y d b (by rw[q];simp);obtain⟨a,B,_,g⟩:=StepV.local (T':=A.T) (h':=A.h) G p (fun h=>by simp_all) (fun _ b=>K b);have g:=g f;subst g;obtain⟨c,C,l,_⟩:=StepV.local (T':=putD A.T t.dst u) (h':=a) F o (fun _ b w=>by simp_all) (fun h=>by simp_all);obtain⟨_,N,_⟩:=l d;exact⟨a,c,B,C,n,fun b=>N b (by rw[q];simp)⟩
 simp only[Zab,List.isEmpty_iff]at hf;obtain⟨L,q⟩:=hf;have I:∀b,z.get b=m.get b:=fun b=>H f b (by rw[q];simp);obtain⟨a,B,g,_⟩:=StepV.local (T':=A.T) (h':=A.h) G p (fun _ b w=>by simp_all) (fun h=>by simp_all);obtain⟨_,M,_⟩:=g f;have r:∀b,A.h.get b=a.get b:=fun b=>(M b (by rw[q];simp)).symm;obtain⟨c,C,_,l⟩:=StepV.local (T':=putD A.T t.dst u) (h':=a) F o (fun h=>by simp_all) (fun _ b=>r b);have l:=l d;subst l;exact⟨a,c,B,C,n,fun b=>(I b).symm⟩
theorem StepV.congr{B}{fp}(k:StepV P i s A.T A.h v h1 fp)(e:SEq A B):∃a,StepV P i s B.T B.h v a fp/\SEq ⟨putD A.T s.dst v,h1⟩ ⟨putD B.T s.dst v,a⟩:=by
 obtain⟨a,l,f,g⟩:=StepV.local (T':=B.T) (h':=B.h) k (fun j _=>e.1 j) (fun _ b _=>e.2 b) (fun _ b=>e.2 b);refine⟨a,l,fun j=>?_,fun b=>?_⟩;·show lk (putD A.T s.dst v) j=lk (putD B.T s.dst v) j;rw[QbG,QbG,e.1 j]
 show h1.get b=a.get b;cases c:fp.all with|true=>rw[g c]|false=>
  obtain⟨m,h,d⟩:=f c;by_cases hw:b∈fp.W;·simp_all
  rw[d b hw,h b hw,e.2 b]
end Go.AM
