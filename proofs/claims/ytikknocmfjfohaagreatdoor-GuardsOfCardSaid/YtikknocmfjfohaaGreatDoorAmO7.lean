/- A part of the proof of GuardsOfCardSaid: lemmas on the way (AmL, AmM, AmN). Conditions: none of ours. -/
import Derived.RangeFuncLeaves
import Derived.Test.YtikknocmfjfohaaGreatDoorAmO6
theorem Go.AM.bwoEQ{p:Prop}(h:p:=by
 intro i;refine VRel.rebase _ ?_;by_cases hi:i<args.length
 ·have :=Qh2 args a.toList 0 [] i l rfl;simp only[ZaW]at this;have e:(a++Array.replicate (fn.ntmps-a.size) undef).getD i undef=a.toList.getD i undef:=by simp_all[Array.getElem?_append_left]
  simp_all
 simp_all[Qh3,VRel]):p:=h
set_option linter.unusedSectionVars false
set_option maxHeartbeats 32000000
set_option maxRecDepth 100000
set_option linter.unusedVariables false
set_option linter.unusedSimpArgs false
namespace Go.AM
variable{P:Program}
variable{v x:AV}{a:Act}{R:Ending->World->Prop}{h h':Heap}{args vs:List AV}{f:Nat}{o:Obj}{n:Option Nat}{T:Tmps}{t:TypeId}{s:Value}{w w0:World}
inductive SRes where|tmp(t:Nat)|cell(a:Nat)(n:Option Nat)deriving Inhabited
structure SFn where
 n:Nat
 res:List SRes
 body:SCode
variable{sf:SFn}
def argT:Nat->List AV->Tmps|_,[]=>[]|k,x::xs=>(k,x)::argT (k+1) xs
def resV(T:Tmps)(h:Heap):List SRes->Option (List AV)
 |[]=>some []|.tmp t::r=>match resV T h r with|some b=>some (lk T t::b)|none=>none
 |.cell a n::r=>match(aLoad n (lk T a)).run h,resV T h r with|some (v,_),some b=>some (v::b)|_,_=>none
def resOf:List AV->AV|[v]=>v|a=>.tup a
def okRes(P:Program):List ResultVar->List SRes->Bool|[],[]=>true|.tmp t::r,.tmp d::b=>t==d&&okRes P r b|.cell a t::r,.cell c n::b=>a==c&&rowT P t n&&okRes P r b|_,_=>false
def okFn(P:Program)(f:Nat)(sf:SFn):Bool:=match P.funcs[f]? with|some fn=>(match fn.body with|some code=>okCode P fn.ntmps code sf.body&&fn.ntmps==sf.n&&okRes P fn.results.toList sf.res&&!(fn.name== "runtime.NumGoroutine")|none=>false)|none=>false
theorem QlM{c:Ctx (okc P)}(H:HRel c h w)(k:VRel c w x s)(l:rowT P t n=true)(hm:(aLoad n x).run h=some (v,h')):∃a cv,s=.pointer (some a)/\(loadVar t a).run P w=.ok cv w/\VRel c w v cv:=by
 cases x<;>simp only[aLoad,HM.run]at hm<;>try(cases hm;done)
 case ptr b g off=>obtain⟨cs,y,hm⟩:=Qbg hm;simp only[VRel]at k;obtain⟨B,base,hp,rfl⟩:=k;obtain⟨C,e,E,G,i,A,z,d⟩:=H.here y hp;cases n with
  |none=>cases m:cs[off]? with|none=>simp[m,HM.opt,HM.run]at hm|some u=>simp only[m,HM.opt,HM.run,Zaa,Zal]at hm;obtain⟨rfl,rfl⟩:=hm;obtain⟨cv,f,q⟩:=Qdr off d m;rw[ZbF,ZaP]at f;exact⟨_,cv,rfl,by simp[loadVar,Qc1 l,Qeh i,f],q⟩
  |some n=>
   simp only at hm;split at hm;·rename_i r;simp only[HM.run,Zaa,Zal]at hm;obtain⟨rfl,rfl⟩:=hm;obtain⟨p,o⟩:=Qc2 l w;have hlen:=Qbn d;simp at hlen;refine⟨_,.agg ((C.toList.drop (base+off)).take n).toArray,rfl,by simp[loadVar,p,o,QbJ (P:=P) (n:=n) (o:=base+off) i (by omega)],?_⟩;simp only[VRel];refine⟨_,rfl,?_⟩;have:=QaK d off n r;simp_all
   simp[HM.run]at hm
 case fptr cs=>simp only[VRel]at k;obtain⟨B,off,C,e,E,rfl,F,i,d⟩:=k;cases n with
  |none=>cases cs with|nil=>simp[HM.opt,HM.run]at hm|cons u cs=>simp only[HM.opt,Zbn,HM.run,Zaa,Zal]at hm;obtain⟨rfl,rfl⟩:=hm;obtain⟨cv,f,q⟩:=Qdr 0 d (x:=u) rfl;rw[ZbF,ZaP]at f;exact⟨_,cv,rfl,by simp[loadVar,Qc1 l,Qeh i];simp_all,q⟩
  |some n=>
   simp only at hm;split at hm;·rename_i r;simp only[HM.run,Zaa,Zal]at hm;obtain⟨rfl,rfl⟩:=hm;obtain⟨p,o⟩:=Qc2 l w;have hlen:=Qbn d;simp at hlen;refine⟨_,.agg ((C.toList.drop off).take n).toArray,rfl,by simp[loadVar,p,o,QbJ (P:=P) (n:=n) (o:=off) i (by omega)],?_⟩;simp only[VRel];refine⟨_,rfl,?_⟩;have:=QaK d 0 n (by simpa using r);simp_all
   simp[HM.run]at hm
def resM(tmps:Array Value):ResultVar->Sem Value|.tmp t=>pure (tmps.getD t undef)|.cell a t=>do loadVar t (<-asAddr (tmps.getD a undef))
theorem QfF{c:Ctx (okc P)}(H:HRel c h w)(g:TRel c w T a):∀{rs:List ResultVar}{f:List SRes}{vs:List AV},okRes P rs f=true->resV T h f=some vs->∃b,(rs.mapM (resM a.tmps)).run P w=.ok b w/\VRels c w vs b
 |[],[],vs,_,d=>by simp_all[resV,VRels]|[],_::_,_,ho,_=>by simp[okRes]at ho|.tmp t::rs,[],_,ho,_=>by simp[okRes]at ho|.cell a t::rs,[],_,ho,_=>by simp[okRes]at ho|.tmp t::rs,.cell _ _::f,_,ho,_=>by simp[okRes]at ho|.cell a t::rs,.tmp _::f,_,ho,_=>by simp[okRes]at ho|.tmp t::rs,.tmp q::f,vs,ho,d=>by
  simp only[okRes,Zab,beq_iff_eq]at ho;obtain⟨rfl,ho⟩:=ho;simp only[resV]at d;split at d;·rename_i us i;cases d;obtain⟨b,h1,k⟩:=QfF H g ho i;exact⟨a.tmps.getD t undef::b,by simp_all[resM],by simp only[VRels];exact⟨_,_,rfl,g t,k⟩⟩
  cases d|.cell p t::rs,.cell y n::f,vs,ho,d=>by
  simp only[okRes,Zab,beq_iff_eq]at ho;obtain⟨⟨rfl,l⟩,ho⟩:=ho;simp only[resV]at d;split at d;·rename_i v x us o i;cases d;obtain⟨b,h1,k⟩:=QfF H g ho i;obtain⟨u,m,e,s,r⟩:=QlM H (g p) l o;exact⟨m::b,by simp_all[resM,asAddr],by simp only[VRels];grind⟩
  cases d
theorem Qf9{c:Ctx (okc P)}(H:HRel c h w)(i:TRel c w T a){fn}{f}(ho:okRes P fn.results.toList f=true)(l:resV T h f=some vs):∃cv,(results fn a.tmps).run P w=.ok cv w/\VRel c w (resOf vs) cv:=by
 obtain⟨g,h1,b⟩:=QfF H i ho l;have e:results fn a.tmps=(fn.results.toList.mapM (resM a.tmps))>>=fun vs=>pure (if h:vs.toArray.size=1 then vs.toArray[0]else Value.tuple vs.toArray):=by unfold results;rw[Array.mapM_eq_mapM_toList];simp only[bind_map_left];rfl
 rw[e];refine⟨_,by simp only[Sem.run_bind,h1,Result.andThen_ok,Sem.run_pure];rfl,?_⟩;match vs,b with|[],b=>simp only[VRels]at b;subst b;simp[resOf,VRel,VRels]|[v],b=>simp only[VRels]at b;obtain⟨cv,_,rfl,k,rfl⟩:=b;simpa[resOf]using k|v::u::vs,b=>have d:=b;simp only[VRels]at d;obtain⟨cv,_,rfl,_,m,_,rfl,_⟩:=d;simp only[resOf];rw[dif_neg (by simp)];simp only[VRel];exact⟨_,rfl,b⟩
theorem Qh2{c:Ctx (okc P)}:∀(xs:List AV)(vs:List Value)(k:Nat)(us:List Value)(i:Nat),VRels c w xs vs->us.length=k->VRel c w (lk (argT k xs) i) ((us++vs).getD i undef)
 |[],vs,k,us,i,_,_=>by simp[argT,lk,VRel]|x::xs,vs,k,us,i,h,d=>by
  simp only[VRels]at h;obtain⟨v,a,rfl,h1,b⟩:=h;simp only[argT,lk];by_cases e:k=i;·simp_all
  have :Nat.beq k i=false:=by simp_all[ZaJ]
  rw[this];have:=Qh2 xs a (k+1) (us++[v]) i b (by simp[d]);simp_all
theorem Qh3:∀(xs:List AV)(k i:Nat),k+xs.length<=i->lk (argT k xs) i=.any
 |[],_,_,_=>rfl|x::xs,k,i,h=>by
  simp only[ZaC]at h;simp only[argT,lk];have:Nat.beq k i=false:=by rw[ZaJ];simp;omega
  rw[this];exact Qh3 xs (k+1) i (by omega)
theorem Qcn(h:okFn P f sf=true):∃fn code,P.funcs[f]?=some fn/\fn.body=some code/\okCode P sf.n code sf.body=true/\fn.ntmps=sf.n/\okRes P fn.results.toList sf.res=true/\Callable P f:=by
 unfold okFn at h;split at h
 ·rename_i fn hf;split at h;·rename_i code hc;simp only[Zab,beq_iff_eq,Zbq]at h;obtain⟨⟨⟨h1,a⟩,b⟩,c⟩:=h;exact⟨fn,code,hf,hc,a▸h1,a,b,fn,hf,by simp[hc],c⟩
  cases h
 cases h
abbrev Ctx.rb{ok}(c:Ctx ok)(n:Nat):Ctx ok:={c with base:=n}
variable{c c0:Ctx (okc P)}
theorem Ext.base{ok}(c:Ctx ok)(w)(n):Ext c w (c.rb n) w:=⟨fun _ _ _ h=>h,fun _ h=>h,fun _ _ _ h=>h,fun _ C _ a h=>⟨C,a,h,rfl⟩⟩
theorem HRel.rebase{ok}{c:Ctx ok}(H:HRel c h w)(n):HRel (c.rb n) h w:=⟨H.fresh,H.later,fun b x a=>Zcg (c:=c) (c':=(c.rb n)) (Ext.base c w n) (fun f base d hp=>⟨H.owned ⟨x,a,rfl,d⟩ hp,rfl⟩) (H.blk b x a),H.inj,H.disj,H.inF,H.inO⟩
theorem VRel.rebase{ok}{c:Ctx ok}{v}(n)(h:VRel c w x v):VRel (c.rb n) w x v:=Zce (Ext.base c w n) _ _ h
theorem Evo.rebase{ok}{c c':Ctx ok}{w'}{n}(E:Evo (c.rb n) w c' w'):Evo c w (c'.rb (c.base)) w':=⟨E.os,E.tape,E.output,E.size,E.shape,E.keep,E.rho,E.frz,E.frzNew,E.own,rfl⟩
theorem HRel.mark{ok}{c:Ctx ok}(H:HRel c h w){D}(n:¬c.O D)(q:¬c.F D)(m:w.heap[D]?=some (.deferred (some []))):HRel c h (w.putObj D o)/\Ext c w c (w.putObj D o):=by
 have other:∀k,k≠D->(w.putObj D o).heap[k]?=w.heap[k]?:=fun k a=>World.putObj_heap_other a;have E:Ext c w c (w.putObj D o):=by
  refine⟨fun _ _ _ h=>h,fun _ h=>h,fun f p hf hc=>?_,fun f C e l hc=>⟨C,l,?_,rfl⟩⟩;·grind
  grind
 refine⟨⟨H.fresh,H.later,fun b x d=>Zcg E (fun f base i hp=>?_) (H.blk b x d),H.inj,H.disj,fun k a=>by rw[World.putObj_size];exact H.inF k a,fun k a=>by rw[World.putObj_size];exact H.inO k a⟩,E⟩;have g:=H.owned ⟨x,d,rfl,i⟩ hp;grind
theorem Qkn{fn}(r:w0.heap.size<=c.base)(fin:∀w,HRel c h w->TRel c w T a->Evo c0 w0 c w->∃v,(results fn a.tmps).run P w=.ok v w/\R (.returned v) w):∀(ds:List Deferred)(w:World),Marks c w ds->HRel c h w->TRel c w T a->Evo c0 w0 c w->LeavesInM Fence.wide 0 P fn a.tmps R ds .returning w
 |[],w,_,H,f,E=>fin w H f E|d::ds,w,⟨⟨D,h1,O,y,o,n,x⟩,m⟩,H,f,E=>by
  obtain⟨H',X⟩:=H.mark (o:=.deferred none) y o n;have other:∀k,k≠D->(w.putObj D (.deferred none)).heap[k]?=w.heap[k]?:=fun k F=>World.putObj_heap_other F;refine⟨by simp,.inl ⟨D,w.putObj D (.deferred none),by rw[h1],run_takeDeferred n,?_⟩⟩;refine Qkn r fin ds _ ?_ H' (fun i=>Zce X _ _ (f i)) ?_;·clear fin;induction ds with|nil=>show c.base<=_;rw[World.putObj_size];exact m|cons N ds A=>
   obtain⟨⟨D2,q,t,z,s,G,p⟩,K⟩:=m;refine⟨⟨D2,q,t,z,s,?_,p⟩,A (fun I l=>x I (List.mem_cons_of_mem _ l)) K⟩;rw[other D2 (fun e=>?_)];·exact G
   simp_all
  refine⟨E.os,E.tape,E.output,by grind[World.putObj_size],fun b C e B hc=>?_,fun b g J=>?_,E.rho,E.frz,E.frzNew,E.own,E.base⟩;·obtain⟨C',u,L,M⟩:=E.shape b C e B hc;grind
  rw[other b (by omega)];exact E.keep b g J
theorem Qko{R:List AV->Heap->Prop}(b:okFn P f sf=true)(t:args.length<=sf.n)(hw:W P sf.n sf.body (fun e B=>(e=.normal\/e=.ret)/\∃vs,resV B.T B.h sf.res=some vs/\R vs B.h) ⟨argT 0 args,h⟩){a}(H:HRel c h w)(l:VRels c w args a.toList):Calls P f a w fun e w'=>∃cv c' vs h',e=.returned cv/\Evo c w c' w'/\HRel c' h' w'/\VRel c' w' (resOf vs) cv/\R vs h':=by
 obtain⟨fn,code,hf,m,hc,u,p,_⟩:=Qcn b;have hlen:=QaG l;have hlen:args.length=a.size:=by omega
 refine(callsIn_wide (n:=0)).1 (callsIn_of_wp_marks hf m trivial ?_);refine hw code hc (c.rb (w.heap.size)) _ w ⟨H.rebase _,?_,?_,Zau _⟩ none (fun _=>rfl) _ ?_
 ·exact bwoEQ
 ·simp;omega
 intro e B c' d w' o S' E';obtain⟨he,vs,k,n⟩:=o;have out:LeavesInM Fence.wide 0 P fn d.tmps (fun e w'=>∃cv c' vs h',e=.returned cv/\Evo c w c' w'/\HRel c' h' w'/\VRel c' w' (resOf vs) cv/\R vs h') d.defers .returning w':=by refine Qkn (c0:=(c.rb (w.heap.size))) (w0:=w) (T:=B.T) (h:=B.h) (c:=c') (by rw[E'.base];simp_all) ?_ d.defers w' S'.defers S'.heap S'.tmps E';intro s H2 g E2;obtain⟨cv,q,r⟩:=Qf9 H2 g p k;exact⟨cv,q,cv,(c'.rb (c.base)),vs,B.h,rfl,E2.rebase,H2.rebase _,r.rebase _,n⟩
 rcases he with rfl|rfl;·exact out
 exact out
theorem HSpec.of_W(a:okFn P f sf=true)(m:args.length<=sf.n)(hw:W P sf.n sf.body (fun e B=>(e=.normal\/e=.ret)/\∃vs,resV B.T B.h sf.res=some vs/\resOf vs=v/\∀b,B.h.get b=h'.get b) ⟨argT 0 args,h⟩):HSpec P f args h v h':=by obtain⟨_,_,_,_,_,_,_,hc⟩:=Qcn a;refine⟨hc,fun c w d H n=>(Qko (R:=fun vs k=>resOf vs=v/\∀b,k.get b=h'.get b) a m hw H n).mono ?_⟩;rintro e o⟨i,g,vs,k,rfl,E,H',V,rfl,l⟩;exact⟨i,g,rfl,E,Qct l H',V⟩
theorem PSpec.of_W(d)(l:okFn P f sf=true)(x:args.length<=sf.n)(m:noRefs args=true)(o:noRef v=true)(hw:W P sf.n sf.body (fun e B=>(e=.normal\/e=.ret)/\∃vs,resV B.T B.h sf.res=some vs/\∃k,(frzH d (resOf vs)).run B.h=some (v,k)) ⟨argT 0 args,.e⟩):PSpec P f args v:=by
 obtain⟨_,_,_,_,_,_,_,hc⟩:=Qcn l;refine⟨m,o,.e,hc,fun c w n H m=>(Qko (R:=fun vs k=>∃q,(frzH d (resOf vs)).run k=some (v,q)) l x hw H m).mono ?_⟩;rintro e t⟨r,i,vs,k,rfl,E,H',V,q,u⟩;obtain⟨_,V'⟩:=QeX H' d _ _ _ _ V u;have s:∀b,i.F b\/i.O b->b<t.heap.size:=fun b a=>a.elim (H'.inF b) (H'.inO b);refine⟨r,only (fun b=>i.F b\/i.O b) c.base,rfl,?_,HRel.only s,Zch (c:=lent i) (c':=only (fun b=>i.F b\/i.O b) c.base) (fun _ h=>h) _ _ o V'⟩;refine⟨E.os,E.tape,E.output,E.size,E.shape,E.keep,fun b g p hp=>?_,fun b a=>.inl (E.frz b a),fun b a=>?_,fun b a=>a.elim,rfl⟩;·rw[H.fresh b rfl g]at hp;cases hp
 rcases a with a|a;·exact E.frzNew b a
 rcases E.own b a with h1|h1;·simp_all
 omega
end Go.AM
namespace Go.AM
variable{P:Program}
def RunF(P:Program)(base:Nat):Nat->List SOper->List FP->St->St->Prop|_,[],fs,A,C=>fs=[]/\A=C|i,s::r,fs,A,C=>∃f a v h1,fs=f::a/\StepV P (base+i) s A.T A.h v h1 f/\RunF P base (i+1) r a ⟨putD A.T s.dst v,h1⟩ C
theorem RunF.to_L{base}{sops}:∀(r pre:List SOper)(fs a:List FP)(A C:St),sops=pre++r->a.length=pre.length->RunF P base pre.length r fs A C->RunL P base sops (fun i=>(a++fs).getD i ⟨false,[],[]⟩) (List.range' pre.length r.length) A C
 |[],pre,fs,a,A,C,c,d,h=>by obtain⟨rfl,rfl⟩:=h;simp[RunL]|s::r,pre,fs,a,A,C,c,d,h=>by
  obtain⟨f,b,v,h1,rfl,k,g⟩:=h;rw[ZaC,Zb9];refine⟨⟨putD A.T s.dst v,h1⟩,⟨s,v,h1,by rw[c];simp,?_,rfl⟩,?_⟩;·simp_all
  have :=RunF.to_L (sops:=sops) r (pre++[s]) b (a++[f]) _ C (by simp[c]) (by simp[d]) (by simpa using g);simp_all
theorem W.regionF{N}{Q}{A C}{sops}{a}{dead}(base)(fs)(b:RunF P base 0 sops fs A C)(hp:(a.all fun p=>(fs.getD p.1 ⟨false,[],[]⟩).apart (fs.getD p.2 ⟨false,[],[]⟩))=true)(hQ:Q .normal ⟨rm C.T dead,C.h⟩):W P N (.region sops a dead) Q A:=by have h1:=RunF.to_L (P:=P) (base:=base) (sops:=sops) sops [] fs [] A C (by simp) rfl b;refine W.region base _ (by simpa[ZbR]using h1) ?_ hQ;simp_all
end Go.AM
namespace Go.AM
variable{P:Program}
variable{N:Nat}{b c:SCode}{Q:SX->St->Prop}{A:St}
def WL(P:Program)(N:Nat)(b:SCode)(Q:SX->St->Prop)(A:St):Prop:=∀f,okCode P N f b=true->∀(c:Ctx (okc P))(a:Act)(w:World),SRel N c A a w->∀(ro:Option Nat),(b.rf=true->ro=none)->∀(Q':Exit->Act->World->Prop),(∀e B g h d,Q e B->SRel N g B h d->Evo c w g d->Q' e.toExit h d)->Lp ro P f Q' a w
theorem WL.loop(h:WL P N b Q A):W P N (.loop b) Q A:=by intro code d c a w S ro f Q' g;cases code<;>simp only[okCode,Zar]at d;exact(h _ d c a w S ro (fun e=>f (by simp[SCode.rf,e])) Q' g).loop
theorem WL.round(h:W P N b (fun e B=>match e with|.normal=>WL P N b Q B|e=>Q e B) A):WL P N b Q A:=by intro o f c a w S ro d Q' k;refine Lp.round (h o f c a w S ro d _ ?_);intro e B m l n g S2 E2;cases e with|normal=>exact g o f m l n S2 ro d Q' fun s B3 p r t q S3 E3=>k s B3 p r t q S3 (E2.trans E3)|ret=>exact k .ret B m l n g S2 E2|exit i=>exact k (.exit i) B m l n g S2 E2
def WX(P:Program)(N:Nat)(c:SCode)(Q:SX->St->Prop)(A:St):Prop:=W P N c Q A/\∀b,c=.loop b->WL P N b Q A
theorem WX.of(h:W P N c Q A)(hc:∀b,c≠.loop b):WX P N c Q A:=⟨h,fun b e=>absurd e (hc b)⟩
end Go.AM
