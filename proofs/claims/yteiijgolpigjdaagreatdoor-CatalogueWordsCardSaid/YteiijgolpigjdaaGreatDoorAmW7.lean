/- A part of the proof of CatalogueWordsCardSaid: lemmas on the way (AmL, AmM, AmN). Conditions: none of ours. -/
import Derived.RangeFuncLeaves
import Derived.Test.YteiijgolpigjdaaGreatDoorAmW6
set_option linter.unusedSectionVars false
set_option maxHeartbeats 32000000
set_option maxRecDepth 100000
set_option linter.unusedVariables false
set_option linter.unusedSimpArgs false
namespace Go.AM
variable {P:Program}
inductive SRes where
 |tmp (t:Nat)
 |cell (a:Nat) (n:Option Nat)
 deriving Inhabited
structure SFn where
 n:Nat
 res:List SRes
 body:SCode
def argT:Nat->List AV->Tmps
 |_,[]=>[]
 |k,x::xs=>(k,x)::argT (k+1) xs
def resV (T:Tmps) (h:Heap):List SRes->Option (List AV)
 |[]=>some []
 | .tmp t::r=>match resV T h r with
  |some vs=>some (lk T t::vs)
  |none=>none
 | .cell a n::r=>match (aLoad n (lk T a)).run h,resV T h r with
  |some (v,_),some vs=>some (v::vs)
  |_,_=>none
def resOf:List AV->AV
 |[v]=>v
 |vs=> .tup vs
def okRes (P:Program):List ResultVar->List SRes->Bool
 |[],[]=>true
 | .tmp t::r,.tmp t'::r'=>t==t'&&okRes P r r'
 | .cell a t::r,.cell a' n::r'=>a==a'&&rowT P t n&&okRes P r r'
 |_,_=>false
def okFn (P:Program) (f:Nat) (sf:SFn):Bool:=
 match P.funcs[f]? with
 |some fn=>(match fn.body with
  |some code=>okCode P fn.ntmps code sf.body&&fn.ntmps==sf.n&&okRes P fn.results.toList sf.res&& !(fn.name== "runtime.NumGoroutine")
  |none=>false)
 |none=>false
theorem QjV {c:Ctx (okc P)} {w:World} {h:Heap} {t:TypeId} {n:Option Nat} {x v:AV} {cx:Value} {h':Heap} (H:HRel c h w) (hx:VRel c w x cx) (ht:rowT P t n=true)
  (hm:(aLoad n x).run h=some (v,h')):∃a cv,cx= .pointer (some a)/\(loadVar t a).run P w= .ok cv w/\VRel c w v cv:=by
 cases x<;>simp only[aLoad,HM.run]at hm<;>try (cases hm;done)
 case ptr b g off=>
  obtain⟨cs,hb,hm⟩:=Qbg hm
  simp only[VRel]at hx
  obtain⟨cb,base,hp,rfl⟩:=hx
  obtain⟨C,e,fr,hO,hC,hfr,hbs,hpre⟩:=H.here hb hp
  cases n with
  | none =>
   cases hv:cs[off]? with
   |none=>simp[hv,HM.opt,HM.run]at hm
   |some u=>
    simp only[hv,HM.opt,HM.run,Option.some.injEq,Prod.mk.injEq]at hm
    obtain⟨rfl,rfl⟩:=hm
    obtain⟨cv,hcv,hr⟩:=Qda off hpre hv
    rw[List.getElem?_drop,Array.getElem?_toList]at hcv
    exact⟨_,cv,rfl,by simp[loadVar,QcN ht,QdI hC,hcv],hr⟩
  | some n =>
   simp only at hm
   split at hm
   ·rename_i hl
    simp only[HM.run,Option.some.injEq,Prod.mk.injEq]at hm
    obtain⟨rfl,rfl⟩:=hm
    obtain⟨t1,t2⟩:=QcO ht w
    have hlen:=Qbk hpre
    simp at hlen
    refine⟨_,.agg ((C.toList.drop (base+off)).take n).toArray,rfl,by simp[loadVar,t1,t2,QbB (P:=P) (n:=n) (o:=base+off) hC (by omega)],?_⟩
    simp only[VRel]
    refine⟨_,rfl,?_⟩
    have:=QaF hpre off n hl
    simp_all
   ·simp[HM.run]at hm
 case fptr cs=>
  simp only[VRel]at hx
  obtain⟨cb,off,C,e,fr,rfl,hF,hC,hpre⟩:=hx
  cases n with
  | none =>
   cases cs with
   |nil=>simp[HM.opt,HM.run]at hm
   |cons u cs=>
    simp only[HM.opt,List.head?_cons,HM.run,Option.some.injEq,Prod.mk.injEq]at hm
    obtain⟨rfl,rfl⟩:=hm
    obtain⟨cv,hcv,hr⟩:=Qda 0 hpre (x:=u) rfl
    rw[List.getElem?_drop,Array.getElem?_toList]at hcv
    exact⟨_,cv,rfl,by simp[loadVar,QcN ht,QdI hC];simp_all,hr⟩
  | some n =>
   simp only at hm
   split at hm
   ·rename_i hl
    simp only[HM.run,Option.some.injEq,Prod.mk.injEq]at hm
    obtain⟨rfl,rfl⟩:=hm
    obtain⟨t1,t2⟩:=QcO ht w
    have hlen:=Qbk hpre
    simp at hlen
    refine⟨_,.agg ((C.toList.drop off).take n).toArray,rfl,by simp[loadVar,t1,t2,QbB (P:=P) (n:=n) (o:=off) hC (by omega)],?_⟩
    simp only[VRel]
    refine⟨_,rfl,?_⟩
    have:=QaF hpre 0 n (by simpa using hl)
    simp_all
   ·simp[HM.run]at hm
def resM (tmps:Array Value):ResultVar->Sem Value
 | .tmp t=>pure (tmps.getD t undef)
 | .cell a t=>do loadVar t (<-asAddr (tmps.getD a undef))
theorem QeT {c:Ctx (okc P)} {w:World} {T:Tmps} {h:Heap} {a:Act} (H:HRel c h w) (hT:TRel c w T a):∀{rs:List ResultVar} {ss:List SRes} {vs:List AV},okRes P rs ss=true->resV T h ss=some vs->
  ∃cvs,(rs.mapM (resM a.tmps)).run P w= .ok cvs w/\VRels c w vs cvs
 |[],[],vs,_,hr=>by
  simp_all [resV,VRels]
 |[],_::_,_,ho,_=>by simp[okRes]at ho
 | .tmp t::rs,[],_,ho,_=>by simp[okRes]at ho
 | .cell a t::rs,[],_,ho,_=>by simp[okRes]at ho
 | .tmp t::rs,.cell _ _::ss,_,ho,_=>by simp[okRes]at ho
 | .cell a t::rs,.tmp _::ss,_,ho,_=>by simp[okRes]at ho
 | .tmp t :: rs, .tmp t' :: ss, vs, ho, hr => by
  simp only[okRes,Bool.and_eq_true,beq_iff_eq]at ho
  obtain⟨rfl,ho⟩:=ho
  simp only[resV]at hr
  split at hr
  ·rename_i us hu
   cases hr
   obtain⟨cvs,h1,h2⟩:=QeT H hT ho hu
   exact⟨a.tmps.getD t undef::cvs,by simp_all [resM],by simp only[VRels];exact⟨_,_,rfl,hT t,h2⟩⟩
  ·cases hr
 | .cell p t :: rs, .cell p' n :: ss, vs, ho, hr => by
  simp only[okRes,Bool.and_eq_true,beq_iff_eq]at ho
  obtain⟨⟨rfl,ht⟩,ho⟩:=ho
  simp only[resV]at hr
  split at hr
  ·rename_i v h' us hl hu
   cases hr
   obtain⟨cvs,h1,h2⟩:=QeT H hT ho hu
   obtain⟨ad,cv,e,k1,k2⟩:=QjV H (hT p) ht hl
   exact⟨cv::cvs,by simp_all [resM,asAddr],by simp only[VRels];grind⟩
  ·cases hr
theorem Qfk {c:Ctx (okc P)} {w:World} {T:Tmps} {h:Heap} {a:Act} (H:HRel c h w) (hT:TRel c w T a) {fn:Func} {ss:List SRes} {vs:List AV} (ho:okRes P fn.results.toList ss=true) (hr:resV T h ss=some vs):
  ∃cv,(results fn a.tmps).run P w= .ok cv w/\VRel c w (resOf vs) cv:=by
 obtain⟨cvs,h1,h2⟩:=QeT H hT ho hr
 have e:results fn a.tmps=(fn.results.toList.mapM (resM a.tmps))>>=fun vs=>pure (if h:vs.toArray.size=1 then vs.toArray[0]else Value.tuple vs.toArray):=by
  unfold results
  rw[Array.mapM_eq_mapM_toList]
  simp only[bind_map_left]
  rfl
 rw[e]
 refine⟨_,by simp only[Sem.run_bind,h1,Result.andThen_ok,Sem.run_pure];rfl,?_⟩
 match vs,h2 with
 |[],h2=>simp only[VRels]at h2;subst h2;simp[resOf,VRel,VRels]
 |[v],h2=>
  simp only[VRels]at h2
  obtain⟨cv,_,rfl,h3,rfl⟩:=h2
  simpa[resOf]using h3
 |v::u::vs,h2=>
  have h2':=h2
  simp only[VRels]at h2'
  obtain⟨cv,_,rfl,_,cu,_,rfl,_⟩:=h2'
  simp only[resOf]
  rw[dif_neg (by simp)]
  simp only[VRel]
  exact⟨_,rfl,h2⟩
theorem Qg7 {c:Ctx (okc P)} {w:World}:∀(xs:List AV) (vs:List Value) (k:Nat) (us:List Value) (i:Nat),VRels c w xs vs->us.length=k->
  VRel c w (lk (argT k xs) i) ((us++vs).getD i undef)
 |[],vs,k,us,i,_,_=>by simp[argT,lk,VRel]
 | x :: xs, vs, k, us, i, h, hk => by
  simp only[VRels]at h
  obtain⟨v,vs',rfl,h1,h2⟩:=h
  simp only[argT,lk]
  by_cases e:k=i
  ·simp_all
  ·have : Nat.beq k i = false := by simp_all [Bool.eq_false_iff]
   rw[this]
   have:=Qg7 xs vs' (k+1) (us++[v]) i h2 (by simp[hk])
   simp_all
theorem Qg8:∀(xs:List AV) (k i:Nat),k+xs.length<=i->lk (argT k xs) i= .any
 |[],_,_,_=>rfl
 |x::xs,k,i,h=>by
  simp only[List.length_cons]at h
  simp only[argT,lk]
  have:Nat.beq k i=false:=by rw[Bool.eq_false_iff];simp;omega
  rw[this]
  exact Qg8 xs (k+1) i (by omega)
theorem Qb8 {f:Nat} {sf:SFn} (h:okFn P f sf=true):∃fn code,P.funcs[f]?=some fn/\fn.body=some code/\okCode P sf.n code sf.body=true/\fn.ntmps=sf.n/\okRes P fn.results.toList sf.res=true/\Callable P f:=by
 unfold okFn at h
 split at h
 ·rename_i fn hf
  split at h
  ·rename_i code hc
   simp only[Bool.and_eq_true,beq_iff_eq,Bool.not_eq_true']at h
   obtain⟨⟨⟨h1,h2⟩,h3⟩,h4⟩:=h
   exact⟨fn,code,hf,hc,h2▸h1,h2,h3,fn,hf,by simp[hc],h4⟩
  ·cases h
 ·cases h
abbrev Ctx.rb {ok:Okc} (c:Ctx ok) (n:Nat):Ctx ok:={c with base:=n}
theorem Ext.base {ok:Okc} (c:Ctx ok) (w:World) (n:Nat):Ext c w (c.rb n) w:=
 ⟨fun _ _ _ h=>h,fun _ h=>h,fun _ _ _ h=>h,fun _ C _ fr h=>⟨C,fr,h,rfl⟩⟩
theorem HRel.rebase {ok:Okc} {c:Ctx ok} {h:Heap} {w:World} (H:HRel c h w) (n:Nat):HRel (c.rb n) h w:=
 ⟨H.fresh,H.later,fun b x hx=>BRel.mono (c:=c) (c':=(c.rb n)) (Ext.base c w n) (fun cb base hd hp=>⟨H.owned ⟨x,hx,rfl,hd⟩ hp,rfl⟩) (H.blk b x hx),H.inj,H.disj,H.inF,H.inO⟩
theorem VRel.rebase {ok:Okc} {c:Ctx ok} {w:World} {x:AV} {v:Value} (n:Nat) (h:VRel c w x v):VRel (c.rb n) w x v:=VRel.mono (Ext.base c w n) _ _ h
theorem Evo.rebase {ok:Okc} {c c':Ctx ok} {w w':World} {n:Nat} (E:Evo (c.rb n) w c' w'):Evo c w (c'.rb (c.base)) w':=
 ⟨E.os,E.tape,E.output,E.size,E.shape,E.keep,E.rho,E.frz,E.frzNew,E.own,rfl⟩
theorem HRel.mark {ok:Okc} {c:Ctx ok} {h:Heap} {w:World} (H:HRel c h w) {D:Nat} {o:Obj} (hO:¬c.O D) (hF:¬c.F D) (hD:w.heap[D]?=some (.deferred (some []))):
  HRel c h (w.putObj D o)/\Ext c w c (w.putObj D o):=by
 have other:∀k,k≠D->(w.putObj D o).heap[k]?=w.heap[k]?:=fun k hk=>World.putObj_heap_other hk
 have E:Ext c w c (w.putObj D o):=by
  refine⟨fun _ _ _ h=>h,fun _ h=>h,fun cb ob hf hc=>?_,fun cb C e fr hc=>⟨C,fr,?_,rfl⟩⟩
  ·grind
  grind
 refine⟨⟨H.fresh,H.later,fun b x hx=>BRel.mono E (fun cb base hd hp=>?_) (H.blk b x hx),H.inj,H.disj,fun k hk=>by rw[World.putObj_size];exact H.inF k hk,fun k hk=>by rw[World.putObj_size];exact H.inO k hk⟩,E⟩
 have hO':=H.owned ⟨x,hx,rfl,hd⟩ hp
 grind
theorem QiN {c0:Ctx (okc P)} {w0:World} {fn:Func} {a:Act} {T:Tmps} {h:Heap} {c:Ctx (okc P)} {R:Ending->World->Prop} (hb:w0.heap.size<=c.base)
  (fin:∀w,HRel c h w->TRel c w T a->Evo c0 w0 c w->∃v,(results fn a.tmps).run P w= .ok v w/\R (.returned v) w):
  ∀(ds:List Deferred) (w:World),Marks c w ds->HRel c h w->TRel c w T a->Evo c0 w0 c w->LeavesInM Fence.wide 0 P fn a.tmps R ds .returning w
 |[],w,_,H,ht,E=>fin w H ht E
 | d :: ds, w, ⟨⟨D, h1, h2, h3, h4, h5, h6⟩, hr⟩, H, ht, E => by
  obtain⟨H',X⟩:=H.mark (o:= .deferred none) h3 h4 h5
  have other:∀k,k≠D->(w.putObj D (.deferred none)).heap[k]?=w.heap[k]?:=fun k hk=>World.putObj_heap_other hk
  refine⟨by simp,.inl ⟨D,w.putObj D (.deferred none),by rw[h1],run_takeDeferred h5,?_⟩⟩
  refine QiN hb fin ds _ ?_ H' (fun i=>VRel.mono X _ _ (ht i)) ?_
  ·clear fin
   induction ds with
   |nil=>show c.base<=_;rw[World.putObj_size];exact hr
   |cons d2 ds ih=>
    obtain⟨⟨D2,k1,k2,k3,k4,k5,k6⟩,kr⟩:=hr
    refine⟨⟨D2,k1,k2,k3,k4,?_,k6⟩,ih (fun d' hd'=>h6 d' (List.mem_cons_of_mem _ hd')) kr⟩
    rw[other D2 (fun e=>?_)]
    ·exact k5
    ·simp_all
  ·refine ⟨E.os, E.tape, E.output, by grind [World.putObj_size], fun cb C e fr hc => ?_, fun cb hlt hO => ?_, E.rho, E.frz, E.frzNew, E.own, E.base⟩
   ·obtain ⟨C', fr', g1, g2⟩ := E.shape cb C e fr hc
    grind
   ·rw[other cb (by omega)];exact E.keep cb hlt hO
theorem QiO {f:Nat} {sf:SFn} {args:List AV} {h:Heap} {R:List AV->Heap->Prop} (hok:okFn P f sf=true) (hl:args.length<=sf.n)
  (hw:W P sf.n sf.body (fun e B=>(e= .normal\/e= .ret)/\∃vs,resV B.T B.h sf.res=some vs/\R vs B.h) ⟨argT 0 args,h⟩)
  {c:Ctx (okc P)} {w:World} {cargs:Array Value} (H:HRel c h w) (ha:VRels c w args cargs.toList):
  Calls P f cargs w fun e w'=>∃cv c' vs h',e= .returned cv/\Evo c w c' w'/\HRel c' h' w'/\VRel c' w' (resOf vs) cv/\R vs h':=by
 obtain⟨fn,code,hf,hb,hc,hn,hr,_⟩:=Qb8 hok
 have hlen:=QaC ha
 have hlen:args.length=cargs.size:=by omega
 refine(callsIn_wide (n:=0)).1 (callsIn_of_wp_marks hf hb trivial ?_)
 refine hw code hc (c.rb (w.heap.size)) _ w ⟨H.rebase _,?_,?_,Nat.le_refl _⟩ none (fun _=>rfl) _ ?_
 ·intro i
  refine VRel.rebase _ ?_
  by_cases hi:i<args.length
  ·have := Qg7 args cargs.toList 0 [] i ha rfl
   simp only[List.nil_append]at this
   have e:(cargs++Array.replicate (fn.ntmps-cargs.size) undef).getD i undef=cargs.toList.getD i undef:=by
    simp_all [Array.getElem?_append_left]
   simp_all
  simp_all [Qg8,VRel]
 ·simp;omega
 ·intro e B c' a' w' hq S' E'
  obtain⟨he,vs,hvs,hR⟩:=hq
  have out:LeavesInM Fence.wide 0 P fn a'.tmps (fun e w'=>∃cv c' vs h',e= .returned cv/\Evo c w c' w'/\HRel c' h' w'/\VRel c' w' (resOf vs) cv/\R vs h') a'.defers .returning w':=by
   refine QiN (c0:=(c.rb (w.heap.size))) (w0:=w) (T:=B.T) (h:=B.h) (c:=c') (by rw[E'.base];simp_all) ?_ a'.defers w' S'.defers S'.heap S'.tmps E'
   intro w2 H2 ht2 E2
   obtain⟨cv,k1,k2⟩:=Qfk H2 ht2 hr hvs
   exact⟨cv,k1,cv,(c'.rb (c.base)),vs,B.h,rfl,E2.rebase,H2.rebase _,k2.rebase _,hR⟩
  rcases he with rfl|rfl
  ·exact out
  ·exact out
theorem HSpec.of_W {f:Nat} {sf:SFn} {args:List AV} {h:Heap} {v:AV} {h':Heap} (hok:okFn P f sf=true) (hl:args.length<=sf.n)
  (hw:W P sf.n sf.body (fun e B=>(e= .normal\/e= .ret)/\∃vs,resV B.T B.h sf.res=some vs/\resOf vs=v/\∀b,B.h.get b=h'.get b) ⟨argT 0 args,h⟩):HSpec P f args h v h':=by
 obtain⟨_,_,_,_,_,_,_,hc⟩:=Qb8 hok
 refine⟨hc,fun c w cargs H ha=>(QiO (R:=fun vs k=>resOf vs=v/\∀b,k.get b=h'.get b) hok hl hw H ha).mono ?_⟩
 rintro e w' ⟨cv,c',vs,k,rfl,E,H',V,rfl,hk⟩
 exact⟨cv,c',rfl,E,Qcd hk H',V⟩
theorem PSpec.of_W {f:Nat} {sf:SFn} {args:List AV} {v:AV} (d:Nat) (hok:okFn P f sf=true) (hl:args.length<=sf.n) (ha:noRefs args=true) (hv:noRef v=true)
  (hw:W P sf.n sf.body (fun e B=>(e= .normal\/e= .ret)/\∃vs,resV B.T B.h sf.res=some vs/\∃k,(frzH d (resOf vs)).run B.h=some (v,k)) ⟨argT 0 args,.e⟩):PSpec P f args v:=by
 obtain⟨_,_,_,_,_,_,_,hc⟩:=Qb8 hok
 refine⟨ha,hv,.e,hc,fun c w cargs H ha=>(QiO (R:=fun vs k=>∃k',(frzH d (resOf vs)).run k=some (v,k')) hok hl hw H ha).mono ?_⟩
 rintro e w' ⟨cv,c',vs,k,rfl,E,H',V,k',hk⟩
 obtain⟨_,V'⟩:=Qef H' d _ _ _ _ V hk
 have hF:∀b,c'.F b\/c'.O b->b<w'.heap.size:=fun b hb=>hb.elim (H'.inF b) (H'.inO b)
 refine⟨cv,only (fun b=>c'.F b\/c'.O b) c.base,rfl,?_,HRel.only hF,VRel.noRef (c:=lent c') (c':=only (fun b=>c'.F b\/c'.O b) c.base) (fun _ h=>h) _ _ hv V'⟩
 refine⟨E.os,E.tape,E.output,E.size,E.shape,E.keep,fun b g p hp=>?_,fun b hb=> .inl (E.frz b hb),fun b hb=>?_,fun b hb=>hb.elim,rfl⟩
 ·rw[H.fresh b rfl g]at hp;cases hp
 ·rcases hb with hb | hb
  ·exact E.frzNew b hb
  ·rcases E.own b hb with h1 | h1
   ·simp_all
   omega
end Go.AM
namespace Go.AM
variable {P:Program}
def RunF (P:Program) (base:Nat):Nat->List SOper->List FP->St->St->Prop
 |_,[],fs,A,C=>fs=[]/\A=C
 |i,s::r,fs,A,C=>∃f fs' v h1,fs=f::fs'/\StepV P (base+i) s A.T A.h v h1 f/\RunF P base (i+1) r fs' ⟨putD A.T s.dst v,h1⟩ C
theorem RunF.to_L {base:Nat} {sops:List SOper}:∀(r pre:List SOper) (fs fpre:List FP) (A C:St),sops=pre++r->fpre.length=pre.length->RunF P base pre.length r fs A C->
    RunL P base sops (fun i=>(fpre++fs).getD i ⟨false,[],[]⟩) (List.range' pre.length r.length) A C
  | [], pre, fs, fpre, A, C, hs, hl, h => by
    obtain⟨rfl,rfl⟩:=h
    simp[RunL]
  | s :: r, pre, fs, fpre, A, C, hs, hl, h => by
    obtain⟨f,fs',v,h1,rfl,hv,hr⟩:=h
    rw[List.length_cons,List.range'_succ]
    refine⟨⟨putD A.T s.dst v,h1⟩,⟨s,v,h1,by rw[hs];simp,?_,rfl⟩,?_⟩
    · simp_all
    · have := RunF.to_L (sops := sops) r (pre ++ [s]) fs' (fpre ++ [f]) _ C (by simp [hs]) (by simp [hl]) (by simpa using hr)
      simp_all
theorem W.regionF {N:Nat} {Q:SX->St->Prop} {A C:St} {sops:List SOper} {pairs:List (Nat×Nat)} {dead:List Nat} (base:Nat) (fs:List FP) (hr:RunF P base 0 sops fs A C)
  (hp:(pairs.all fun p=>(fs.getD p.1 ⟨false,[],[]⟩).apart (fs.getD p.2 ⟨false,[],[]⟩))=true) (hQ:Q .normal ⟨rm C.T dead,C.h⟩):W P N (.region sops pairs dead) Q A:=by
 have h1:=RunF.to_L (P:=P) (base:=base) (sops:=sops) sops [] fs [] A C (by simp) rfl hr
 refine W.region base _ (by simpa[List.range_eq_range']using h1) ?_ hQ
 simp_all
end Go.AM
namespace Go.AM
variable {P:Program}
def WL (P:Program) (N:Nat) (b:SCode) (Q:SX->St->Prop) (A:St):Prop:=
 ∀cb,okCode P N cb b=true->∀(c:Ctx (okc P)) (a:Act) (w:World),SRel N c A a w->∀(ro:Option Nat),(b.rf=true->ro=none)->∀(Q':Exit->Act->World->Prop),
  (∀e B c' a' w',Q e B->SRel N c' B a' w'->Evo c w c' w'->Q' e.toExit a' w')->Lp ro P cb Q' a w
theorem WL.loop {N:Nat} {b:SCode} {Q:SX->St->Prop} {A:St} (h:WL P N b Q A):W P N (.loop b) Q A:=by
 intro code hok c a w S ro hro Q' hQ
 cases code<;>simp only[okCode,Bool.false_eq_true]at hok
 exact(h _ hok c a w S ro (fun e=>hro (by simp[SCode.rf,e])) Q' hQ).loop
theorem WL.round {N:Nat} {b:SCode} {Q:SX->St->Prop} {A:St} (h:W P N b (fun e B=>match e with| .normal=>WL P N b Q B|e=>Q e B) A):WL P N b Q A:=by
 intro cb hok c a w S ro hro Q' hQ
 refine Lp.round (h cb hok c a w S ro hro _ ?_)
 intro e B c2 a2 w2 hq S2 E2
 cases e with
 |normal=>exact hq cb hok c2 a2 w2 S2 ro hro Q' fun e3 B3 c3 a3 w3 h3 S3 E3=>hQ e3 B3 c3 a3 w3 h3 S3 (E2.trans E3)
 |ret=>exact hQ .ret B c2 a2 w2 hq S2 E2
 |exit i=>exact hQ (.exit i) B c2 a2 w2 hq S2 E2
def WX (P:Program) (N:Nat) (c:SCode) (Q:SX->St->Prop) (A:St):Prop:=
 W P N c Q A/\∀b,c= .loop b->WL P N b Q A
theorem WX.of {N:Nat} {c:SCode} {Q:SX->St->Prop} {A:St} (h:W P N c Q A) (hc:∀b,c≠ .loop b):WX P N c Q A:=⟨h,fun b e=>absurd e (hc b)⟩
end Go.AM
