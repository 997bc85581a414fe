/- A part of the proof of SynthesisCellsCardSaid: lemmas on the way (AmC, AmD). Conditions: none of ours. -/
import Derived.Laws.Tables
import Derived.Test.YtmoanlnleppcpaaGreatDoorAmY0
set_option linter.unusedSectionVars false
set_option maxHeartbeats 32000000
set_option maxRecDepth 100000
set_option linter.unusedVariables false
set_option linter.unusedSimpArgs false
namespace Go.AM
variable{P:Program}{ok:Okc}{c:Ctx ok}{w:World}{h:Heap}
theorem QaC:∀{xs:List AV}{vs:List Value},VRels c w xs vs->xs.length=vs.length|[],vs,a=>by simp_all[VRels]|x::xs,vs,a=>by simp only[VRels]at a;obtain⟨v,f,rfl,_,d⟩:=a;simp[QaC d]
theorem QaR:∀{xs:List AV}{vs:List Value},VRels c w xs vs->VPre c w xs vs|[],vs,d=>by simp[VPre]|x::xs,vs,d=>by simp only[VRels]at d;obtain⟨v,a,rfl,h1,f⟩:=d;simp only[VPre];exact⟨v,a,rfl,h1,QaR f⟩
theorem Qa7:∀{xs:List AV}{vs:List Value},VPre c w xs vs->xs.length<=vs.length|[],vs,a=>by simp|x::xs,vs,a=>by simp only[VPre]at a;obtain⟨v,f,rfl,_,d⟩:=a;have:=Qa7 d;simp;omega
theorem Qc1:∀{xs:List AV}{vs:List Value}(i:Nat){x:AV},VPre c w xs vs->xs[i]?=some x->∃v,vs[i]?=some v/\VRel c w x v|[],vs,i,x,a,hi=>by simp at hi|y::xs,vs,i,x,a,hi=>by simp only[VPre]at a;obtain⟨v,f,rfl,h1,d⟩:=a;cases i with|zero=>simp at hi;subst hi;exact⟨v,by simp,h1⟩|succ i=>simp at hi;simpa using Qc1 i d hi
theorem Qcg{xs:List AV}{vs:List Value}(i:Nat){x:AV}(a:VRels c w xs vs)(hi:xs[i]?=some x):∃v,vs[i]?=some v/\VRel c w x v:=Qc1 i (QaR a) hi
theorem Qa5:∀(n:Nat){xs:List AV}{vs:List Value},VPre c w xs vs->VPre c w (xs.drop n) (vs.drop n)|0,xs,vs,a=>by simpa using a|n+1,[],vs,a=>by simp[VPre]|n+1,x::xs,vs,a=>by simp only[VPre]at a;obtain⟨v,f,rfl,h1,d⟩:=a;simpa using Qa5 n d
theorem QbW:∀(n:Nat){xs:List AV}{vs:List Value},VPre c w xs vs->VPre c w (xs.take n) vs|0,xs,vs,a=>by simp[VPre]|n+1,[],vs,a=>by simp[VPre]|n+1,x::xs,vs,a=>by simp only[VPre]at a;obtain⟨v,d,rfl,h1,f⟩:=a;simp only[ZaY,VPre];exact⟨v,d,rfl,h1,QbW n f⟩
theorem Qeo:∀{xs:List AV}{vs:List Value},VPre c w xs vs->VRels c w xs (vs.take xs.length)|[],vs,a=>by simp[VRels]|x::xs,vs,a=>by simp only[VPre]at a;obtain⟨v,f,rfl,h1,d⟩:=a;simp only[ZaF,ZaY,VRels];exact⟨v,_,rfl,h1,Qeo d⟩
theorem Qey:∀{xs ys:List AV}{us vs:List Value},VRels c w xs us->VPre c w ys vs->VPre c w (xs++ys) (us++vs)|[],ys,us,vs,h1,a=>by simp_all[VRels]|x::xs,ys,us,vs,h1,a=>by simp only[VRels]at h1;obtain⟨v,f,rfl,g,d⟩:=h1;simp only[ZaC,VPre];exact⟨v,_,rfl,g,Qey d a⟩
theorem Qbl:∀{xs ys:List AV}{us vs:List Value},VRels c w xs us->VRels c w ys vs->VRels c w (xs++ys) (us++vs)|[],ys,us,vs,h1,a=>by simp_all[VRels]|x::xs,ys,us,vs,h1,a=>by simp only[VRels]at h1;obtain⟨v,f,rfl,g,d⟩:=h1;simp only[ZaC,VRels];exact⟨v,_,rfl,g,Qbl d a⟩
theorem Qhg{xs:List AV}{us vs:List Value}(h1:VRels c w xs us):VPre c w xs (us++vs):=by have:=Qey (ys:=[]) (vs:=vs) h1 (by simp[VPre]);simp_all
theorem QaE{xs:List AV}{vs:List Value}(a:VPre c w xs vs)(off n:Nat)(d:off+n<=xs.length):VRels c w ((xs.drop off).take n) ((vs.drop off).take n):=by have h1:=QbW n (Qa5 off a);have f:=Qeo h1;grind
theorem QcT{x:AV}{v:Value}(a:VRel c w x v)(ho:(x.cells.all AV.one)=true):VRels c w x.cells v.cells.toList/\∀u∈v.cells.toList,u.oneCell'=true:=by
 have one:∀(x:AV)(v:Value),VRel c w x v->x.one=true->v.oneCell'=true/\(∀cs,x≠.agg cs):=by intro x v a ho;cases x<;>simp only[AV.one]at ho<;>first|(exact absurd ho (by decide))|(simp only[VRel]at a;refine⟨?_,fun cs=>by simp⟩;first|(subst a;rfl)|(rcases a with⟨_,_,_,rfl⟩|⟨_,_,_,_,_,_,_,_,rfl,_⟩<;>rfl)|(rcases a with⟨⟨_,rfl⟩,_⟩|⟨_,_,_,_,_,_,rfl,_⟩<;>rfl)|(obtain⟨_,_,_,rfl⟩:=a;rfl)|(obtain⟨_,_,_,_,_,rfl,_⟩:=a;rfl)|(obtain⟨_,_,_,rfl,_⟩:=a;rfl)|(obtain⟨_,rfl⟩:=a;rfl)|(obtain⟨_,_,rfl⟩:=a;rfl)|(obtain⟨_,_,rfl,_⟩:=a;rfl)|(obtain⟨_,rfl,_⟩:=a;rfl)|(obtain⟨⟨_,_,_,h1,_⟩,_⟩:=a;rcases h1 with rfl|⟨_,_,rfl⟩<;>rfl))
 by_cases d:∃cs,x=.agg cs
 ·obtain⟨cs,rfl⟩:=d;simp only[VRel]at a;obtain⟨l,rfl,a⟩:=a;refine⟨by grind[AV.cells,Value.cells],fun u h=>?_⟩;simp only[Value.cells]at h;obtain⟨i,hi,rfl⟩:=ZbZ.1 h;have m:=QaC a;have f:i<cs.length:=by omega
  obtain⟨v,j,k⟩:=Qcg i a (Zal f);grind[AV.cells]
 have e:x.cells=[x]:=by cases x<;>first|rfl|exact absurd ⟨_,rfl⟩ d
 rw[e]at ho⊢;have g:x.one=true:=by simpa using ho
 obtain⟨h1,n⟩:=one x v a g;have ev:v.cells=#[v]:=by cases v<;>first|rfl|simp[Value.oneCell']at h1
 simp_all[VRels]
theorem QdP{w:World}{cb o:Nat}{C:Array Value}{e:TypeId}{a:Nat×Nat}(c:w.heap[cb]?=some (.cells C e a)):w.cell? ⟨cb,o,none⟩=C[o]?:=by simp[World.cell?,c]
theorem QbT(cb o j:Nat):Addr.add ⟨cb,o,none⟩ j=⟨cb,o+j,none⟩:=by simp_all[Addr.add]
theorem Qbq{w:World}{cb o n:Nat}{C:Array Value}{e:TypeId}{a:Nat×Nat}(f:w.heap[cb]?=some (.cells C e a))(c:n=0\/o+n<=C.size):(loadCells ⟨cb,o,none⟩ n).run P w=.ok ((C.toList.drop o).take n).toArray w:=by have:=run_loadCells_list (P:=P) w ⟨cb,o,none⟩ ((C.toList.drop o).take n) (fun j v d=>by grind[QbT,QdP]);grind
def Sound(P:Program)(c:Ctx ok)(w:World)(s:Sem Value)(v:AV)(h':Heap):Prop:=∃f d a,s.run P w=.ok f a/\Evo c w d a/\HRel d h' a/\VRel d a v f
theorem Sound.here(H:HRel c h w){s:Sem Value}{v:AV}{cv:Value}(d:s.run P w=.ok cv w)(a:VRel c w v cv):Sound P c w s v h:=⟨cv,c,w,d,.refl c w,H,a⟩
def rowT(P:Program)(t:TypeId)(n:Option Nat):Bool:=match P.underlying t,P.info? t with|some (.struct _),some i=>n==some i.size|some (.array _ _),some i=>n==some i.size|some _,some _=>n==none|_,_=>false
theorem QaK{t:TypeId}{i:TypeInfo}(hi:P.info? t=some i)(w:World):(sizeOf t).run P w=.ok i.size w:=by simp[sizeOf,typeInfo,hi]
theorem QcF{t:TypeId}(a:rowT P t none=true)(w:World):(isAgg t).run P w=.ok false w:=by unfold rowT at a;unfold isAgg;cases c:P.underlying t with|none=>simp[c]at a|some d=>simp only[Sem.run_bind,run_underlying c,Result.andThen_ok];cases hi:P.info? t with|none=>cases d<;>simp[c,hi]at a|some i=>cases d<;>simp[c,hi]at a<;>rfl
theorem QcG{t:TypeId}{n:Nat}(a:rowT P t (some n)=true)(w:World):(isAgg t).run P w=.ok true w/\(sizeOf t).run P w=.ok n w:=by unfold rowT at a;unfold isAgg;cases c:P.underlying t with|none=>simp[c]at a|some d=>simp only[Sem.run_bind,run_underlying c,Result.andThen_ok];cases hi:P.info? t with|none=>cases d<;>simp[c,hi]at a|some i=>rw[QaK hi];cases d<;>simp[c,hi]at a<;>subst a<;>exact⟨rfl,rfl⟩
theorem Qba{α:Type}{b g:Nat}{k:List AV->HM α}{r:α×Heap}(hm:(HM.cells b g k).run h=some r):∃cs,h.get b=some (.cells g cs)/\(k cs).run h=some r:=by
 simp only[HM.cells,HM.run]at hm;split at hm;·rename_i a cs c;cases e:Nat.beq a g with|false=>rw[e]at hm;simp[HM.run]at hm|true=>
  rw[e]at hm;have:a=g:=by simpa using e
  subst this;exact⟨cs,c,hm⟩
 grind[HM.run]
theorem HRel.here(H:HRel c h w){b g:Nat}{cs:List AV}(i:h.get b=some (.cells g cs)){cb base:Nat}(hp:c.ρ b g=some (.loc cb base)):∃C e d,c.O cb/\w.heap[cb]?=some (.cells C e d)/\Unfrozen d C.size/\base<=C.size/\VPre c w cs (C.toList.drop base):=by
 rcases H.blk b _ i with⟨h1,_⟩|⟨f,a,C,e,d,h1,m,k,n,j,l⟩;·simp_all
 grind
theorem QnY{t:TypeId}{n:Option Nat}{x v:AV}{r:Value}{h':Heap}(H:HRel c h w)(i:VRel c w x r)(j:rowT P t n=true)(hm:(aLoad n x).run h=some (v,h')):Sound P c w (Instr.loadAt t r) v h':=by
 cases x<;>simp only[aLoad,HM.run]at hm<;>try(cases hm;done)
 case ptr b g off=>obtain⟨cs,z,hm⟩:=Qba hm;simp only[VRel]at i;obtain⟨B,base,hp,rfl⟩:=i;obtain⟨C,e,y,F,f,A,s,a⟩:=H.here z hp;cases n with
  |none=>cases k:cs[off]? with|none=>simp[k,HM.opt,HM.run]at hm|some u=>simp only[k,HM.opt,HM.run,Zaa,Zaj]at hm;obtain⟨rfl,rfl⟩:=hm;obtain⟨p,d,m⟩:=Qc1 off a k;rw[ZbR,ZaS]at d;exact .here H (cv:=p) (by simp[Instr.loadAt,Instr.sureAddr,loadVar,QcF j,QdP f,d]) m
  |some n=>
   simp only at hm;split at hm;·rename_i q;simp only[HM.run,Zaa,Zaj]at hm;obtain⟨rfl,rfl⟩:=hm;obtain⟨o,l⟩:=QcG j w;have hlen:=Qa7 a;simp at hlen;refine .here H (cv:=.agg ((C.toList.drop (base+off)).take n).toArray) (by simp[Instr.loadAt,Instr.sureAddr,loadVar,o,l,Qbq (P:=P) (n:=n) (o:=base+off) f (by omega)]) ?_;simp only[VRel];refine⟨_,rfl,?_⟩;have:=QaE a off n q;simp_all
   simp[HM.run]at hm
 case fptr cs=>simp only[VRel]at i;obtain⟨B,off,C,e,y,rfl,E,f,a⟩:=i;cases n with
  |none=>cases cs with|nil=>simp[HM.opt,HM.run]at hm|cons u cs=>simp only[HM.opt,Zbi,HM.run,Zaa,Zaj]at hm;obtain⟨rfl,rfl⟩:=hm;obtain⟨p,d,m⟩:=Qc1 0 a (x:=u) rfl;rw[ZbR,ZaS]at d;exact .here H (cv:=p) (by simp[Instr.loadAt,Instr.sureAddr,loadVar,QcF j,QdP f];simp_all) m
  |some n=>
   simp only at hm;split at hm;·rename_i q;simp only[HM.run,Zaa,Zaj]at hm;obtain⟨rfl,rfl⟩:=hm;obtain⟨o,l⟩:=QcG j w;have hlen:=Qa7 a;simp at hlen;refine .here H (cv:=.agg ((C.toList.drop off).take n).toArray) (by simp[Instr.loadAt,Instr.sureAddr,loadVar,o,l,Qbq (P:=P) (n:=n) (o:=off) f (by omega)]) ?_;simp only[VRel];refine⟨_,rfl,?_⟩;have:=QaE a 0 n (by simpa using q);simp_all
   simp[HM.run]at hm
def upd(w:World)(cb:Nat)(o:Obj):World:={w with heap:=w.heap.setIfInBounds cb o}
theorem Qc2{w:World}{cb:Nat}{o:Obj}(a:cb<w.heap.size):(upd w cb o).heap[cb]?=some o:=by simp[upd,a]
theorem QfF{w:World}{cb k:Nat}{o:Obj}(a:k≠cb):(upd w cb o).heap[k]?=w.heap[k]?:=by grind[upd]
theorem Qrz{w:World}{cb:Nat}{o o':Obj}:upd (upd w cb o) cb o'=upd w cb o':=by simp[upd]
def putL(C:List Value)(o:Nat)(vs:List Value):List Value:=C.take o++vs++C.drop (o+vs.length)
theorem Qez{C:List Value}{o:Nat}{vs:List Value}(a:o+vs.length<=C.length):(putL C o vs).length=C.length:=by simp[putL];omega
theorem Qhh{C:List Value}{o:Nat}:putL C o []=C:=by simp[putL]
theorem Qjb{C:List Value}{o:Nat}{v:Value}{vs:List Value}(a:o<C.length):putL (C.set o v) (o+1) vs=putL C o (v::vs):=by
 simp only[putL,ZaF];rw[List.take_set,List.drop_set,if_pos (by omega)];rw[show o+1+vs.length=o+(vs.length+1)by omega];have:(C.take (o+1)).set o v=C.take o++[v]:=by apply Zba;grind
 rw[this];simp
theorem Qmr{w:World}{cb o:Nat}{C:Array Value}{e:TypeId}{a:Nat×Nat}(c:w.heap[cb]?=some (.cells C e a))(v:Value):w.setCell ⟨cb,o,none⟩ v=upd w cb (.cells (C.setIfInBounds o v) e a):=by have d:=Qa2 c;unfold World.setCell upd;congr 1;grind
theorem Qc3{cb o:Nat}{e:TypeId}{f:Nat×Nat}:∀(vs:List Value)(i:Nat)(w:World)(C:Array Value),w.heap[cb]?=some (.cells C e f)->Unfrozen f C.size->o+i+vs.length<=C.size->(∀v∈vs,v.oneCell'=true)->(storeCells ⟨cb,o,none⟩ vs i).run P w=.ok () (upd w cb (.cells (putL C.toList (o+i) vs).toArray e f))
 |[],i,w,C,g,_,_,_=>by
  simp only[storeCells,Sem.run_pure,Qhh];have m:upd w cb (.cells C e f)=w:=by show({w with heap:=_}:World)={w with heap:=w.heap};congr 1;grind
  simp_all|v::vs,i,w,C,g,d,k,a=>by
  simp only[ZaF]at k;have c:w.cell? ⟨cb,o+i,none⟩=some C[o+i]:=by rw[QdP g];simp_all
  have j:w.frozen? ⟨cb,o+i,none⟩=false:=by have:=d (o+i) (by omega);simp_all[World.frozen?]
  have h:=Qa2 g;simp only[storeCells,Sem.run_bind,QbT];rw[run_store P w _ v _ (a v (by simp)),c,j];simp only[Zap,if_false,Result.andThen_ok];rw[Qmr g,Qc3 vs (i+1) _ (C.setIfInBounds (o+i) v) (Qc2 h) (by simpa using d) (by simp;omega) (fun u l=>a u (by simp[l]))];grind[Qrz,Qjb]
theorem QeF(cs:List AV)(off:Nat)(vs:List AV)(a:off+vs.length<=cs.length):putR cs off vs=cs.take off++vs++cs.drop (off+vs.length):=by
 unfold putR;split;·rename_i v;simp only[List.length_singleton]at a⊢;rw[List.set_eq_take_append_cons_drop,if_pos (by omega)];simp
 rfl
theorem Qms(cs:List AV)(off:Nat)(vs:List AV)(a:off+vs.length<=cs.length):(putR cs off vs).length=cs.length:=by grind[QeF]
theorem QkF{cs vs:List AV}{C us:List Value}{base off:Nat}(hp:VPre c w cs (C.drop base))(f:VRels c w vs us)(g:off+vs.length<=cs.length):VPre c w (putR cs off vs) ((putL C (base+off) us).drop base):=by
 have hlen:=QaC f;have a:=Qa7 hp;simp at a;rw[QeF _ _ _ g];by_cases h:vs=[];·simp_all[VRels,Qhh]
 have d:0<vs.length:=List.length_pos_iff.2 h;have e:(putL C (base+off) us).drop base=((C.drop base).take off++us)++(C.drop base).drop (off+us.length):=by unfold putL;rw[ZaM,List.drop_append,ZaM];grind[ZaU]
 rw[e];refine Qey ?_ ?_;·refine Qbl ?_ f;have:=QaE hp 0 off (by omega);simp_all
 grind[Qa5]
theorem QaX{c:Ctx ok}{b g:Nat}{p:Place}{cb:Option Nat}:(c.with b g p cb).ρ b g=some p:=by simp[Ctx.with]
theorem QeY(H:HRel c h w){b g:Nat}{cs vs:List AV}{us:List Value}{off cb base:Nat}(i:h.get b=some (.cells g cs))(f:b<lim)(hp:c.ρ b g=some (.loc cb base))(t:off+vs.length<=cs.length)(r:VRels c w vs us)(d:∀u∈us,u.oneCell'=true):∃c' w',(storeCells ⟨cb,base+off,none⟩ us).run P w=.ok () w'/\Evo c w c' w'/\HRel c' (h.set b (.cells g (putR cs off vs))) w':=by
 obtain⟨C,e,q,B,p,n,v,a⟩:=H.here i hp;have m:=Qa2 p;have hlen:=QaC r;have j:=Qa7 a;simp at j;have hbound:base+off+us.length<=C.size:=by omega
 have o:=Qc3 (P:=P) (cb:=cb) (o:=base+off) us 0 w C p n (by omega) d;have z:(putL C.toList (base+off) us).length=C.size:=by simp_all[Qez]
 have:=H.put (b:=b) (cb:=cb) (base:=base) (x:=.cells g (putR cs off vs)) (w':=upd w cb (.cells (putL C.toList (base+off) us).toArray e q)) f (fun y x=>H.later b _ i y x) (.inr hp) (.inr ⟨g,base,⟨_,i,rfl,fun k=>by simp⟩,hp⟩) rfl rfl rfl (by simp[upd]) (by simp_all[upd]) (fun k _ l=>QfF l) (fun C2 A s F=>by simp_all[Qc2]) (fun E=>.inr ⟨cb,base,_,e,q,QaX,.inr rfl,Qc2 m,by simp_all,by simp_all,by have:=QkF (base:=base) a r t;simpa using VPre.mono (E.ext H.disj) _ _ this⟩);grind
theorem QaY{α:Type}{b:Nat}{x:Blk}{k:HM α}{r:α×Heap}(hm:(HM.put b x k).run h=some r):b<lim/\k.run (h.set b x)=some r:=by simp only[HM.run]at hm;cases e:Nat.blt b lim with|false=>rw[e]at hm;cases hm|true=>rw[e]at hm;exact⟨by simp_all,hm⟩
def SoundU(P:Program)(c:Ctx ok)(w:World)(s:Sem Unit)(h':Heap):Prop:=∃d a,s.run P w=.ok () a/\Evo c w d a/\HRel d h' a
theorem Qmt{t:TypeId}{n:Nat}{x v r:AV}{i cv:Value}{h':Heap}(H:HRel c h w)(j:VRel c w x i)(m:VRel c w v cv)(A:∀w,(sizeOf t).run P w=.ok n w)(hm:(aStore n x v).run h=some (r,h')):SoundU P c w (Instr.storeAt t i cv) h':=by
 cases x<;>simp only[aStore,HM.run]at hm<;>try(cases hm;done)
 case ptr b g off=>
  obtain⟨cs,o,hm⟩:=Qba hm;split at hm
  ·rename_i a;obtain⟨h1,C,u⟩:=a;obtain⟨d,hm⟩:=QaY hm;simp only[HM.run,Zaa,Zaj]at hm;obtain⟨_,rfl⟩:=hm;simp only[VRel]at j;obtain⟨B,base,hp,rfl⟩:=j;obtain⟨f,p⟩:=QcT m u;obtain⟨s,q,z,k,l⟩:=QeY (P:=P) H o d hp (vs:=v.cells) (off:=off) (by omega) f p;refine⟨s,q,?_,k,l⟩;have y:cv.cells.size=n:=by have:=QaC f;simp_all
   simp_all[Instr.storeAt,Instr.sureAddr,storeVar]
  grind[HM.run]
theorem Qc4{α:Type}{s:Site}{i:Nat}{x:Nat->Blk}{k:Nat->Nat->HM α}{r:α×Heap}(hm:(HM.new s i x k).run h=some r):∃b g,b<lim/\(h.get b=none/\g=0\/∃z,h.get b=some z/\g=z.gen+1)/\(k b g).run (h.set b (x g))=some r:=by
 cases s with|dyn=>
  simp only[HM.new,HM.run]at hm;split at hm;·rename_i c;obtain⟨h1,a⟩:=QaY hm;exact⟨i,0,h1,.inl ⟨c,rfl⟩,a⟩
  simp[HM.run]at hm|st b=>
  simp only[HM.new,HM.run]at hm;split at hm;·rename_i c;obtain⟨h1,a⟩:=QaY hm;exact⟨b,0,h1,.inl ⟨c,rfl⟩,a⟩
  rename_i z c;obtain⟨h1,a⟩:=QaY hm;exact⟨b,z.gen+1,h1,.inr ⟨z,c,rfl⟩,a⟩
theorem HRel.newCells(H:HRel c h w){b g:Nat}(f:b<lim)(p:h.get b=none/\g=0\/∃z,h.get b=some z/\g=z.gen+1){cs:List AV}{C:Array Value}{e:TypeId}(d:VPre c w cs C.toList):∃c',c'.ρ b g=some (.loc w.heap.size 0)/\Evo c w c' (w.alloc (.cells C e))/\HRel c' (h.set b (.cells g cs)) (w.alloc (.cells C e)):=by
 have a:∀y,g<=y->c.ρ b y=none:=by
  intro y l;rcases p with⟨h1,m⟩|⟨z,h1,m⟩;·exact H.fresh b h1 y
  exact H.later b z h1 y (by omega)
 have j:(w.alloc (.cells C e)).heap[w.heap.size]?=some (.cells C e):=by show(w.heap.push _)[w.heap.size]?=_;simp
 have:=H.put (b:=b) (cb:=w.heap.size) (base:=0) (x:=.cells g cs) (w':=w.alloc (.cells C e)) f (fun y l=>a y (Nat.le_of_lt l)) (.inl (a g (ZaO _))) (.inl rfl) rfl rfl rfl (by simp) (by simp) (fun k n _=>Go.RowKit.Below.heap_alloc w _ k n) (fun C2 q o m=>by simp_all) (fun E=>.inr ⟨w.heap.size,0,C,e,(0,0),QaX,.inr rfl,j,fun i _=>by omega,by omega,by simpa using VPre.mono (E.ext H.disj) _ _ d⟩);exact⟨_,QaX,this.1,this.2⟩
theorem VRel_cells'{x:AV}{v:Value}(d:VRel c w x v)(ho:x.boxable=true):VRels c w x.cells v.cells.toList:=by
 by_cases a:∃cs,x=.agg cs;·obtain⟨cs,rfl⟩:=a;simp only[VRel]at d;obtain⟨f,rfl,d⟩:=d;grind[AV.cells,Value.cells]
 refine(QcT d ?_).1;cases x<;>first|rfl|(simp[AV.boxable]at ho;done)|exact absurd ⟨_,rfl⟩ a
theorem Qjc{e:TypeId}{s:Site}{i:Nat}{x v:AV}{d:Value}{h':Heap}(H:HRel c h w)(l:VRel c w x d)(hm:(aBox s i x).run h=some (v,h')):Sound P c w (Instr.box e d) v h':=by
 unfold aBox at hm;split at hm
 ·rename_i n;obtain⟨b,g,a,m,hm⟩:=Qc4 hm;simp only[HM.run,Zaa,Zaj]at hm;obtain⟨rfl,rfl⟩:=hm;obtain⟨j,hp,k,f⟩:=H.newCells a m (C:=d.cells) (e:=e) (QaR (VRel_cells' l n));refine⟨.pointer (some ⟨w.heap.size,0,none⟩),j,_,?_,k,f,?_⟩;·simp[Instr.box,newVar,newRow]
  simp_all[VRel]
 grind[HM.run]
mutual def cOK:AV->Value->Bool|.any,_=>true|.bool b,.bool b'=>b==b'|.int k n,.int k' n'=>k==k'&&n==n'|.str s,.string bs=>s==bs.data.toList|.nilptr,.pointer none=>true|.nilsl,.slice none 0 0=>true|.nilmap,.map none=>true|.nilfn,.nilFunc=>true|.nilif,.nilIface=>true|.agg cs,.agg vs=>cOKs cs vs.toList|.tup cs,.tuple vs=>cOKs cs vs.toList|_,_=>false termination_by structural x=>x def cOKs:List AV->List Value->Bool|[],[]=>true|x::xs,v::vs=>cOK x v&&cOKs xs vs|_,_=>false termination_by structural x=>x end
mutual theorem QdQ:∀(x:AV)(v:Value),cOK x v=true->VRel c w x v|.any,_,_=>by simp[VRel]|.bool b,v,hh=>by cases v<;>simp_all[cOK,VRel]|.int k n,v,hh=>by cases v<;>simp_all[cOK,VRel]|.str s,v,hh=>by cases v<;>simp_all[cOK,VRel]|.agg cs,v,hh=>by cases v<;>simp only[cOK,Zap]at hh;simp only[VRel];exact⟨_,rfl,Qch cs _ hh⟩|.tup cs,v,hh=>by cases v<;>simp only[cOK,Zap]at hh;simp only[VRel];exact⟨_,rfl,Qch cs _ hh⟩|.nilptr,v,hh=>by grind[cOK,VRel]|.nilsl,v,hh=>by grind[cOK,VRel]|.nilmap,v,hh=>by grind[cOK,VRel]|.nilfn,v,hh=>by grind[cOK,VRel]|.nilif,v,hh=>by grind[cOK,VRel]|.ptr _ _ _,v,hh=>by simp[cOK]at hh|.fptr _,v,hh=>by simp[cOK]at hh|.sl _ _ _ _ _,v,hh=>by simp[cOK]at hh|.fsl _ _ _,v,hh=>by simp[cOK]at hh|.esl,v,hh=>by simp[cOK]at hh|.nsl,v,hh=>by simp[cOK]at hh|.map _ _,v,hh=>by simp[cOK]at hh|.fmap _ _,v,hh=>by simp[cOK]at hh|.fn _ _ _,v,hh=>by simp[cOK]at hh|.ifc _ _,v,hh=>by simp[cOK]at hh theorem Qch:∀(xs:List AV)(vs:List Value),cOKs xs vs=true->VRels c w xs vs|[],vs,hh=>by grind[cOKs,VRels]|x::xs,[],hh=>by simp[cOKs]at hh|x::xs,v::vs,hh=>by simp only[cOKs,Zab]at hh;simp only[VRels];exact⟨v,vs,rfl,QdQ x v hh.1,Qch xs vs hh.2⟩end
theorem Qmu{t:TypeId}{s:Site}{i:Nat}{z v:AV}{d:TypeInfo}{a:Value}{h':Heap}(H:HRel c h w)(hi:P.info? t=some d)(k:d.zero=some a)(hc:cOK z a=true)(hm:(aBox s i z).run h=some (v,h')):Sound P c w (Instr.alloc t true (.tuple #[])) v h':=by have:=Qjc (P:=P) (e:=t) H (QdQ (c:=c) (w:=w) z a hc) hm;obtain⟨j,g,f,l,h1⟩:=this;refine⟨j,g,f,?_,h1⟩;simp_all[Instr.alloc,Instr.box,zeroValue,typeInfo]
theorem Qjd(off:Nat):∀(l:List Value)(k:Nat)(cells:Array Value),off+k+l.length<=cells.size->((l.zipIdx k).foldl (fun(cs:Array Value)(p:Value×Nat)=>cs.setIfInBounds (off+p.2) p.1) cells).toList=putL cells.toList (off+k) l|[],k,cells,_=>by simp[Qhh]|v::l,k,cells,a=>by simp only[ZaF]at a;simp only[List.zipIdx_cons,ZaN];rw[Qjd off l (k+1) _ (by simp;omega),Array.toList_setIfInBounds,<-Nat.add_assoc,Qjb (by simp;omega)]
theorem QoD{cs vs:List AV}{C us:List Value}{off:Nat}(hp:VRels c w cs C)(d:VRels c w vs us)(f:off+vs.length<=cs.length):VRels c w (putR cs off vs) (putL C off us):=by have h1:=QkF (base:=0) (by simpa using QaR hp) d f;have g:=Qeo h1;have hlen:=QaC hp;have a:=QaC d;simp_all[Qms,ZaT,Qez]
def PartsRel(c:Ctx ok)(w:World)(place:Nat->Option (Nat×Nat)):List (Nat×Nat×AV)->List (Nat×Value)->Prop|[],d=>d=[]|(off,size,x)::r,d=>∃i v a,d=(i,v)::a/\place i=some (off,size)/\VRel c w x v/\PartsRel c w place r a
theorem QeZ{place:Nat->Option (Nat×Nat)}:∀(parts:List (Nat×Nat×AV))(h:List (Nat×Value))(cs d:List AV)(cells:Array Value),PartsRel c w place parts h->VRels c w cs cells.toList->fillA cs parts=some d->∃a,Instr.fill place cells h=some a/\VRels c w d a.toList
 |[],h,cs,d,cells,hp,hc,hf=>by simp only[PartsRel]at hp;subst hp;simp only[fillA,Zaa]at hf;subst hf;exact⟨cells,rfl,hc⟩|(off,size,x)::r,h,cs,d,cells,hp,hc,hf=>by
  simp only[PartsRel]at hp;obtain⟨i,v,j,rfl,n,s,o⟩:=hp;simp only[fillA]at hf;split at hf;·rename_i f;obtain⟨z,u,q⟩:=f;have g:=VRel_cells' s q;have hlen:=QaC g;have k:=QaC hc;simp at hlen k;have l:=Qjd off v.cells.toList 0 cells (by simp;omega);have m:=QoD (off:=off) hc g (by omega);obtain⟨a,y,t⟩:=QeZ r j _ d (v.cells.zipIdx.foldl (fun cs(p:Value×Nat)=>cs.setIfInBounds (off+p.2) p.1) cells) o (by grind[Array.toList_zipIdx]) hf;simp_all[Instr.fill]
  cases hf
def placeOf(P:Program)(t:TypeId)(i:Nat):Option (Nat×Nat):=match P.underlying t with
 |some (.array _ e)=>match P.info? e with|some c=>some (i*c.size,c.size)|none=>none
 |some (.struct fields)=>match fields.toList.mapM (fun f=>(P.info? f.type).map fun i=>(f.offset,i.size))with|some a=>a[i]?|none=>none
 |_=>none
def zeroOf(P:Program)(t:TypeId):Option Value:=(P.info? t).bind (·.zero)
theorem Qmv{t:TypeId}{zero:List AV}{parts:List (Nat×Nat×AV)}{j:Array (Nat×Value)}{v:AV}{o:Value}(H:HRel c h w)(g:zeroOf P t=some o)(hc:cOKs zero o.cells.toList=true)(q:(∃n e k,P.underlying t=some (.array n e)/\P.info? e=some k)\/(∃fields a,P.underlying t=some (.struct fields)/\fields.toList.mapM (fun f=>(P.info? f.type).map fun i=>(f.offset,i.size))=some a))(hp:PartsRel c w (placeOf P t) parts j.toList)(hm:aBuild zero parts=some v):Sound P c w (Instr.build t j) v h:=by unfold aBuild at hm;cases hf:fillA zero parts with|none=>simp[hf]at hm|some cs=>simp only[hf,Zaa]at hm;subst hm;obtain⟨d,h1,s⟩:=QeZ (place:=placeOf P t) parts j.toList zero cs o.cells hp (Qch _ _ hc) hf;refine .here H (cv:=.agg d) (run_build w t j d ?_) (by simp only[VRel];simp_all);unfold zeroOf at g;cases hi:P.info? t with|none=>simp[hi]at g|some it=>
 simp only[hi,Option.bind_some]at g;unfold Program.built;rcases q with⟨n,e,k,p,m⟩|⟨fields,a,p,l⟩
 ·simp only[hi,p,g,m];have r:placeOf P t=fun i=>some (i*k.size,k.size):=by grind[placeOf]
  simp_all
 simp only[hi,p,g,l];have r:placeOf P t=fun i=>a.toArray[i]?:=by grind[placeOf]
 simp_all
theorem QeG(H:HRel c h w){s:Site}{i:Nat}{cs:List AV}{C:Array Value}{e:TypeId}{len cap sz:Nat}{v:AV}{h':Heap}{run:Sem Value}(f:VPre c w cs C.toList)(j:len<=cap)(a:cap=0\/cap*sz<=C.size)(l:run.run P w=.ok (.slice (some ⟨w.heap.size,0,none⟩) len cap) (w.alloc (.cells C e)))(hm:(HM.new s i (fun g=>.cells g cs) fun b g=>.ret (.sl b g 0 len sz)).run h=some (v,h')):Sound P c w run v h':=by obtain⟨b,g,d,p,hm⟩:=Qc4 hm;simp only[HM.run,Zaa,Zaj]at hm;obtain⟨rfl,rfl⟩:=hm;obtain⟨o,hp,k,n⟩:=H.newCells d p (C:=C) (e:=e) f;refine⟨_,o,_,l,k,n,?_⟩;simp only[VRel];refine .inr ⟨_,0,0,cap,C,e,(0,0),hp,rfl,j,?_,a.imp id (fun m=>⟨by simp,by simpa using m⟩)⟩;show(w.heap.push _)[w.heap.size]?=_;simp
theorem QhQ(H:HRel c h w){cs:List AV}{C:Array Value}{e:TypeId}{len cap sz:Nat}{run:Sem Value}(d:VPre c w cs C.toList)(f:len<=cap)(i:cs.length=len*sz)(j:run.run P w=.ok (.slice (some ⟨w.heap.size,0,none⟩) len cap) (w.alloc (.cells C e))):Sound P c w run (.fsl cs len sz) h:=by
 obtain⟨E,H1⟩:=H.grow (w':=w.alloc (.cells C e)) rfl rfl rfl (by simp) (fun k a=>Go.RowKit.Below.heap_alloc w _ k a);have H2:=H1.frozen (fun k=>c.F k\/k=w.heap.size) (fun k a=>.inl a) (fun k a=>by
  rcases a with a|a;·exact⟨H.disj k a,by have:=H.inF k a;simp;omega⟩
  subst a;exact⟨fun g=>by have:=H.inO _ g;omega,by simp⟩);have E2:Evo c w {c with F:=fun k=>c.F k\/k=w.heap.size} (w.alloc (.cells C e)):=⟨E.os,E.tape,E.output,E.size,E.shape,E.keep,E.rho,fun k a=>.inl a,fun k a=>a.imp id (fun h=>.inr (Nat.le_of_eq h.symm)),E.own,rfl⟩;refine⟨_,_,_,j,E2,H2,?_⟩;simp only[VRel];refine .inr ⟨_,0,cap,C,e,(0,0),rfl,f,i,.inr rfl,?_,?_⟩;·show(w.heap.push _)[w.heap.size]?=_;simp
 simpa using VPre.mono (E2.ext H.disj) _ _ d
def zeroRow(z:Array Value)(n:Nat):Array Value:=(Array.range n).map (z[·%z.size]!)
theorem run_buildSlice'(w:World)(t e:TypeId)(len:Nat)(parts:Array (Nat×Value))(cells:Array Value)(a:TypeInfo)(z:Value)(g:P.underlying t=some (.slice e))(c:P.info? e=some a)(h:a.zero=some z)(d:len*a.size<=16777216)(hf:Instr.fill (fun i=>some (i*a.size,a.size)) (zeroRow z.cells (len*a.size)) parts.toList=some cells):(Instr.buildSlice t len parts).run P w=.ok (.slice (some ⟨w.heap.size,0,none⟩) len len) (w.alloc (.cells cells e)):=by
 have j:¬16777216<len*a.size:=by omega
 by_cases f:len*a.size=0
 ·rw[f]at hf;have:zeroRow z.cells 0=#[]:=by simp[zeroRow]
  rw[this]at hf;simp only[Instr.buildSlice,Sem.run_bind,run_underlying g,Result.andThen_ok,QaK c];simp only[f];simp_all[Array.range,newRow]
 unfold zeroRow at hf;simp[Instr.buildSlice,run_underlying g,sizeOf,typeInfo,zeroValue,c,h,j,f,hf,newRow]
theorem Qhi{t e:TypeId}{frozen:Bool}{s:Site}{i sz len:Nat}{zero:List AV}{parts:List (Nat×Nat×AV)}{g:Array (Nat×Value)}{v:AV}{f:TypeInfo}{z:Value}{h':Heap}(H:HRel c h w)(p:P.underlying t=some (.slice e))(l:P.info? e=some f)(k:f.size=sz)(o:f.zero=some z)(a:len*sz<=16777216)(hc:cOKs zero (zeroRow z.cells (len*sz)).toList=true)(hp:PartsRel c w (fun i=>some (i*sz,sz)) parts g.toList)(hm:(aBuildSlice frozen s i sz len zero parts).run h=some (v,h')):Sound P c w (Instr.buildSlice t len g) v h':=by subst k;unfold aBuildSlice at hm;cases hf:fillA zero parts with|none=>simp[hf,HM.run]at hm|some cs=>
 simp only[hf]at hm;split at hm
 ·rename_i n;obtain⟨d,h1,j⟩:=QeZ parts g.toList zero cs (zeroRow z.cells (len*f.size)) hp (Qch _ _ hc) hf;have hlen:=QaC j;simp at hlen;have m:=run_buildSlice' (P:=P) w t e len g d f z p l o a h1;split at hm
  ·split at hm;·simp only[HM.run,Zaa,Zaj]at hm;obtain⟨rfl,rfl⟩:=hm;exact QhQ H (QaR j) (ZaO _) n m
   grind[HM.run]
  exact QeG H (QaR j) (ZaO _) (.inr (by omega)) m hm
 simp[HM.run]at hm
theorem Qmw(s k:Nat)(f:Nat->Value)(hf:∀i,f (i+s)=f i):(List.range (s+k)).map f=(List.range s).map f++(List.range k).map f:=by simp_all[List.range_add,Nat.add_comm]
theorem Qdl{zero:List AV}{z:Array Value}(a:VRels c w zero z.toList):∀k,VRels c w (List.replicate k zero).flatten (zeroRow z (k*z.size)).toList
 |0=>by simp[zeroRow,VRels]|k+1=>by
  have d:=Qdl a k;have e:(zeroRow z ((k+1)*z.size)).toList=z.toList++(zeroRow z (k*z.size)).toList:=by simp only[zeroRow,Array.toList_map,Array.toList_range];rw[show(k+1)*z.size=z.size+k*z.size by rw[Zbc];omega];rw[Qmw z.size _ (fun i=>z[i%z.size]!) (fun i=>by simp)];congr 1;apply Zba;grind[Nat.mod_eq_of_lt]
  simp_all[ZaW,Qbl]
theorem QhR{t e:TypeId}{s:Site}{i sz bytes:Nat}{zero:List AV}{l n v:AV}{r x:Value}{f:TypeInfo}{z:Value}{h':Heap}(H:HRel c h w)(u:VRel c w l r)(A:VRel c w n x)(C:P.underlying t=some (.slice e))(d:P.info? e=some f)(p:f.size=sz)(o:f.bytes=bytes)(G:f.zero=some z)(J:z.cells.size=sz)(hc:cOKs zero z.cells.toList=true)(hm:(aMakeSlice s i sz bytes zero l n).run h=some (v,h')):Sound P c w (Instr.makeSlice t r x) v h':=by
 subst p;subst o;unfold aMakeSlice at hm;split at hm
 ·rename_i L k O a;split at hm
  ·rename_i g;obtain⟨h1,N,K,M⟩:=g;simp only[VRel]at u A;subst u;subst A;have B:IntKind.i64.wrap k=k:=by rw[<-wr_eq];grind[wr_of,lo,hi]
   have F:IntKind.i64.wrap a=a:=by rw[<-wr_eq];grind[wr_of,lo,hi]
   have j:VRels c w (List.replicate a.toNat zero).flatten (zeroRow z.cells (a.toNat*f.size)).toList:=by grind[Qdl,Qch]
   refine QeG H (cap:=a.toNat) (C:=zeroRow z.cells (a.toNat*f.size)) (e:=e) (QaR j) (by omega) (.inr (by simp[zeroRow])) ?_ hm;have q:¬a<0:=by omega
   have b2:¬281474976710656<(f.bytes:Int)*a:=by omega
   have E:¬k<0:=by omega
   have y:¬a<k:=by omega
   by_cases m:a.toNat*f.size=0
   ·have I:zeroRow z.cells 0=#[]:=by simp[zeroRow]
    simp only[Instr.makeSlice,Sem.run_bind,run_underlying C,Result.andThen_ok,asInt,asIntOf,Sem.run_pure,typeInfo,run_program,d,B,F,QaK d];simp only[q,b2,E,y,m,gt_iff_lt,decide_false,Bool.or_self,Zap,if_false,Sem.run_bind,Sem.run_pure,run_askRoom,Result.andThen_ok,Nat.reducePow,Int.reducePow,I];simp[newRow,QaK d,m,Array.range_zero']
   simp only[Instr.makeSlice,Sem.run_bind,run_underlying C,Result.andThen_ok,asInt,asIntOf,Sem.run_pure,typeInfo,run_program,d,B,F,QaK d];simp only[q,b2,E,y,m,gt_iff_lt,decide_false,Bool.or_self,Zap,if_false,Sem.run_bind,Sem.run_pure,run_askRoom,Result.andThen_ok,Nat.reducePow,Int.reducePow,zeroValue,typeInfo,run_program,d,G];simp_all[newRow,zeroRow,QaK]
  grind[HM.run]
 grind[HM.run]
end Go.AM
namespace Go.AM
variable{P:Program}{ok:Okc}{c:Ctx ok}{w:World}{h:Heap}
theorem HRel.drew(H:HRel c h w):Evo c w c w.drew/\HRel c h w.drew:=H.grow rfl rfl rfl (ZaO _) (fun _ _=>rfl)
theorem QoE{C us:List Value}{base off:Nat}(a:base+off<=C.length):(putL C (base+off) us).drop base=((C.drop base).take off++us)++(C.drop base).drop (off+us.length):=by unfold putL;rw[ZaM,List.drop_append,ZaM];grind[ZaU]
theorem HRel.putNil(H:HRel c h w){b g:Nat}(t:b<lim)(s:∀y,g<y->c.ρ b y=none)(J:c.ρ b g=none\/c.ρ b g=some .nil):Evo c w (c.with b g .nil none) w/\HRel (c.with b g .nil none) (h.set b (.cells g [])) w:=by
 have E:Evo c w (c.with b g .nil none) w:=by
  refine⟨rfl,rfl,rfl,ZaO _,fun _ C _ F h=>⟨C,F,h,rfl⟩,fun _ _ _=>rfl,?_,fun _ h=>h,fun _ h=>.inl h,?_,rfl⟩;·intro x1 y p hp;show(if x1=b/\y=g then some Place.nil else c.ρ x1 y)=some p;grind
  intro k j;rcases j with j|j;·exact .inl j
  cases j
 have A:∀k,(c.with b g .nil none).O k->c.O k:=fun k j=>j.elim id (fun e=>by cases e);refine⟨E,?_,?_,?_,?_,fun k G x=>H.disj k G (A k x),H.inF,fun k j=>H.inO k (A k j)⟩
 ·intro b2 a y;rw[Zb7 h t]at a;split at a;·cases a
  rename_i i;show(if b2=b/\y=g then some Place.nil else c.ρ b2 y)=none;rw[if_neg (fun e=>i e.1)];exact H.fresh b2 a y
 ·intro b2 x2 a y K;rw[Zb7 h t]at a;show(if b2=b/\y=g then some Place.nil else c.ρ b2 y)=none;split at a;·grind[Blk.gen]
  rename_i i;rw[if_neg (fun e=>i e.1)];exact H.later b2 x2 a y K
 ·intro b2 x2 a;rw[Zb7 h t]at a;split at a;·rename_i n;subst n;cases a;exact .inl ⟨QaX,rfl⟩
  rename_i i;refine Zca (E.ext H.disj) ?_ (H.blk b2 x2 a);intro v m l hp;exact⟨.inl (H.owned ⟨x2,a,rfl,l⟩ hp),rfl⟩
 intro I N b2 M v u m L B o q;obtain⟨x1,f,rfl,z⟩:=L;obtain⟨x2,d,rfl,l⟩:=B;rw[Zb7 h t]at f d;simp only[Ctx.with]at o q;by_cases n:I=b;·rw[if_pos n]at f;cases f;rw[if_pos ⟨n,rfl⟩]at o;cases o
 rw[if_neg n]at f;rw[if_neg (fun e=>n e.1)]at o;by_cases r:b2=b;·rw[if_pos r]at d;cases d;rw[if_pos ⟨r,rfl⟩]at q;cases q
 rw[if_neg r]at d;rw[if_neg (fun e=>r e.1)]at q;exact H.inj _ _ _ _ _ _ _ ⟨x1,f,rfl,z⟩ ⟨x2,d,rfl,l⟩ o q
structure SrcRel(P:Program)(c:Ctx ok)(w:World)(sz:Nat)(cy:Value)(ys:List AV)(n:Nat)(us:List Value):Prop where
 rels:VRels c w ys us
 len:ys.length=n*sz
 lenOf:∀w1,(Builtin.lenOf cy).run P w1=.ok n w1
 firstm:∀w1 m,m<=n->w1.heap=w.heap->(Builtin.firstCells sz m cy).run P w1=.ok (us.take (m*sz)).toArray w1
theorem SrcRel.first{P:Program}{c:Ctx ok}{w:World}{sz:Nat}{cy:Value}{ys:List AV}{n:Nat}{us:List Value}(S:SrcRel P c w sz cy ys n us):∀a,a.heap=w.heap->(Builtin.firstCells sz n cy).run P a=.ok us.toArray a:=by intro a hw;have h1:=S.firstm a n (ZaO _) hw;have d:=QaC S.rels;have f:=S.len;simp_all
theorem QeA{b g off len sz:Nat}{cs:List AV}{cy:Value}(H:HRel c h w)(n:VRel c w (.sl b g off len sz) cy)(r:h.get b=some (.cells g cs))(s:off+len*sz<=cs.length):∃us,SrcRel P c w sz cy ((cs.drop off).take (len*sz)) len us:=by
 simp only[VRel]at n;rcases n with⟨hp,rfl,rfl,rfl⟩|⟨F,base,o,cap,C,e,A,hp,rfl,z,u,d⟩;·refine⟨[],⟨by simp[VRels],by simp,fun i=>by simp[Builtin.lenOf],fun i m _ _=>by simp[Builtin.firstCells]⟩⟩
 obtain⟨C',E,t,B,f,x,v,a⟩:=H.here r hp;rw[u]at f;cases f;by_cases p:len*sz=0
 ·refine⟨[],⟨by simp[p,VRels],by simp[p],fun i=>by simp[Builtin.lenOf],fun i m hm _=>?_⟩⟩;have k:m*sz=0:=by grind[Nat.mul_eq_zero]
  simp[Builtin.firstCells,k,loadCells,loadCellsFrom]
 have l:=Qa7 a;simp at l;have j:cap≠0:=by grind
 obtain⟨rfl,q⟩:=d.resolve_left j;refine⟨(C.toList.drop (base+off)).take (len*sz),⟨?_,by simp;omega,fun i=>by simp[Builtin.lenOf],fun i m hm y=>?_⟩⟩;·have :=QaE a off (len*sz) s;simp_all
 grind[Za1,Qbq,Builtin.firstCells]
theorem QcH{sz:Nat}{y:AV}{cy:Value}{k:List AV->Nat->HM AV}{r:AV×Heap}(H:HRel c h w)(hy:VRel c w y cy)(hm:(aSrc sz y k).run h=some r):∃ys n us,SrcRel P c w sz cy ys n us/\(k ys n).run h=some r:=by
 cases y<;>simp only[aSrc]at hm<;>try(cases hm;done)
 case sl b g off len s=>
  split at hm
  ·rename_i e;subst e;obtain⟨cs,hb,hm⟩:=Qba hm;split at hm;·rename_i hl;obtain⟨us,hs⟩:=QeA (P:=P) H hy hb hl;grind
   grind[HM.run]
  grind[HM.run]
 case fsl cs len s=>
  split at hm
  ·rename_i e;subst e;simp only[VRel]at hy;rcases hy with⟨⟨a,rfl⟩,rfl,rfl⟩|⟨cb,off,cap,C,e,fr,rfl,hlc,hlen,hF,hC,hpre⟩
   ·refine⟨[],0,[],⟨by simp[VRels],by simp,fun w1=>by simp[Builtin.lenOf],fun w1 m hm' _=>?_⟩,hm⟩;obtain rfl:m=0:=by omega
    cases a<;>simp[Builtin.firstCells,loadCells,loadCellsFrom]
   ·have hcl:=Qa7 hpre;simp at hcl;refine⟨cs,len,(C.toList.drop off).take cs.length,⟨Qeo hpre,hlen,fun w1=>by simp[Builtin.lenOf],fun w1 m hm' hw1=>?_⟩,hm⟩;grind[Za1,Qbq,Builtin.firstCells]
  grind[HM.run]
 case nilsl=>simp only[VRel]at hy;subst hy;exact⟨[],0,[],⟨by simp[VRels],by simp,fun w1=>by simp[Builtin.lenOf],fun w1 m _ _=>by simp[Builtin.firstCells]⟩,hm⟩
 case esl=>
  simp only[VRel]at hy;obtain⟨a,rfl⟩:=hy;refine⟨[],0,[],⟨by simp[VRels],by simp,fun w1=>by simp[Builtin.lenOf],fun w1 m hm' _=>?_⟩,hm⟩;obtain rfl:m=0:=by omega
  cases a<;>simp[Builtin.firstCells,loadCells,loadCellsFrom]
 case nsl=>
  simp only[VRel]at hy;obtain⟨a,k,rfl⟩:=hy;refine⟨[],0,[],⟨by simp[VRels],by simp,fun w1=>by simp[Builtin.lenOf],fun w1 m hm' _=>?_⟩,hm⟩;obtain rfl:m=0:=by omega
  simp[Builtin.firstCells,loadCells,loadCellsFrom]
 case str s=>
  split at hm
  ·rename_i e;subst e;simp only[VRel]at hy;subst hy;refine⟨_,_,s.map fun b=>Value.int .u8 b.toNat,⟨?_,by simp,fun w1=>by simp[Builtin.lenOf,ByteArray.size],fun w1 m hm' _=>?_⟩,hm⟩
   ·have :∀l:List UInt8,VRels c w (l.map fun b=>AV.int .u8 b.toNat) (l.map fun b=>Value.int .u8 b.toNat):=by intro l;induction l with|nil=>simp[VRels]|cons a l ih=>simp only[ZaR,VRels];exact⟨_,_,rfl,by simp[VRel],ih⟩
    exact this s
   simp_all[Builtin.firstCells]
  grind[HM.run]
theorem QhS{need old bytes:Nat}(a:old<need)(d:need*bytes<=140737488355328):Builtin.nextslicecap need old*bytes<=281474976710656:=by have:=nextslicecap_le a;have c:Builtin.nextslicecap need old*bytes<=2*need*bytes:=Za1 _ this;grind
theorem Qb3{t t2 ty e:TypeId}{i:TypeInfo}{z:Value}{g:TypeDesc}{n dlen dcap:Nat}{base:Option Addr}{cy:Value}{olds us:List Value}(m:P.underlying t=some (.slice e))(h:P.underlying t2=some g)(j:∀k,g≠.int k)(hi:P.info? e=some i)(o:i.zero=some z)(hlen:∀a,(Builtin.lenOf cy).run P a=.ok n a)(c:∀a,a.heap=w.heap->(Builtin.firstCells i.size n cy).run P a=.ok us.toArray a)(hold:∀a,a.heap=w.heap->(Builtin.firstCells i.size dlen (.slice base dlen dcap)).run P a=.ok olds.toArray a)(r:dcap<dlen+n)(s:(dlen+n)*i.bytes<=140737488355328)(p:dlen+n<=9223372036854775807):(Builtin.append_ #[t,t2] ty #[.slice base dlen dcap,cy]).run P w=.ok (.slice (some ⟨w.heap.size,0,none⟩) (dlen+n) (grownCap w (dlen+n) dcap e)) (w.drew.alloc (.cells (olds++us++(Builtin.zeroCells z.cells (grownCap w (dlen+n) dcap e-(dlen+n))).toList).toArray e)):=by
 have q:¬(dlen+n<=dcap):=by omega
 have d:¬(9223372036854775807<((dlen:Int)+(n:Int))):=by omega
 have f:¬(281474976710656<Builtin.nextslicecap (dlen+n) dcap*i.bytes):=by simp_all[QhS]
 have hf:=c w.drew rfl;have l:=hold w.drew rfl;have hm:(g matches .int _)=false:=by cases g<;>first|rfl|exact absurd rfl (j _)
 simp only[Builtin.append_,ZaS,List.getElem?_toArray,Zbk,ZbN,Sem.run_bind,run_underlying m,run_underlying h,Result.andThen_ok,QaK hi,Sem.run_pure,hm];simp[typeInfo,zeroValue,hi,o,hlen,q,d,f,Question.forced,hf,l,newRow,grownCap];congr 2;simp_all
theorem Qhj(w:World){need old:Nat}(e:TypeId):need<=grownCap w need old e:=by unfold grownCap;exact Nat.le_add_right _ _
theorem Qbm{t t2 ty e:TypeId}{i:TypeInfo}{d:TypeDesc}{n dlen dcap:Nat}{base:Option Addr}{cy:Value}{us:List Value}(j:P.underlying t=some (.slice e))(g:P.underlying t2=some d)(f:∀k,d≠.int k)(hi:P.info? e=some i)(hlen:∀h,(Builtin.lenOf cy).run P h=.ok n h)(c:(Builtin.firstCells i.size n cy).run P w=.ok us.toArray w)(l:dlen+n<=dcap):(Builtin.append_ #[t,t2] ty #[.slice base dlen dcap,cy]).run P w=(match base with|some a=>((storeCells (a.add (dlen*i.size)) us).run P w).andThen fun _ w'=>.ok (.slice base (dlen+n) dcap) w'|none=>.ok (.slice base (dlen+n) dcap) w):=by
 have hm:(d matches .int _)=false:=by cases d<;>first|rfl|exact absurd rfl (f _)
 simp only[Builtin.append_,ZaS,List.getElem?_toArray,Zbk,ZbN,Sem.run_bind,run_underlying j,run_underlying g,Result.andThen_ok,QaK hi,Sem.run_pure,hm];cases base<;>simp[hlen,l,c]
structure AppT(P:Program)(t t2 e:TypeId)(sz bytes:Nat)(i:TypeInfo)(z:Value):Prop where
 ht:P.underlying t=some (.slice e)ht2:∃d2,P.underlying t2=some d2/\∀k,d2≠.int k
 hi:P.info? e=some i
 hz:i.zero=some z
 hsz:i.size=sz
 hby:i.bytes=bytes
 hzs:z.cells.size=sz
theorem Qcs(z:Array Value)(n:Nat):(Builtin.zeroCells z n).size=n*z.size:=by simp[Builtin.zeroCells]
theorem Qe0(H:HRel c h w){b g:Nat}(a:b<lim)(i:h.get b=none/\g=0\/∃z,h.get b=some z/\g=z.gen+1){cs:List AV}{us:List Value}{rest:List Value}{e:TypeId}(k:VRels c w cs us){len cap sz:Nat}(d:len<=cap)(f:cap*sz<=(us++rest).length):∃c',Evo c w c' (w.drew.alloc (.cells (us++rest).toArray e))/\HRel c' (h.set b (.cells g cs)) (w.drew.alloc (.cells (us++rest).toArray e))/\VRel c' (w.drew.alloc (.cells (us++rest).toArray e)) (.sl b g 0 len sz) (.slice (some ⟨w.heap.size,0,none⟩) len cap):=by obtain⟨E1,H1⟩:=H.drew;have j:=Zb9 (E1.ext H.disj) _ _ k;obtain⟨c',hp,E2,H2⟩:=H1.newCells a i (cs:=cs) (C:=(us++rest).toArray) (e:=e) (by grind[Qhg]);refine⟨c',E1.trans E2,H2,?_⟩;simp only[VRel];refine .inr ⟨_,0,0,cap,(us++rest).toArray,e,(0,0),hp,rfl,d,?_,.inr ⟨by simp,by simp_all⟩⟩;show(w.heap.push _)[w.heap.size]?=_;simp
theorem Qd0{t t2 ty e:TypeId}{s:Site}{i sz bytes:Nat}{x y v:AV}{cx cy:Value}{r:TypeInfo}{z:Value}{h':Heap}(H:HRel c h w)(L:VRel c w x cx)(hy:VRel c w y cy)(T:AppT P t t2 e sz bytes r z)(hm:(aAppend s i sz bytes x y).run h=some (v,h')):Sound P c w (Builtin.append_ #[t,t2] ty #[cx,cy]) v h':=by
 obtain⟨Q,⟨d2,q,p⟩,hi,hz,rfl,rfl,hzs⟩:=T;replace hm:=QcH (P:=P) H hy hm;obtain⟨K,n,us,S,hm⟩:=hm;have hul:=QaC S.rels;have hyl:=S.len;by_cases G:(slLen x+n)*r.bytes<=140737488355328/\slLen x+n<=140737488355328/\K.all AV.one=true;case pos=>
  rw[if_pos G]at hm;obtain⟨X,Y,hone⟩:=G;have Z:∀u∈us,u.oneCell'=true:=by
   intro u hu;obtain⟨j,hj,rfl⟩:=ZbZ.1 hu;obtain⟨v',hv',N⟩:=Qcg j S.rels (Zal (by omega:j<K.length));rw[Zal hj]at hv';cases hv';have h1:(K[j]).one=true:=by simp_all
   have h2:=QcT (x:=K[j]) N (by cases hh:K[j]<;>simp_all[AV.one,AV.cells]);have:(us[j]).cells=#[us[j]]\/∃a,us[j]=.agg a:=by cases us[j]<;>simp[Value.cells]
   rcases this with h3|⟨a,h3⟩;·simp_all
   rw[h3]at N;exfalso;cases hh:K[j]<;>rw[hh]at N h1<;>simp[AV.one]at h1<;>simp[VRel]at N;obtain⟨⟨_,_,_,k1,_⟩,_⟩:=N;simp_all
  have fresh:∀(base:Option Addr)(hold:∀M,(Builtin.firstCells r.size 0 (.slice base 0 0)).run P M=.ok #[] M)(b g:Nat),b<lim->(h.get b=none/\g=0\/∃z,h.get b=some z/\g=z.gen+1)->0<n->n*r.bytes<=140737488355328->n<=9223372036854775807->Sound P c w (Builtin.append_ #[t,t2] ty #[.slice base 0 0,cy]) (.sl b g 0 n r.size) (h.set b (.cells g K)):=by intro base hold b g d hg hpos hbn h63;have N:=Qb3 (P:=P) (w:=w) (ty:=ty) (t:=t) (t2:=t2) (dlen:=0) (dcap:=0) (base:=base) (cy:=cy) (olds:=[]) (us:=us) Q q p hi hz S.lenOf S.first (fun M _=>hold M) (by omega) (by simpa using hbn) (by simpa using h63);simp only[Zb1,ZaB]at N;have U:=Qhj w (need:=n) (old:=0) e;obtain⟨c',E',H',V'⟩:=Qe0 H d hg (e:=e) (rest:=(Builtin.zeroCells z.cells (grownCap w n 0 e-n)).toList) S.rels (len:=n) (cap:=grownCap w n 0 e) (sz:=r.size) U (by have I:=Qcs z.cells (grownCap w n 0 e-n);rw[hzs]at I;simp only[Zae,Array.length_toList,I,<-hul,hyl];rw[<-Zb0];simp_all);exact⟨_,c',_,N,E',H',V'⟩
  cases x<;>simp only at hm<;>try(simp[HM.run]at hm;done)
  case nilsl=>simp only[VRel]at L;subst L;cases n with|zero=>simp only[HM.run,Zaa,Zaj]at hm;obtain⟨rfl,rfl⟩:=hm;exact .here H (by simpa using Qbm (P:=P) (ty:=ty) (base:=none) (dlen:=0) (dcap:=0) Q q p hi S.lenOf (S.first w rfl) (by omega)) (by simp[VRel])|succ n=>obtain⟨b,g,d,hg,hm⟩:=Qc4 hm;simp only[HM.run,Zaa,Zaj]at hm;obtain⟨rfl,rfl⟩:=hm;simp only[slLen,Zb1]at X Y;exact fresh none (fun M=>by simp[Builtin.firstCells]) b g d hg (by omega) X (by omega)
  case esl=>
   simp only[VRel]at L;obtain⟨base,rfl⟩:=L;have hold:∀M,(Builtin.firstCells r.size 0 (.slice base 0 0)).run P M=.ok #[] M:=by intro M;cases base<;>simp[Builtin.firstCells,loadCells,loadCellsFrom]
   cases n with|zero=>
    simp only[HM.run,Zaa,Zaj]at hm;obtain⟨rfl,rfl⟩:=hm;have B:us=[]:=by grind
    have:=Qbm (P:=P) (ty:=ty) (base:=base) (dlen:=0) (dcap:=0) Q q p hi S.lenOf (S.first w rfl) (by omega);rw[B]at this;refine .here H (cv:=.slice base 0 0) ?_ (by simp[VRel]);rw[this];cases base<;>simp[storeCells]|succ n=>obtain⟨b,g,d,hg,hm⟩:=Qc4 hm;simp only[HM.run,Zaa,Zaj]at hm;obtain⟨rfl,rfl⟩:=hm;simp only[slLen,Zb1]at X Y;exact fresh base hold b g d hg (by omega) X (by omega)
  case fsl cs len s'=>cases n with|zero=>
   simp only[HM.run,Zaa,Zaj]at hm;obtain⟨rfl,rfl⟩:=hm;have B:us=[]:=by grind
   have hx':=L;simp only[VRel]at L;rcases L with⟨⟨a,rfl⟩,_,_⟩|⟨F,off,cap,C,e',fr,rfl,hlc,_⟩;·refine .here H (cv:=.slice a 0 0) ?_ hx';rw[Qbm (P:=P) (ty:=ty) (base:=a) (dlen:=0) (dcap:=0) Q q p hi S.lenOf (S.first w rfl) (by omega),B];cases a<;>simp[storeCells]
   refine .here H (cv:=.slice (some ⟨F,off,none⟩) len cap) ?_ hx';rw[Qbm (P:=P) (ty:=ty) (dlen:=len) (dcap:=cap) Q q p hi S.lenOf (S.first w rfl) (by omega),B];simp[storeCells]|succ n=>simp[HM.run]at hm
  case sl b g off len s'=>
   simp only[slLen]at X Y;split at hm
   ·rename_i e1;subst e1;obtain⟨cs,m,hm⟩:=Qba hm;split at hm
    ·rename_i hl;obtain⟨d,hm⟩:=QaY hm;simp only[HM.run,Zaa,Zaj]at hm;obtain⟨rfl,rfl⟩:=hm;have f:∀y,g<y->c.ρ b y=none:=fun y hy=>H.later b _ m y hy;have hxx:=L;simp only[VRel]at L;rcases L with⟨hp,rfl,rfl,rfl⟩|⟨F,base,o,cap,C,e',fr,hp,rfl,hlc,hC,hcap⟩
     ·have hcs:cs=[]:=by
       rcases H.blk b _ m with⟨_,h2⟩|⟨_,_,_,_,_,h1,_⟩;·exact h2
       simp_all
      subst hcs;simp only[Zb1,Nat.zero_mul,List.drop_nil,List.take_nil,ZaB];by_cases hn:n=0
      ·subst hn;have V:K=[]:=by grind
       have B:us=[]:=by grind
       subst V;obtain⟨E,H'⟩:=H.putNil (b:=b) (g:=g+1) d (fun y hy=>f y (by omega)) (.inl (f _ (by omega)));refine⟨.slice none 0 0,_,w,?_,E,H',?_⟩;·rw[Qbm (P:=P) (ty:=ty) (base:=none) (dlen:=0) (dcap:=0) Q q p hi S.lenOf (S.first w rfl) (by omega)]
       simp_all[VRel,QaX]
      exact fresh none (fun M=>by simp[Builtin.firstCells]) b (g+1) d (.inr ⟨_,m,rfl⟩) (by omega) (by simpa using X) (by omega)
     obtain⟨C',e2,fr',hO,hC',hfr,hbs,O⟩:=H.here m hp;rw[hC]at hC';cases hC';have R:=Qa2 hC;have hcl:=Qa7 O;simp at hcl;have J:=QaE O off (len*r.size) hl;rw[ZaU]at J;by_cases A:len+n<=cap
     ·have l:=Qbm (P:=P) (w:=w) (ty:=ty) (base:=some ⟨F,o,none⟩) (dlen:=len) (dcap:=cap) Q q p hi S.lenOf (S.first w rfl) A;simp only[QbT]at l;by_cases hc0:cap=0
      ·have hl0:len=0:=by omega
       have hn0:n=0:=by omega
       subst hl0;subst hn0;subst hc0;have V:K=[]:=by grind
       have B:us=[]:=by grind
       subst V;subst B;simp only[Nat.zero_mul,List.take_zero,ZaB,storeCells,Sem.run_pure,Result.andThen_ok]at l⊢;have:=H.put (b:=b) (cb:=F) (base:=base) (x:=.cells (g+1) []) (w':=w) d (fun y hy=>f y (by grind[Blk.gen])) (.inl (f _ (by simp[Blk.gen]))) (.inr ⟨g,base,⟨_,m,rfl,fun k=>by simp⟩,hp⟩) rfl rfl rfl (ZaO _) R (fun _ _ _=>rfl) (fun C2 e2 fr2 h2=>⟨C2,fr2,h2,rfl⟩) (fun E=>.inr ⟨F,base,C,e',fr,QaX,.inr rfl,hC,hfr,hbs,by simp[VPre]⟩);refine⟨_,_,_,l,this.1,this.2,?_⟩;simp only[VRel];exact .inr ⟨F,base,o,0,C,e',fr,QaX,rfl,by omega,hC,.inl rfl⟩
      obtain⟨rfl,hbnd⟩:=hcap.resolve_left hc0;have hmul:(len+n)*r.size<=cap*r.size:=Za1 _ A;rw[Zb0]at hmul;have hst:=Qc3 (P:=P) (cb:=F) (o:=base+off+len*r.size) us 0 w C hC hfr (by omega) Z;simp only[Nat.add_zero]at hst;rw[hst]at l;simp only[Result.andThen_ok]at l;have hpl:(putL C.toList (base+off+len*r.size) us).length=C.size:=by grind[Qez]
      have:=H.put (b:=b) (cb:=F) (base:=base+off) (x:=.cells (g+1) (List.take (len*r.size) (List.drop off cs)++K)) (w':=upd w F (.cells (putL C.toList (base+off+len*r.size) us).toArray e' fr)) d (fun y hy=>f y (by grind[Blk.gen])) (.inl (f _ (by simp[Blk.gen]))) (.inr ⟨g,base,⟨_,m,rfl,fun k=>by simp⟩,hp⟩) rfl rfl rfl (by simp[upd]) (by simp_all[upd]) (fun k _ hne=>QfF hne) (fun C2 e2 fr2 h2=>by simp_all[Qc2]) (fun E=>.inr ⟨F,base+off,_,e',fr,QaX,.inr rfl,Qc2 R,by simp_all,by grind,by have e5:=QoE (C:=C.toList) (us:=us) (base:=base+off) (off:=len*r.size) (by simp;omega);rw[List.toList_toArray,e5];exact Qhg (Qbl (Zb9 (E.ext H.disj) _ _ J) (Zb9 (E.ext H.disj) _ _ S.rels))⟩);refine⟨_,_,_,l,this.1,this.2,?_⟩;simp only[VRel];exact .inr ⟨F,base+off,base+off,cap,_,e',fr,QaX,rfl,A,Qc2 R,.inr ⟨by omega,by simp_all⟩⟩
     obtain⟨olds,So⟩:=QeA (P:=P) H hxx m hl;have l:=Qb3 (P:=P) (w:=w) (ty:=ty) (t:=t) (t2:=t2) (dlen:=len) (dcap:=cap) (base:=some ⟨F,o,none⟩) (cy:=cy) (olds:=olds) (us:=us) Q q p hi hz S.lenOf S.first So.first (by omega) X (by omega);have U:=Qhj w (need:=len+n) (old:=cap) e;have hol:=QaC So.rels;have hol2:=So.len;obtain⟨c',E',H',V'⟩:=Qe0 H d (.inr ⟨_,m,rfl⟩:h.get b=none/\g+1=0\/∃z,h.get b=some z/\g+1=z.gen+1) (e:=e) (rest:=(Builtin.zeroCells z.cells (grownCap w (len+n) cap e-(len+n))).toList) (Qbl So.rels S.rels) (len:=len+n) (cap:=grownCap w (len+n) cap e) (sz:=r.size) U (by have I:=Qcs z.cells (grownCap w (len+n) cap e-(len+n));rw[hzs]at I;simp only[Zae,Array.length_toList,I,<-hul,hyl,<-hol,hol2];rw[<-Zb0,<-Zb0];simp_all);exact⟨_,c',_,l,E',H',V'⟩
    grind[HM.run]
   grind[HM.run]
 simp_all[if_neg,HM.run]
end Go.AM
