/- Lemmas on the way to ExplainEventsCardSaid. Conditions: none of ours. -/
import Derived.Laws.Tables
import Derived.Test.YtgfnbkngfedlkaaGreatDoorAmW0
set_option linter.unusedSectionVars false
set_option maxHeartbeats 32000000
set_option maxRecDepth 100000
set_option linter.unusedVariables false
set_option linter.unusedSimpArgs false
namespace Go.AM
variable{P:Program}{ok:Okc}{c:Ctx ok}{w:World}{h:Heap}
theorem QaB:∀{xs:List AV}{vs:List Value},VRels c w xs vs->xs.length=vs.length|[],vs,a=>by simp_all[VRels]|x::xs,vs,a=>by simp only[VRels]at a;obtain⟨v,d,rfl,_,b⟩:=a;simp[QaB b]
theorem QaP:∀{xs:List AV}{vs:List Value},VRels c w xs vs->VPre c w xs vs|[],vs,b=>by simp[VPre]|x::xs,vs,b=>by simp only[VRels]at b;obtain⟨v,a,rfl,h1,d⟩:=b;simp only[VPre];exact⟨v,a,rfl,h1,QaP d⟩
theorem Qbe:∀{xs:List AV}{vs:List Value},VPre c w xs vs->xs.length<=vs.length|[],vs,a=>by simp|x::xs,vs,a=>by simp only[VPre]at a;obtain⟨v,d,rfl,_,b⟩:=a;have:=Qbe b;simp;omega
theorem Qdf:∀{xs:List AV}{vs:List Value}(i:Nat){x:AV},VPre c w xs vs->xs[i]?=some x->∃v,vs[i]?=some v/\VRel c w x v|[],vs,i,x,a,hi=>by simp at hi|y::xs,vs,i,x,a,hi=>by simp only[VPre]at a;obtain⟨v,d,rfl,h1,b⟩:=a;cases i with|zero=>simp at hi;subst hi;exact⟨v,by simp,h1⟩|succ i=>simp at hi;simpa using Qdf i b hi
theorem Qcr{xs:List AV}{vs:List Value}(i:Nat){x:AV}(a:VRels c w xs vs)(hi:xs[i]?=some x):∃v,vs[i]?=some v/\VRel c w x v:=Qdf i (QaP a) hi
theorem Qba:∀(n:Nat){xs:List AV}{vs:List Value},VPre c w xs vs->VPre c w (xs.drop n) (vs.drop n)|0,xs,vs,a=>by simpa using a|n+1,[],vs,a=>by simp[VPre]|n+1,x::xs,vs,a=>by simp only[VPre]at a;obtain⟨v,d,rfl,h1,b⟩:=a;simpa using Qba n b
theorem Qb7:∀(n:Nat){xs:List AV}{vs:List Value},VPre c w xs vs->VPre c w (xs.take n) vs|0,xs,vs,a=>by simp[VPre]|n+1,[],vs,a=>by simp[VPre]|n+1,x::xs,vs,a=>by simp only[VPre]at a;obtain⟨v,b,rfl,h1,d⟩:=a;simp only[Za7,VPre];exact⟨v,b,rfl,h1,Qb7 n d⟩
theorem QeO:∀{xs:List AV}{vs:List Value},VPre c w xs vs->VRels c w xs (vs.take xs.length)|[],vs,a=>by simp[VRels]|x::xs,vs,a=>by simp only[VPre]at a;obtain⟨v,d,rfl,h1,b⟩:=a;simp only[ZaF,Za7,VRels];exact⟨v,_,rfl,h1,QeO b⟩
theorem Qe0:∀{xs ys:List AV}{us vs:List Value},VRels c w xs us->VPre c w ys vs->VPre c w (xs++ys) (us++vs)|[],ys,us,vs,h1,a=>by simp_all[VRels]|x::xs,ys,us,vs,h1,a=>by simp only[VRels]at h1;obtain⟨v,b,rfl,k1,k2⟩:=h1;simp only[Za0,VPre];exact⟨v,_,rfl,k1,Qe0 k2 a⟩
theorem Qbq:∀{xs ys:List AV}{us vs:List Value},VRels c w xs us->VRels c w ys vs->VRels c w (xs++ys) (us++vs)|[],ys,us,vs,h1,a=>by simp_all[VRels]|x::xs,ys,us,vs,h1,a=>by simp only[VRels]at h1;obtain⟨v,b,rfl,k1,k2⟩:=h1;simp only[Za0,VRels];exact⟨v,_,rfl,k1,Qbq k2 a⟩
theorem Qh5{xs:List AV}{us vs:List Value}(h1:VRels c w xs us):VPre c w xs (us++vs):=by have:=Qe0 (ys:=[]) (vs:=vs) h1 (by simp[VPre]);simp_all
theorem QaD{xs:List AV}{vs:List Value}(a:VPre c w xs vs)(off n:Nat)(b:off+n<=xs.length):VRels c w ((xs.drop off).take n) ((vs.drop off).take n):=by have h1:=Qb7 n (Qba off a);have d:=QeO h1;grind
theorem Qc3{x:AV}{v:Value}(a:VRel c w x v)(ho:(x.cells.all AV.one)=true):VRels c w x.cells v.cells.toList/\∀u∈v.cells.toList,u.oneCell'=true:=by
 have one:∀(x:AV)(v:Value),VRel c w x v->x.one=true->v.oneCell'=true/\(∀cs,x≠.agg cs):=by intro x v a ho;cases x<;>simp only[AV.one]at ho<;>first|(exact absurd ho (by decide))|(simp only[VRel]at a;refine⟨?_,fun cs=>by simp⟩;first
  |(subst a;rfl)|(rcases a with⟨_,_,_,rfl⟩|⟨_,_,_,_,_,_,_,_,rfl,_⟩<;>rfl)|(rcases a with⟨⟨_,rfl⟩,_⟩|⟨_,_,_,_,_,_,rfl,_⟩<;>rfl)|(obtain⟨_,_,_,rfl⟩:=a;rfl)|(obtain⟨_,_,_,_,_,rfl,_⟩:=a;rfl)|(obtain⟨_,_,_,rfl,_⟩:=a;rfl)|(obtain⟨_,rfl⟩:=a;rfl)|(obtain⟨_,_,rfl⟩:=a;rfl)|(obtain⟨_,_,rfl,_⟩:=a;rfl)|(obtain⟨_,rfl,_⟩:=a;rfl)
  | (rcases a.1 with⟨_,_,_,h1,_⟩|⟨_,_,_,_,rfl,_⟩;·rcases h1 with rfl|⟨_,_,_,rfl⟩<;>rfl
     ·rfl))
 by_cases b:∃cs,x=.agg cs
 ·obtain⟨cs,rfl⟩:=b;simp only[VRel]at a;obtain⟨l,rfl,a⟩:=a;refine⟨by grind[AV.cells,Value.cells],fun u g=>?_⟩;simp only[Value.cells]at g;obtain⟨i,hi,rfl⟩:=Zcb.1 g;have m:=QaB a;have d:i<cs.length:=by omega
  obtain⟨v,h,k⟩:=Qcr i a (Zal d);grind[AV.cells]
 have e:x.cells=[x]:=by cases x<;>first|rfl|exact absurd ⟨_,rfl⟩ b
 rw[e]at ho⊢;have f:x.one=true:=by simpa using ho
 obtain⟨h1,o⟩:=one x v a f;have ev:v.cells=#[v]:=by cases v<;>first|rfl|simp[Value.oneCell']at h1
 simp_all[VRels]
theorem Qeb{w:World}{cb o:Nat}{C:Array Value}{e:TypeId}{a:Nat×Nat}(b:w.heap[cb]?=some (.cells C e a)):w.cell? ⟨cb,o,none⟩=C[o]?:=by simp[World.cell?,b]
theorem QbL(cb o j:Nat):Addr.add ⟨cb,o,none⟩ j=⟨cb,o+j,none⟩:=by simp_all[Addr.add]
theorem Qbv{w:World}{cb o n:Nat}{C:Array Value}{e:TypeId}{a:Nat×Nat}(d:w.heap[cb]?=some (.cells C e a))(b:n=0\/o+n<=C.size):(loadCells ⟨cb,o,none⟩ n).run P w=.ok ((C.toList.drop o).take n).toArray w:=by have:=run_loadCells_list (P:=P) w ⟨cb,o,none⟩ ((C.toList.drop o).take n) (fun j v c=>by grind[QbL,Qeb]);grind
def Sound(P:Program)(c:Ctx ok)(w:World)(s:Sem Value)(v:AV)(h':Heap):Prop:=∃d b a,s.run P w=.ok d a/\Evo c w b a/\HRel b h' a/\VRel b a v d
theorem Sound.here(H:HRel c h w){s:Sem Value}{v:AV}{cv:Value}(b:s.run P w=.ok cv w)(a:VRel c w v cv):Sound P c w s v h:=⟨cv,c,w,b,.refl c w,H,a⟩
def rowT(P:Program)(t:TypeId)(n:Option Nat):Bool:=match P.underlying t,P.info? t with|some (.struct _),some i=>n==some i.size|some (.array _ _),some i=>n==some i.size|some _,some _=>n==none|_,_=>false
theorem QaI{t:TypeId}{i:TypeInfo}(hi:P.info? t=some i)(w:World):(sizeOf t).run P w=.ok i.size w:=by simp[sizeOf,typeInfo,hi]
theorem QcQ{t:TypeId}(a:rowT P t none=true)(w:World):(isAgg t).run P w=.ok false w:=by unfold rowT at a;unfold isAgg;cases b:P.underlying t with|none=>simp[b]at a|some d=>simp only[Sem.run_bind,run_underlying b,Result.andThen_ok];cases hi:P.info? t with|none=>cases d<;>simp[b,hi]at a|some i=>cases d<;>simp[b,hi]at a<;>rfl
theorem QcR{t:TypeId}{n:Nat}(a:rowT P t (some n)=true)(w:World):(isAgg t).run P w=.ok true w/\(sizeOf t).run P w=.ok n w:=by unfold rowT at a;unfold isAgg;cases b:P.underlying t with|none=>simp[b]at a|some d=>simp only[Sem.run_bind,run_underlying b,Result.andThen_ok];cases hi:P.info? t with|none=>cases d<;>simp[b,hi]at a|some i=>rw[QaI hi];cases d<;>simp[b,hi]at a<;>subst a<;>exact⟨rfl,rfl⟩
theorem Qa6{α:Type}{b g:Nat}{k:List AV->HM α}{r:α×Heap}(hm:(HM.cells b g k).run h=some r):∃cs,h.get b=some (.cells g cs)/\(k cs).run h=some r:=by
 simp only[HM.cells,HM.run]at hm;split at hm;·rename_i a cs c;cases e:Nat.beq a g with|false=>rw[e]at hm;simp[HM.run]at hm|true=>
  rw[e]at hm;have:a=g:=by simpa using e
  subst this;exact⟨cs,c,hm⟩
 grind[HM.run]
theorem HRel.here(H:HRel c h w){b g:Nat}{cs:List AV}(i:h.get b=some (.cells g cs)){cb base:Nat}(hp:c.ρ b g=some (.loc cb base)):∃C e d,c.O cb/\w.heap[cb]?=some (.cells C e d)/\Unfrozen d C.size/\base<=C.size/\VPre c w cs (C.toList.drop base):=by
 rcases H.blk b _ i with⟨h1,_⟩|⟨f,a,C,e,d,h1,o,l,p,k,m⟩;·simp_all
 grind
theorem Qo5{t:TypeId}{n:Option Nat}{x v:AV}{s:Value}{h':Heap}(H:HRel c h w)(i:VRel c w x s)(k:rowT P t n=true)(hm:(aLoad n x).run h=some (v,h')):Sound P c w (Instr.loadAt t s) v h':=by
 cases x<;>simp only[aLoad,HM.run]at hm<;>try(cases hm;done)
 case ptr b g off=>obtain⟨cs,A,hm⟩:=Qa6 hm;simp only[VRel]at i;obtain⟨E,base,hp,rfl⟩:=i;obtain⟨C,e,z,I,f,B,y,a⟩:=H.here A hp;cases n with
  |none=>cases l:cs[off]? with|none=>simp[l,HM.opt,HM.run]at hm|some u=>simp only[l,HM.opt,HM.run,Zab,Zaj]at hm;obtain⟨rfl,rfl⟩:=hm;obtain⟨q,d,o⟩:=Qdf off a l;rw[ZbH,ZaR]at d;exact .here H (cv:=q) (by simp[Instr.loadAt,Instr.sureAddr,loadVar,QcQ k,Qeb f,d]) o
  |some n=>
   simp only at hm;split at hm;·rename_i r;simp only[HM.run,Zab,Zaj]at hm;obtain⟨rfl,rfl⟩:=hm;obtain⟨p,m⟩:=QcR k w;have hlen:=Qbe a;simp at hlen;refine .here H (cv:=.agg ((C.toList.drop (base+off)).take n).toArray) (by simp[Instr.loadAt,Instr.sureAddr,loadVar,p,m,Qbv (P:=P) (n:=n) (o:=base+off) f (by omega)]) ?_;simp only[VRel];refine⟨_,rfl,?_⟩;have:=QaD a off n r;simp_all
   simp[HM.run]at hm
 case fptr cs=>simp only[VRel]at i;obtain⟨E,off,C,e,z,rfl,G,f,a⟩:=i;cases n with
  |none=>cases cs with|nil=>simp[HM.opt,HM.run]at hm|cons u cs=>simp only[HM.opt,Zbc,HM.run,Zab,Zaj]at hm;obtain⟨rfl,rfl⟩:=hm;obtain⟨q,d,o⟩:=Qdf 0 a (x:=u) rfl;rw[ZbH,ZaR]at d;exact .here H (cv:=q) (by simp[Instr.loadAt,Instr.sureAddr,loadVar,QcQ k,Qeb f];simp_all) o
  |some n=>
   simp only at hm;split at hm;·rename_i r;simp only[HM.run,Zab,Zaj]at hm;obtain⟨rfl,rfl⟩:=hm;obtain⟨p,m⟩:=QcR k w;have hlen:=Qbe a;simp at hlen;refine .here H (cv:=.agg ((C.toList.drop off).take n).toArray) (by simp[Instr.loadAt,Instr.sureAddr,loadVar,p,m,Qbv (P:=P) (n:=n) (o:=off) f (by omega)]) ?_;simp only[VRel];refine⟨_,rfl,?_⟩;have:=QaD a 0 n (by simpa using r);simp_all
   simp[HM.run]at hm
def upd(w:World)(cb:Nat)(o:Obj):World:={w with heap:=w.heap.setIfInBounds cb o}
theorem Qdg{w:World}{cb:Nat}{o:Obj}(a:cb<w.heap.size):(upd w cb o).heap[cb]?=some o:=by simp[upd,a]
theorem Qgi{w:World}{cb k:Nat}{o:Obj}(a:k≠cb):(upd w cb o).heap[k]?=w.heap[k]?:=by grind[upd]
theorem QsV{w:World}{cb:Nat}{o o':Obj}:upd (upd w cb o) cb o'=upd w cb o':=by simp[upd]
def putL(C:List Value)(o:Nat)(vs:List Value):List Value:=C.take o++vs++C.drop (o+vs.length)
theorem Qe1{C:List Value}{o:Nat}{vs:List Value}(a:o+vs.length<=C.length):(putL C o vs).length=C.length:=by simp[putL];omega
theorem Qh6{C:List Value}{o:Nat}:putL C o []=C:=by simp[putL]
theorem Qj4{C:List Value}{o:Nat}{v:Value}{vs:List Value}(a:o<C.length):putL (C.set o v) (o+1) vs=putL C o (v::vs):=by
 simp only[putL,ZaF];rw[List.take_set,List.drop_set,if_pos (by omega)];rw[show o+1+vs.length=o+(vs.length+1)by omega];have:(C.take (o+1)).set o v=C.take o++[v]:=by apply ZbA;grind
 rw[this];simp
theorem Qnr{w:World}{cb o:Nat}{C:Array Value}{e:TypeId}{a:Nat×Nat}(b:w.heap[cb]?=some (.cells C e a))(v:Value):w.setCell ⟨cb,o,none⟩ v=upd w cb (.cells (C.setIfInBounds o v) e a):=by have c:=QaY b;unfold World.setCell upd;congr 1;grind
theorem Qdh{cb o:Nat}{e:TypeId}{d:Nat×Nat}:∀(vs:List Value)(i:Nat)(w:World)(C:Array Value),w.heap[cb]?=some (.cells C e d)->Unfrozen d C.size->o+i+vs.length<=C.size->(∀v∈vs,v.oneCell'=true)->(storeCells ⟨cb,o,none⟩ vs i).run P w=.ok () (upd w cb (.cells (putL C.toList (o+i) vs).toArray e d))
 |[],i,w,C,f,_,_,_=>by
  simp only[storeCells,Sem.run_pure,Qh6];have m:upd w cb (.cells C e d)=w:=by show({w with heap:=_}:World)={w with heap:=w.heap};congr 1;grind
  simp_all|v::vs,i,w,C,f,c,k,a=>by
  simp only[ZaF]at k;have b:w.cell? ⟨cb,o+i,none⟩=some C[o+i]:=by rw[Qeb f];simp_all
  have h:w.frozen? ⟨cb,o+i,none⟩=false:=by have:=c (o+i) (by omega);simp_all[World.frozen?]
  have g:=QaY f;simp only[storeCells,Sem.run_bind,QbL];rw[run_store P w _ v _ (a v (by simp)),b,h];simp only[Zao,if_false,Result.andThen_ok];rw[Qnr f,Qdh vs (i+1) _ (C.setIfInBounds (o+i) v) (Qdg g) (by simpa using c) (by simp;omega) (fun u l=>a u (by simp[l]))];grind[QsV,Qj4]
theorem Qe9(cs:List AV)(off:Nat)(vs:List AV)(a:off+vs.length<=cs.length):putR cs off vs=cs.take off++vs++cs.drop (off+vs.length):=by
 unfold putR;split;·rename_i v;simp only[Zbk]at a⊢;rw[List.set_eq_take_append_cons_drop,if_pos (by omega)];simp
 rfl
theorem Qns(cs:List AV)(off:Nat)(vs:List AV)(a:off+vs.length<=cs.length):(putR cs off vs).length=cs.length:=by grind[Qe9]
theorem QlD{cs vs:List AV}{C us:List Value}{base off:Nat}(hp:VPre c w cs (C.drop base))(d:VRels c w vs us)(f:off+vs.length<=cs.length):VPre c w (putR cs off vs) ((putL C (base+off) us).drop base):=by
 have hlen:=QaB d;have a:=Qbe hp;simp at a;rw[Qe9 _ _ _ f];by_cases g:vs=[];·simp_all[VRels,Qh6]
 have b:0<vs.length:=List.length_pos_iff.2 g;have e:(putL C (base+off) us).drop base=((C.drop base).take off++us)++(C.drop base).drop (off+us.length):=by unfold putL;rw[ZaV,List.drop_append,ZaV];grind[ZaW]
 rw[e];refine Qe0 ?_ ?_;·refine Qbq ?_ d;have:=QaD hp 0 off (by omega);simp_all
 grind[Qba]
theorem QaX{c:Ctx ok}{b g:Nat}{p:Place}{cb:Option Nat}:(c.with b g p cb).ρ b g=some p:=by simp[Ctx.with]
theorem Qdi(H:HRel c h w){b g:Nat}{cs vs:List AV}{us:List Value}{off cb base:Nat}(i:h.get b=some (.cells g cs))(f:b<lim)(hp:c.ρ b g=some (.loc cb base))(x:off+vs.length<=cs.length)(t:VRels c w vs us)(d:∀u∈us,u.oneCell'=true):∃c' w',(storeCells ⟨cb,base+off,none⟩ us).run P w=.ok () w'/\Evo c w c' w'/\HRel c' (h.set b (.cells g (putR cs off vs))) w':=by
 obtain⟨C,e,s,I,r,p,z,a⟩:=H.here i hp;have o:=QaY r;have hlen:=QaB t;have l:=Qbe a;simp at l;have hbound:base+off+us.length<=C.size:=by omega
 have q:=Qdh (P:=P) (cb:=cb) (o:=base+off) us 0 w C r p (by omega) d;have B:(putL C.toList (base+off) us).length=C.size:=by simp_all[Qe1]
 have:=H.put (b:=b) (cb:=cb) (base:=base) (x:=.cells g (putR cs off vs)) (w':=upd w cb (.cells (putL C.toList (base+off) us).toArray e s)) f (fun y A=>H.later b _ i y A) (.inr hp) (.inr ⟨g,base,⟨_,i,rfl,fun k=>by simp⟩,hp⟩) rfl rfl rfl (by simp[upd]) (by simp_all[upd]) (fun k _ m=>Qgi m) (fun C2 G v J=>by simp_all[Qdg]) (fun E=>.inr ⟨cb,base,_,e,s,QaX,.inr rfl,Qdg o,by simp_all,by simp_all,by have:=QlD (base:=base) a t x;simpa using VPre.mono (E.ext H.disj) _ _ this⟩);grind
theorem QaU{α:Type}{b:Nat}{x:Blk}{k:HM α}{r:α×Heap}(hm:(HM.put b x k).run h=some r):b<lim/\k.run (h.set b x)=some r:=by simp only[HM.run]at hm;cases e:Nat.blt b lim with|false=>rw[e]at hm;cases hm|true=>rw[e]at hm;exact⟨by simp_all,hm⟩
def SoundU(P:Program)(c:Ctx ok)(w:World)(s:Sem Unit)(h':Heap):Prop:=∃b a,s.run P w=.ok () a/\Evo c w b a/\HRel b h' a
theorem Qnt{t:TypeId}{n:Nat}{x v r:AV}{i cv:Value}{h':Heap}(H:HRel c h w)(f:VRel c w x i)(m:VRel c w v cv)(z:∀w,(sizeOf t).run P w=.ok n w)(hm:(aStore n x v).run h=some (r,h')):SoundU P c w (Instr.storeAt t i cv) h':=by
 cases x<;>simp only[aStore,HM.run]at hm<;>try(cases hm;done)
 case ptr b g off=>
  obtain⟨cs,o,hm⟩:=Qa6 hm;split at hm
  ·rename_i a;obtain⟨h1,B,u⟩:=a;obtain⟨d,hm⟩:=QaU hm;simp only[HM.run,Zab,Zaj]at hm;obtain⟨_,rfl⟩:=hm;simp only[VRel]at f;obtain⟨A,base,hp,rfl⟩:=f;obtain⟨k1,k2⟩:=Qc3 m u;obtain⟨q,s,y,k,p⟩:=Qdi (P:=P) H o d hp (vs:=v.cells) (off:=off) (by omega) k1 k2;refine⟨q,s,?_,k,p⟩;have l:cv.cells.size=n:=by have:=QaB k1;simp_all
   simp_all[Instr.storeAt,Instr.sureAddr,storeVar]
  grind[HM.run]
theorem Qdj{α:Type}{s:Site}{i:Nat}{x:Nat->Blk}{k:Nat->Nat->HM α}{r:α×Heap}(hm:(HM.new s i x k).run h=some r):∃b g,b<lim/\(h.get b=none/\g=0\/∃z,h.get b=some z/\g=z.gen+1)/\(k b g).run (h.set b (x g))=some r:=by
 cases s with|dyn=>
  simp only[HM.new,HM.run]at hm;split at hm;·rename_i c;obtain⟨h1,a⟩:=QaU hm;exact⟨i,0,h1,.inl ⟨c,rfl⟩,a⟩
  simp[HM.run]at hm|st b=>
  simp only[HM.new,HM.run]at hm;split at hm;·rename_i c;obtain⟨h1,a⟩:=QaU hm;exact⟨b,0,h1,.inl ⟨c,rfl⟩,a⟩
  rename_i z c;obtain⟨h1,a⟩:=QaU hm;exact⟨b,z.gen+1,h1,.inr ⟨z,c,rfl⟩,a⟩
theorem HRel.newCells(H:HRel c h w){b g:Nat}(f:b<lim)(r:h.get b=none/\g=0\/∃z,h.get b=some z/\g=z.gen+1){cs:List AV}{C:Array Value}{e:TypeId}(d:VPre c w cs C.toList):∃c',c'.ρ b g=some (.loc w.heap.size 0)/\Evo c w c' (w.alloc (.cells C e))/\HRel c' (h.set b (.cells g cs)) (w.alloc (.cells C e)):=by
 have a:∀y,g<=y->c.ρ b y=none:=by
  intro y m;rcases r with⟨h1,o⟩|⟨z,h1,o⟩;·exact H.fresh b h1 y
  exact H.later b z h1 y (by omega)
 have l:(w.alloc (.cells C e)).heap[w.heap.size]?=some (.cells C e):=by show(w.heap.push _)[w.heap.size]?=_;simp
 have:=H.put (b:=b) (cb:=w.heap.size) (base:=0) (x:=.cells g cs) (w':=w.alloc (.cells C e)) f (fun y m=>a y (Nat.le_of_lt m)) (.inl (a g (ZaM _))) (.inl rfl) rfl rfl rfl (by simp) (by simp) (fun k p _=>Go.RowKit.Below.heap_alloc w _ k p) (fun C2 s q o=>by simp_all) (fun E=>.inr ⟨w.heap.size,0,C,e,(0,0),QaX,.inr rfl,l,fun i _=>by omega,by omega,by simpa using VPre.mono (E.ext H.disj) _ _ d⟩);exact⟨_,QaX,this.1,this.2⟩
theorem VRel_cells'{x:AV}{v:Value}(b:VRel c w x v)(ho:x.boxable=true):VRels c w x.cells v.cells.toList:=by
 by_cases a:∃cs,x=.agg cs;·obtain⟨cs,rfl⟩:=a;simp only[VRel]at b;obtain⟨d,rfl,b⟩:=b;grind[AV.cells,Value.cells]
 refine(Qc3 b ?_).1;cases x<;>first|rfl|(simp[AV.boxable]at ho;done)|exact absurd ⟨_,rfl⟩ a
theorem Qj5{e:TypeId}{s:Site}{i:Nat}{x v:AV}{d:Value}{h':Heap}(H:HRel c h w)(m:VRel c w x d)(hm:(aBox s i x).run h=some (v,h')):Sound P c w (Instr.box e d) v h':=by
 unfold aBox at hm;split at hm
 ·rename_i p;obtain⟨b,g,a,o,hm⟩:=Qdj hm;simp only[HM.run,Zab,Zaj]at hm;obtain⟨rfl,rfl⟩:=hm;obtain⟨k,hp,l,f⟩:=H.newCells a o (C:=d.cells) (e:=e) (QaP (VRel_cells' m p));refine⟨.pointer (some ⟨w.heap.size,0,none⟩),k,_,?_,l,f,?_⟩;·simp[Instr.box,newVar,newRow]
  simp_all[VRel]
 grind[HM.run]
mutual def cOK:AV->Value->Bool|.any,_=>true|.bool b,.bool b'=>b==b'|.int k n,.int k' n'=>k==k'&&n==n'|.str s,.string bs=>s==bs.data.toList|.nilptr,.pointer none=>true|.nilsl,.slice none 0 0=>true|.nilmap,.map none=>true|.nilfn,.nilFunc=>true|.nilif,.nilIface=>true|.agg cs,.agg vs=>cOKs cs vs.toList|.tup cs,.tuple vs=>cOKs cs vs.toList|_,_=>false termination_by structural x=>x def cOKs:List AV->List Value->Bool|[],[]=>true|x::xs,v::vs=>cOK x v&&cOKs xs vs|_,_=>false termination_by structural x=>x end
mutual theorem Qec:∀(x:AV)(v:Value),cOK x v=true->VRel c w x v|.any,_,_=>by simp[VRel]|.bool b,v,hh=>by cases v<;>simp_all[cOK,VRel]|.int k n,v,hh=>by cases v<;>simp_all[cOK,VRel]|.str s,v,hh=>by cases v<;>simp_all[cOK,VRel]|.agg cs,v,hh=>by cases v<;>simp only[cOK,Zao]at hh;simp only[VRel];exact⟨_,rfl,Qcd cs _ hh⟩|.tup cs,v,hh=>by cases v<;>simp only[cOK,Zao]at hh;simp only[VRel];exact⟨_,rfl,Qcd cs _ hh⟩|.nilptr,v,hh=>by grind[cOK,VRel]|.nilsl,v,hh=>by grind[cOK,VRel]|.nilmap,v,hh=>by grind[cOK,VRel]|.nilfn,v,hh=>by grind[cOK,VRel]|.nilif,v,hh=>by grind[cOK,VRel]|.ptr _ _ _,v,hh=>by simp[cOK]at hh|.fptr _,v,hh=>by simp[cOK]at hh|.sl _ _ _ _ _,v,hh=>by simp[cOK]at hh|.fsl _ _ _,v,hh=>by simp[cOK]at hh|.esl,v,hh=>by simp[cOK]at hh|.nsl,v,hh=>by simp[cOK]at hh|.map _ _,v,hh=>by simp[cOK]at hh|.fmap _ _,v,hh=>by simp[cOK]at hh|.fn _ _ _,v,hh=>by simp[cOK]at hh|.ifc _ _,v,hh=>by simp[cOK]at hh theorem Qcd:∀(xs:List AV)(vs:List Value),cOKs xs vs=true->VRels c w xs vs|[],vs,hh=>by grind[cOKs,VRels]|x::xs,[],hh=>by simp[cOKs]at hh|x::xs,v::vs,hh=>by simp only[cOKs,Zaa]at hh;simp only[VRels];exact⟨v,vs,rfl,Qec x v hh.1,Qcd xs vs hh.2⟩end
theorem Qnu{t:TypeId}{s:Site}{i:Nat}{z v:AV}{b:TypeInfo}{a:Value}{h':Heap}(H:HRel c h w)(hi:P.info? t=some b)(k:b.zero=some a)(hc:cOK z a=true)(hm:(aBox s i z).run h=some (v,h')):Sound P c w (Instr.alloc t true (.tuple #[])) v h':=by have:=Qj5 (P:=P) (e:=t) H (Qec (c:=c) (w:=w) z a hc) hm;obtain⟨g,f,d,l,h1⟩:=this;refine⟨g,f,d,?_,h1⟩;simp_all[Instr.alloc,Instr.box,zeroValue,typeInfo]
theorem Qj6(off:Nat):∀(l:List Value)(k:Nat)(cells:Array Value),off+k+l.length<=cells.size->((l.zipIdx k).foldl (fun(cs:Array Value)(p:Value×Nat)=>cs.setIfInBounds (off+p.2) p.1) cells).toList=putL cells.toList (off+k) l|[],k,cells,_=>by simp[Qh6]|v::l,k,cells,a=>by simp only[ZaF]at a;simp only[List.zipIdx_cons,ZaP];rw[Qj6 off l (k+1) _ (by simp;omega),Array.toList_setIfInBounds,<-Nat.add_assoc,Qj4 (by simp;omega)]
theorem QpL{cs vs:List AV}{C us:List Value}{off:Nat}(hp:VRels c w cs C)(b:VRels c w vs us)(d:off+vs.length<=cs.length):VRels c w (putR cs off vs) (putL C off us):=by have h1:=QlD (base:=0) (by simpa using QaP hp) b d;have f:=QeO h1;have hlen:=QaB hp;have a:=QaB b;simp_all[Qns,Za1,Qe1]
def PartsRel(c:Ctx ok)(w:World)(place:Nat->Option (Nat×Nat)):List (Nat×Nat×AV)->List (Nat×Value)->Prop|[],b=>b=[]|(off,size,x)::r,b=>∃i v a,b=(i,v)::a/\place i=some (off,size)/\VRel c w x v/\PartsRel c w place r a
theorem Qfy{place:Nat->Option (Nat×Nat)}:∀(parts:List (Nat×Nat×AV))(g:List (Nat×Value))(cs b:List AV)(cells:Array Value),PartsRel c w place parts g->VRels c w cs cells.toList->fillA cs parts=some b->∃a,Instr.fill place cells g=some a/\VRels c w b a.toList
 |[],g,cs,b,cells,hp,hc,hf=>by simp only[PartsRel]at hp;subst hp;simp only[fillA,Zab]at hf;subst hf;exact⟨cells,rfl,hc⟩|(off,size,x)::r,g,cs,b,cells,hp,hc,hf=>by
  simp only[PartsRel]at hp;obtain⟨i,v,h,rfl,o,q,s⟩:=hp;simp only[fillA]at hf;split at hf;·rename_i d;obtain⟨k1,k2,k3⟩:=d;have f:=VRel_cells' q k3;have hlen:=QaB f;have k:=QaB hc;simp at hlen k;have l:=Qj6 off v.cells.toList 0 cells (by simp;omega);have m:=QpL (off:=off) hc f (by omega);obtain⟨a,t,u⟩:=Qfy r h _ b (v.cells.zipIdx.foldl (fun cs(p:Value×Nat)=>cs.setIfInBounds (off+p.2) p.1) cells) s (by grind[Array.toList_zipIdx]) hf;simp_all[Instr.fill]
  cases hf
def placeOf(P:Program)(t:TypeId)(i:Nat):Option (Nat×Nat):=match P.underlying t with
 |some (.array _ e)=>match P.info? e with|some b=>some (i*b.size,b.size)|none=>none
 |some (.struct fields)=>match fields.toList.mapM (fun f=>(P.info? f.type).map fun i=>(f.offset,i.size))with|some a=>a[i]?|none=>none
 |_=>none
def zeroOf(P:Program)(t:TypeId):Option Value:=(P.info? t).bind (·.zero)
theorem Qnv{t:TypeId}{zero:List AV}{parts:List (Nat×Nat×AV)}{g:Array (Nat×Value)}{v:AV}{o:Value}(H:HRel c h w)(d:zeroOf P t=some o)(hc:cOKs zero o.cells.toList=true)(q:(∃n e k,P.underlying t=some (.array n e)/\P.info? e=some k)\/(∃fields a,P.underlying t=some (.struct fields)/\fields.toList.mapM (fun f=>(P.info? f.type).map fun i=>(f.offset,i.size))=some a))(hp:PartsRel c w (placeOf P t) parts g.toList)(hm:aBuild zero parts=some v):Sound P c w (Instr.build t g) v h:=by unfold aBuild at hm;cases hf:fillA zero parts with|none=>simp[hf]at hm|some cs=>simp only[hf,Zab]at hm;subst hm;obtain⟨b,h1,s⟩:=Qfy (place:=placeOf P t) parts g.toList zero cs o.cells hp (Qcd _ _ hc) hf;refine .here H (cv:=.agg b) (run_build w t g b ?_) (by simp only[VRel];simp_all);unfold zeroOf at d;cases hi:P.info? t with|none=>simp[hi]at d|some it=>
 simp only[hi,Option.bind_some]at d;unfold Program.built;rcases q with⟨n,e,k,p,m⟩|⟨fields,a,p,l⟩
 ·simp only[hi,p,d,m];have r:placeOf P t=fun i=>some (i*k.size,k.size):=by grind[placeOf]
  simp_all
 simp only[hi,p,d,l];have r:placeOf P t=fun i=>a.toArray[i]?:=by grind[placeOf]
 simp_all
theorem Qfa(H:HRel c h w){s:Site}{i:Nat}{cs:List AV}{C:Array Value}{e:TypeId}{len cap sz:Nat}{v:AV}{h':Heap}{run:Sem Value}(f:VPre c w cs C.toList)(k:len<=cap)(a:cap=0\/cap*sz<=C.size)(m:run.run P w=.ok (.slice (some ⟨w.heap.size,0,none⟩) len cap) (w.alloc (.cells C e)))(hm:(HM.new s i (fun g=>.cells g cs) fun b g=>.ret (.sl b g 0 len sz)).run h=some (v,h')):Sound P c w run v h':=by obtain⟨b,g,d,r,hm⟩:=Qdj hm;simp only[HM.run,Zab,Zaj]at hm;obtain⟨rfl,rfl⟩:=hm;obtain⟨q,hp,l,p⟩:=H.newCells d r (C:=C) (e:=e) f;refine⟨_,q,_,m,l,p,?_⟩;simp only[VRel];refine .inr ⟨_,0,0,cap,C,e,(0,0),hp,rfl,k,?_,a.imp id (fun o=>⟨by simp,by simpa using o⟩)⟩;show(w.heap.push _)[w.heap.size]?=_;simp
theorem QiF(H:HRel c h w){cs:List AV}{C:Array Value}{e:TypeId}{len cap sz:Nat}{run:Sem Value}(b:VPre c w cs C.toList)(d:len<=cap)(g:cs.length=len*sz)(i:run.run P w=.ok (.slice (some ⟨w.heap.size,0,none⟩) len cap) (w.alloc (.cells C e))):Sound P c w run (.fsl cs len sz) h:=by
 obtain⟨E,H1⟩:=H.grow (w':=w.alloc (.cells C e)) rfl rfl rfl (by simp) (fun k a=>Go.RowKit.Below.heap_alloc w _ k a);have H2:=H1.frozen (fun k=>c.F k\/k=w.heap.size) (fun k a=>.inl a) (fun k a=>by
  rcases a with a|a;·exact⟨H.disj k a,by have:=H.inF k a;simp;omega⟩
  subst a;exact⟨fun f=>by have:=H.inO _ f;omega,by simp⟩);have E2:Evo c w {c with F:=fun k=>c.F k\/k=w.heap.size} (w.alloc (.cells C e)):=⟨E.os,E.tape,E.output,E.size,E.shape,E.keep,E.rho,fun k a=>.inl a,fun k a=>a.imp id (fun h=>.inr (Nat.le_of_eq h.symm)),E.own,rfl⟩;refine⟨_,_,_,i,E2,H2,?_⟩;simp only[VRel];refine .inr ⟨_,0,cap,C,e,(0,0),rfl,d,g,.inr rfl,?_,?_⟩;·show(w.heap.push _)[w.heap.size]?=_;simp
 simpa using VPre.mono (E2.ext H.disj) _ _ b
def zeroRow(z:Array Value)(n:Nat):Array Value:=(Array.range n).map (z[·%z.size]!)
theorem run_buildSlice'(w:World)(t e:TypeId)(len:Nat)(parts:Array (Nat×Value))(cells:Array Value)(a:TypeInfo)(z:Value)(f:P.underlying t=some (.slice e))(b:P.info? e=some a)(g:a.zero=some z)(c:len*a.size<=16777216)(hf:Instr.fill (fun i=>some (i*a.size,a.size)) (zeroRow z.cells (len*a.size)) parts.toList=some cells):(Instr.buildSlice t len parts).run P w=.ok (.slice (some ⟨w.heap.size,0,none⟩) len len) (w.alloc (.cells cells e)):=by
 have h:¬16777216<len*a.size:=by omega
 by_cases d:len*a.size=0
 ·rw[d]at hf;have:zeroRow z.cells 0=#[]:=by simp[zeroRow]
  rw[this]at hf;simp only[Instr.buildSlice,Sem.run_bind,run_underlying f,Result.andThen_ok,QaI b];simp only[d];simp_all[Array.range,newRow]
 unfold zeroRow at hf;simp[Instr.buildSlice,run_underlying f,sizeOf,typeInfo,zeroValue,b,g,h,d,hf,newRow]
theorem Qh7{t e:TypeId}{frozen:Bool}{s:Site}{i sz len:Nat}{zero:List AV}{parts:List (Nat×Nat×AV)}{f:Array (Nat×Value)}{v:AV}{d:TypeInfo}{z:Value}{h':Heap}(H:HRel c h w)(q:P.underlying t=some (.slice e))(l:P.info? e=some d)(k:d.size=sz)(p:d.zero=some z)(a:len*sz<=16777216)(hc:cOKs zero (zeroRow z.cells (len*sz)).toList=true)(hp:PartsRel c w (fun i=>some (i*sz,sz)) parts f.toList)(hm:(aBuildSlice frozen s i sz len zero parts).run h=some (v,h')):Sound P c w (Instr.buildSlice t len f) v h':=by subst k;unfold aBuildSlice at hm;cases hf:fillA zero parts with|none=>simp[hf,HM.run]at hm|some cs=>
 simp only[hf]at hm;split at hm
 ·rename_i o;obtain⟨b,h1,g⟩:=Qfy parts f.toList zero cs (zeroRow z.cells (len*d.size)) hp (Qcd _ _ hc) hf;have hlen:=QaB g;simp at hlen;have m:=run_buildSlice' (P:=P) w t e len f b d z q l p a h1;split at hm
  ·split at hm;·simp only[HM.run,Zab,Zaj]at hm;obtain⟨rfl,rfl⟩:=hm;exact QiF H (QaP g) (ZaM _) o m
   grind[HM.run]
  exact Qfa H (QaP g) (ZaM _) (.inr (by omega)) m hm
 simp[HM.run]at hm
theorem Qnw(s k:Nat)(f:Nat->Value)(hf:∀i,f (i+s)=f i):(List.range (s+k)).map f=(List.range s).map f++(List.range k).map f:=by simp_all[List.range_add,Nat.add_comm]
theorem QcJ{zero:List AV}{z:Array Value}(a:VRels c w zero z.toList):∀k,VRels c w (List.replicate k zero).flatten (zeroRow z (k*z.size)).toList
 |0=>by simp[zeroRow,VRels]|k+1=>by
  have b:=QcJ a k;have e:(zeroRow z ((k+1)*z.size)).toList=z.toList++(zeroRow z (k*z.size)).toList:=by simp only[zeroRow,Array.toList_map,Array.toList_range];rw[show(k+1)*z.size=z.size+k*z.size by rw[Zbo];omega];rw[Qnw z.size _ (fun i=>z[i%z.size]!) (fun i=>by simp)];congr 1;apply ZbA;grind[Nat.mod_eq_of_lt]
  simp_all[Zbr,Qbq]
theorem QiG{t e:TypeId}{s:Site}{i sz bytes:Nat}{zero:List AV}{l n v:AV}{B y:Value}{d:TypeInfo}{z:Value}{h':Heap}(H:HRel c h w)(r:VRel c w l B)(x:VRel c w n y)(C:P.underlying t=some (.slice e))(b:P.info? e=some d)(p:d.size=sz)(o:d.bytes=bytes)(E:d.zero=some z)(I:z.cells.size=sz)(hc:cOKs zero z.cells.toList=true)(hm:(aMakeSlice s i sz bytes zero l n).run h=some (v,h')):Sound P c w (Instr.makeSlice t B y) v h':=by
 subst p;subst o;unfold aMakeSlice at hm;split at hm
 ·rename_i k1 k k2 a;split at hm
  ·rename_i f;obtain⟨h1,L,J,K⟩:=f;simp only[VRel]at r x;subst r;subst x;have w1:IntKind.i64.wrap k=k:=by rw[<-wr_eq];grind[wr_of,lo,hi]
   have w2:IntKind.i64.wrap a=a:=by rw[<-wr_eq];grind[wr_of,lo,hi]
   have g:VRels c w (List.replicate a.toNat zero).flatten (zeroRow z.cells (a.toNat*d.size)).toList:=by grind[QcJ,Qcd]
   refine Qfa H (cap:=a.toNat) (C:=zeroRow z.cells (a.toNat*d.size)) (e:=e) (QaP g) (by omega) (.inr (by simp[zeroRow])) ?_ hm;have q:¬a<0:=by omega
   have b2:¬281474976710656<(d.bytes:Int)*a:=by omega
   have A:¬k<0:=by omega
   have u:¬a<k:=by omega
   by_cases m:a.toNat*d.size=0
   ·have G:zeroRow z.cells 0=#[]:=by simp[zeroRow]
    simp only[Instr.makeSlice,Sem.run_bind,run_underlying C,Result.andThen_ok,asInt,asIntOf,Sem.run_pure,typeInfo,run_program,b,w1,w2,QaI b];simp only[q,b2,A,u,m,gt_iff_lt,decide_false,Bool.or_self,Zao,if_false,Sem.run_bind,Sem.run_pure,run_askRoom,Result.andThen_ok,Nat.reducePow,Int.reducePow,G];simp[newRow,QaI b,m,Array.range_zero']
   simp only[Instr.makeSlice,Sem.run_bind,run_underlying C,Result.andThen_ok,asInt,asIntOf,Sem.run_pure,typeInfo,run_program,b,w1,w2,QaI b];simp only[q,b2,A,u,m,gt_iff_lt,decide_false,Bool.or_self,Zao,if_false,Sem.run_bind,Sem.run_pure,run_askRoom,Result.andThen_ok,Nat.reducePow,Int.reducePow,zeroValue,typeInfo,run_program,b,E];simp_all[newRow,zeroRow,QaI]
  grind[HM.run]
 grind[HM.run]
end Go.AM
namespace Go.AM
variable{P:Program}{ok:Okc}{c:Ctx ok}{w:World}{h:Heap}
theorem HRel.drew(H:HRel c h w):Evo c w c w.drew/\HRel c h w.drew:=H.grow rfl rfl rfl (ZaM _) (fun _ _=>rfl)
theorem QpM{C us:List Value}{base off:Nat}(a:base+off<=C.length):(putL C (base+off) us).drop base=((C.drop base).take off++us)++(C.drop base).drop (off+us.length):=by unfold putL;rw[ZaV,List.drop_append,ZaV];grind[ZaW]
theorem HRel.putNil(H:HRel c h w){b g:Nat}(v:b<lim)(u:∀y,g<y->c.ρ b y=none)(M:c.ρ b g=none\/c.ρ b g=some .nil):Evo c w (c.with b g .nil none) w/\HRel (c.with b g .nil none) (h.set b (.cells g [])) w:=by
 have E:Evo c w (c.with b g .nil none) w:=by
  refine⟨rfl,rfl,rfl,ZaM _,fun _ C _ J h=>⟨C,J,h,rfl⟩,fun _ _ _=>rfl,?_,fun _ h=>h,fun _ h=>.inl h,?_,rfl⟩;·intro x1 y p hp;show(if x1=b/\y=g then some Place.nil else c.ρ x1 y)=some p;grind
  intro k l;rcases l with l|l;·exact .inl l
  cases l
 have G:∀k,(c.with b g .nil none).O k->c.O k:=fun k l=>l.elim id (fun e=>by cases e);refine⟨E,?_,?_,?_,?_,fun k K A=>H.disj k K (G k A),H.inF,fun k l=>H.inO k (G k l)⟩
 ·intro b2 a y;rw[Zck h v]at a;split at a;·cases a
  rename_i i;show(if b2=b/\y=g then some Place.nil else c.ρ b2 y)=none;rw[if_neg (fun e=>i e.1)];exact H.fresh b2 a y
 ·intro b2 x2 a y N;rw[Zck h v]at a;show(if b2=b/\y=g then some Place.nil else c.ρ b2 y)=none;split at a;·grind[Blk.gen]
  rename_i i;rw[if_neg (fun e=>i e.1)];exact H.later b2 x2 a y N
 ·intro b2 x2 a;rw[Zck h v]at a;split at a;·rename_i q;subst q;cases a;exact .inl ⟨QaX,rfl⟩
  rename_i i;refine Zcn (E.ext H.disj) ?_ (H.blk b2 x2 a);intro z o m hp;exact⟨.inl (H.owned ⟨x2,a,rfl,m⟩ hp),rfl⟩
 intro L R b2 Q z x o P I r s;obtain⟨x1,f,rfl,B⟩:=P;obtain⟨x2,d,rfl,m⟩:=I;rw[Zck h v]at f d;simp only[Ctx.with]at r s;by_cases q:L=b;·rw[if_pos q]at f;cases f;rw[if_pos ⟨q,rfl⟩]at r;cases r
 rw[if_neg q]at f;rw[if_neg (fun e=>q e.1)]at r;by_cases t:b2=b;·rw[if_pos t]at d;cases d;rw[if_pos ⟨t,rfl⟩]at s;cases s
 rw[if_neg t]at d;rw[if_neg (fun e=>t e.1)]at s;exact H.inj _ _ _ _ _ _ _ ⟨x1,f,rfl,B⟩ ⟨x2,d,rfl,m⟩ r s
structure SrcRel(P:Program)(c:Ctx ok)(w:World)(sz:Nat)(cy:Value)(ys:List AV)(n:Nat)(us:List Value):Prop where
 rels:VRels c w ys us
 len:ys.length=n*sz
 lenOf:∀w1,(Builtin.lenOf cy).run P w1=.ok n w1
 firstm:∀w1 m,m<=n->w1.heap=w.heap->(Builtin.firstCells sz m cy).run P w1=.ok (us.take (m*sz)).toArray w1
theorem SrcRel.first{P:Program}{c:Ctx ok}{w:World}{sz:Nat}{cy:Value}{ys:List AV}{n:Nat}{us:List Value}(S:SrcRel P c w sz cy ys n us):∀w1,w1.heap=w.heap->(Builtin.firstCells sz n cy).run P w1=.ok us.toArray w1:=by intro w1 hw;have h1:=S.firstm w1 n (ZaM _) hw;have a:=QaB S.rels;have b:=S.len;simp_all
theorem Qe2{b g off len sz:Nat}{cs:List AV}{cy:Value}(H:HRel c h w)(q:VRel c w (.sl b g off len sz) cy)(t:h.get b=some (.cells g cs))(u:off+len*sz<=cs.length):∃us,SrcRel P c w sz cy ((cs.drop off).take (len*sz)) len us:=by
 simp only[VRel]at q;rcases q with⟨hp,rfl,rfl,rfl⟩|⟨I,base,o,cap,C,e,B,hp,rfl,s,r,f⟩;·refine⟨[],⟨by simp[VRels],by simp,fun w1=>by simp[Builtin.lenOf],fun w1 m _ _=>by simp[Builtin.firstCells]⟩⟩
 obtain⟨C',G,v,E,d,z,A,a⟩:=H.here t hp;rw[r]at d;cases d;by_cases p:len*sz=0
 ·refine⟨[],⟨by simp[p,VRels],by simp[p],fun w1=>by simp[Builtin.lenOf],fun w1 m hm _=>?_⟩⟩;have k:m*sz=0:=by grind[Nat.mul_eq_zero]
  simp[Builtin.firstCells,k,loadCells,loadCellsFrom]
 have l:=Qbe a;simp at l;have i:cap≠0:=by grind
 obtain⟨rfl,y⟩:=f.resolve_left i;refine⟨(C.toList.drop (base+off)).take (len*sz),⟨?_,by simp;omega,fun w1=>by simp[Builtin.lenOf],fun w1 m hm x=>?_⟩⟩;·have :=QaD a off (len*sz) u;simp_all
 grind[Zba,Qbv,Builtin.firstCells]
theorem QcS{sz:Nat}{y:AV}{cy:Value}{k:List AV->Nat->HM AV}{r:AV×Heap}(H:HRel c h w)(hy:VRel c w y cy)(hm:(aSrc sz y k).run h=some r):∃ys n us,SrcRel P c w sz cy ys n us/\(k ys n).run h=some r:=by
 cases y<;>simp only[aSrc]at hm<;>try(cases hm;done)
 case sl b g off len s=>
  split at hm
  ·rename_i e;subst e;obtain⟨cs,hb,hm⟩:=Qa6 hm;split at hm;·rename_i hl;obtain⟨us,hs⟩:=Qe2 (P:=P) H hy hb hl;grind
   grind[HM.run]
  grind[HM.run]
 case fsl cs len s=>
  split at hm
  ·rename_i e;subst e;simp only[VRel]at hy;rcases hy with⟨⟨a,rfl⟩,rfl,rfl⟩|⟨cb,off,cap,C,e,fr,rfl,hlc,hlen,hF,hC,hpre⟩
   ·refine⟨[],0,[],⟨by simp[VRels],by simp,fun w1=>by simp[Builtin.lenOf],fun w1 m hm' _=>?_⟩,hm⟩;obtain rfl:m=0:=by omega
    cases a<;>simp[Builtin.firstCells,loadCells,loadCellsFrom]
   ·have hcl:=Qbe hpre;simp at hcl;refine⟨cs,len,(C.toList.drop off).take cs.length,⟨QeO hpre,hlen,fun w1=>by simp[Builtin.lenOf],fun w1 m hm' hw1=>?_⟩,hm⟩;grind[Zba,Qbv,Builtin.firstCells]
  grind[HM.run]
 case nilsl=>simp only[VRel]at hy;subst hy;exact⟨[],0,[],⟨by simp[VRels],by simp,fun w1=>by simp[Builtin.lenOf],fun w1 m _ _=>by simp[Builtin.firstCells]⟩,hm⟩
 case esl=>
  simp only[VRel]at hy;obtain⟨a,rfl⟩:=hy;refine⟨[],0,[],⟨by simp[VRels],by simp,fun w1=>by simp[Builtin.lenOf],fun w1 m hm' _=>?_⟩,hm⟩;obtain rfl:m=0:=by omega
  cases a<;>simp[Builtin.firstCells,loadCells,loadCellsFrom]
 case nsl=>
  simp only[VRel]at hy;obtain⟨a,k,rfl⟩:=hy;refine⟨[],0,[],⟨by simp[VRels],by simp,fun w1=>by simp[Builtin.lenOf],fun w1 m hm' _=>?_⟩,hm⟩;obtain rfl:m=0:=by omega
  simp[Builtin.firstCells,loadCells,loadCellsFrom]
 case str s=>
  split at hm
  ·rename_i e;subst e;simp only[VRel]at hy;subst hy;refine⟨_,_,s.map fun b=>Value.int .u8 b.toNat,⟨?_,by simp,fun w1=>by simp[Builtin.lenOf,ByteArray.size],fun w1 m hm' _=>?_⟩,hm⟩
   ·have :∀l:List UInt8,VRels c w (l.map fun b=>AV.int .u8 b.toNat) (l.map fun b=>Value.int .u8 b.toNat):=by intro l;induction l with|nil=>simp[VRels]|cons a l ih=>simp only[ZaJ,VRels];exact⟨_,_,rfl,by simp[VRel],ih⟩
    exact this s
   simp_all[Builtin.firstCells]
  grind[HM.run]
theorem QiH{need old bytes:Nat}(a:old<need)(c:need*bytes<=140737488355328):Builtin.nextslicecap need old*bytes<=281474976710656:=by have:=nextslicecap_le a;have b:Builtin.nextslicecap need old*bytes<=2*need*bytes:=Zba _ this;grind
theorem Qce{t t2 ty e:TypeId}{i:TypeInfo}{z:Value}{d:TypeDesc}{n dlen dcap:Nat}{base:Option Addr}{cy:Value}{olds us:List Value}(l:P.underlying t=some (.slice e))(f:P.underlying t2=some d)(h:∀k,d≠.int k)(hi:P.info? e=some i)(o:i.zero=some z)(hlen:∀w1,(Builtin.lenOf cy).run P w1=.ok n w1)(a:∀w1,w1.heap=w.heap->(Builtin.firstCells i.size n cy).run P w1=.ok us.toArray w1)(hold:∀w1,w1.heap=w.heap->(Builtin.firstCells i.size dlen (.slice base dlen dcap)).run P w1=.ok olds.toArray w1)(q:dcap<dlen+n)(r:(dlen+n)*i.bytes<=140737488355328)(m:dlen+n<=9223372036854775807):(Builtin.append_ #[t,t2] ty #[.slice base dlen dcap,cy]).run P w=.ok (.slice (some ⟨w.heap.size,0,none⟩) (dlen+n) (grownCap w (dlen+n) dcap e)) (w.drew.alloc (.cells (olds++us++(Builtin.zeroCells z.cells (grownCap w (dlen+n) dcap e-(dlen+n))).toList).toArray e)):=by
 have p:¬(dlen+n<=dcap):=by omega
 have b:¬(9223372036854775807<((dlen:Int)+(n:Int))):=by omega
 have c:¬(281474976710656<Builtin.nextslicecap (dlen+n) dcap*i.bytes):=by simp_all[QiH]
 have hf:=a w.drew rfl;have g:=hold w.drew rfl;have hm:(d matches .int _)=false:=by cases d<;>first|rfl|exact absurd rfl (h _)
 simp only[Builtin.append_,ZaR,List.getElem?_toArray,Zbl,ZbJ,Sem.run_bind,run_underlying l,run_underlying f,Result.andThen_ok,QaI hi,Sem.run_pure,hm];simp[typeInfo,zeroValue,hi,o,hlen,p,b,c,Question.forced,hf,g,newRow,grownCap];congr 2;simp_all
theorem Qh8(w:World){need old:Nat}(e:TypeId):need<=grownCap w need old e:=by unfold grownCap;exact Nat.le_add_right _ _
theorem Qbh{t t2 ty e:TypeId}{i:TypeInfo}{c:TypeDesc}{n dlen dcap:Nat}{base:Option Addr}{cy:Value}{us:List Value}(g:P.underlying t=some (.slice e))(f:P.underlying t2=some c)(d:∀k,c≠.int k)(hi:P.info? e=some i)(hlen:∀w1,(Builtin.lenOf cy).run P w1=.ok n w1)(b:(Builtin.firstCells i.size n cy).run P w=.ok us.toArray w)(h:dlen+n<=dcap):(Builtin.append_ #[t,t2] ty #[.slice base dlen dcap,cy]).run P w=(match base with|some a=>((storeCells (a.add (dlen*i.size)) us).run P w).andThen fun _ w'=>.ok (.slice base (dlen+n) dcap) w'|none=>.ok (.slice base (dlen+n) dcap) w):=by
 have hm:(c matches .int _)=false:=by cases c<;>first|rfl|exact absurd rfl (d _)
 simp only[Builtin.append_,ZaR,List.getElem?_toArray,Zbl,ZbJ,Sem.run_bind,run_underlying g,run_underlying f,Result.andThen_ok,QaI hi,Sem.run_pure,hm];cases base<;>simp[hlen,h,b]
structure AppT(P:Program)(t t2 e:TypeId)(sz bytes:Nat)(i:TypeInfo)(z:Value):Prop where
 ht:P.underlying t=some (.slice e)ht2:∃d2,P.underlying t2=some d2/\∀k,d2≠.int k
 hi:P.info? e=some i
 hz:i.zero=some z
 hsz:i.size=sz
 hby:i.bytes=bytes
 hzs:z.cells.size=sz
theorem QcE(z:Array Value)(n:Nat):(Builtin.zeroCells z n).size=n*z.size:=by simp[Builtin.zeroCells]
theorem Qfz(H:HRel c h w){b g:Nat}(a:b<lim)(i:h.get b=none/\g=0\/∃z,h.get b=some z/\g=z.gen+1){cs:List AV}{us:List Value}{rest:List Value}{e:TypeId}(l:VRels c w cs us){len cap sz:Nat}(d:len<=cap)(f:cap*sz<=(us++rest).length):∃c',Evo c w c' (w.drew.alloc (.cells (us++rest).toArray e))/\HRel c' (h.set b (.cells g cs)) (w.drew.alloc (.cells (us++rest).toArray e))/\VRel c' (w.drew.alloc (.cells (us++rest).toArray e)) (.sl b g 0 len sz) (.slice (some ⟨w.heap.size,0,none⟩) len cap):=by obtain⟨E1,H1⟩:=H.drew;have k:=Zcm (E1.ext H.disj) _ _ l;obtain⟨c',hp,E2,H2⟩:=H1.newCells a i (cs:=cs) (C:=(us++rest).toArray) (e:=e) (by grind[Qh5]);refine⟨c',E1.trans E2,H2,?_⟩;simp only[VRel];refine .inr ⟨_,0,0,cap,(us++rest).toArray,e,(0,0),hp,rfl,d,?_,.inr ⟨by simp,by simp_all⟩⟩;show(w.heap.push _)[w.heap.size]?=_;simp
theorem Qeo{t t2 ty e:TypeId}{s:Site}{i sz bytes:Nat}{x y v:AV}{cx cy:Value}{B:TypeInfo}{z:Value}{h':Heap}(H:HRel c h w)(J:VRel c w x cx)(hy:VRel c w y cy)(T:AppT P t t2 e sz bytes B z)(hm:(aAppend s i sz bytes x y).run h=some (v,h')):Sound P c w (Builtin.append_ #[t,t2] ty #[cx,cy]) v h':=by
 obtain⟨X,⟨d2,q,r⟩,hi,hz,rfl,rfl,hzs⟩:=T;replace hm:=QcS (P:=P) H hy hm;obtain⟨R,n,us,S,hm⟩:=hm;have hul:=QaB S.rels;have hyl:=S.len;by_cases K:(slLen x+n)*B.bytes<=140737488355328/\slLen x+n<=140737488355328/\R.all AV.one=true;case pos=>
  rw[if_pos K]at hm;obtain⟨hb,hb2,hone⟩:=K;have Q:∀u∈us,u.oneCell'=true:=by
   intro u hu;obtain⟨j,hj,rfl⟩:=Zcb.1 hu;obtain⟨v',hv',hr⟩:=Qcr j S.rels (Zal (by omega:j<R.length));rw[Zal hj]at hv';cases hv';have h1:(R[j]).one=true:=by simp_all
   have h2:=Qc3 (x:=R[j]) hr (by cases hh:R[j]<;>simp_all[AV.one,AV.cells]);have:(us[j]).cells=#[us[j]]\/∃a,us[j]=.agg a:=by cases us[j]<;>simp[Value.cells]
   rcases this with h3|⟨a,h3⟩;·simp_all
   rw[h3]at hr;exfalso;cases hh:R[j]<;>rw[hh]at hr h1<;>simp[AV.one]at h1<;>simp[VRel]at hr;rcases hr.1 with⟨_,_,_,k1,_⟩|⟨_,_,_,_,k1,_⟩<;>simp_all
  have fresh:∀(base:Option Addr)(hold:∀w1,(Builtin.firstCells B.size 0 (.slice base 0 0)).run P w1=.ok #[] w1)(b g:Nat),b<lim->(h.get b=none/\g=0\/∃z,h.get b=some z/\g=z.gen+1)->0<n->n*B.bytes<=140737488355328->n<=9223372036854775807->Sound P c w (Builtin.append_ #[t,t2] ty #[.slice base 0 0,cy]) (.sl b g 0 n B.size) (h.set b (.cells g R)):=by intro base hold b g f hg hpos hbn h63;have hr:=Qce (P:=P) (w:=w) (ty:=ty) (t:=t) (t2:=t2) (dlen:=0) (dcap:=0) (base:=base) (cy:=cy) (olds:=[]) (us:=us) X q r hi hz S.lenOf S.first (fun w1 _=>hold w1) (by omega) (by simpa using hbn) (by simpa using h63);simp only[ZbW,ZaX]at hr;have hgl:=Qh8 w (need:=n) (old:=0) e;obtain⟨c',E',H',V'⟩:=Qfz H f hg (e:=e) (rest:=(Builtin.zeroCells z.cells (grownCap w n 0 e-n)).toList) S.rels (len:=n) (cap:=grownCap w n 0 e) (sz:=B.size) hgl (by have M:=QcE z.cells (grownCap w n 0 e-n);rw[hzs]at M;simp only[Zaf,Array.length_toList,M,<-hul,hyl];rw[<-ZbV];simp_all);exact⟨_,c',_,hr,E',H',V'⟩
  cases x<;>(try simp only at hm)<;>try(simp[HM.run]at hm;done)
  case nilsl=>simp only[VRel]at J;subst J;cases n with|zero=>simp only[HM.run,Zab,Zaj]at hm;obtain⟨rfl,rfl⟩:=hm;exact .here H (by simpa using Qbh (P:=P) (ty:=ty) (base:=none) (dlen:=0) (dcap:=0) X q r hi S.lenOf (S.first w rfl) (by omega)) (by simp[VRel])|succ n=>obtain⟨b,g,f,hg,hm⟩:=Qdj hm;simp only[HM.run,Zab,Zaj]at hm;obtain⟨rfl,rfl⟩:=hm;simp only[slLen,ZbW]at hb hb2;exact fresh none (fun w1=>by simp[Builtin.firstCells]) b g f hg (by omega) hb (by omega)
  case esl=>
   simp only[VRel]at J;obtain⟨base,rfl⟩:=J;have hold:∀w1,(Builtin.firstCells B.size 0 (.slice base 0 0)).run P w1=.ok #[] w1:=by intro w1;cases base<;>simp[Builtin.firstCells,loadCells,loadCellsFrom]
   cases n with|zero=>
    simp only[HM.run,Zab,Zaj]at hm;obtain⟨rfl,rfl⟩:=hm;have G:us=[]:=by grind
    have:=Qbh (P:=P) (ty:=ty) (base:=base) (dlen:=0) (dcap:=0) X q r hi S.lenOf (S.first w rfl) (by omega);rw[G]at this;refine .here H (cv:=.slice base 0 0) ?_ (by simp[VRel]);rw[this];cases base<;>simp[storeCells]|succ n=>obtain⟨b,g,f,hg,hm⟩:=Qdj hm;simp only[HM.run,Zab,Zaj]at hm;obtain⟨rfl,rfl⟩:=hm;simp only[slLen,ZbW]at hb hb2;exact fresh base hold b g f hg (by omega) hb (by omega)
  case fsl cs len s'=>cases n with|zero=>
   simp only[HM.run,Zab,Zaj]at hm;obtain⟨rfl,rfl⟩:=hm;have G:us=[]:=by grind
   have hx':=J;simp only[VRel]at J;rcases J with⟨⟨a,rfl⟩,_,_⟩|⟨I,off,cap,C,Y,fr,rfl,hlc,_⟩;·refine .here H (cv:=.slice a 0 0) ?_ hx';rw[Qbh (P:=P) (ty:=ty) (base:=a) (dlen:=0) (dcap:=0) X q r hi S.lenOf (S.first w rfl) (by omega),G];cases a<;>simp[storeCells]
   refine .here H (cv:=.slice (some ⟨I,off,none⟩) len cap) ?_ hx';rw[Qbh (P:=P) (ty:=ty) (dlen:=len) (dcap:=cap) X q r hi S.lenOf (S.first w rfl) (by omega),G];simp[storeCells]|succ n=>simp[HM.run]at hm
  case sl b g off len s'=>
   simp only[slLen]at hb hb2;split at hm
   ·rename_i e1;subst e1;obtain⟨cs,p,hm⟩:=Qa6 hm;split at hm
    ·rename_i hl;obtain⟨f,hm⟩:=QaU hm;simp only[HM.run,Zab,Zaj]at hm;obtain⟨rfl,rfl⟩:=hm;have l:∀y,g<y->c.ρ b y=none:=fun y hy=>H.later b _ p y hy;have hxx:=J;simp only[VRel]at J;rcases J with⟨hp,rfl,rfl,rfl⟩|⟨I,base,o,cap,C,Y,fr,hp,rfl,hlc,hC,L⟩
     ·have hcs:cs=[]:=by
       rcases H.blk b _ p with⟨_,h2⟩|⟨_,_,_,_,_,h1,_⟩;·exact h2
       simp_all
      subst hcs;simp only[ZbW,Nat.zero_mul,List.drop_nil,List.take_nil,ZaX];by_cases hn:n=0
      ·subst hn;have hys:R=[]:=by grind
       have G:us=[]:=by grind
       subst hys;obtain⟨E,H'⟩:=H.putNil (b:=b) (g:=g+1) f (fun y hy=>l y (by omega)) (.inl (l _ (by omega)));refine⟨.slice none 0 0,_,w,?_,E,H',?_⟩;·rw[Qbh (P:=P) (ty:=ty) (base:=none) (dlen:=0) (dcap:=0) X q r hi S.lenOf (S.first w rfl) (by omega)]
       simp_all[VRel,QaX]
      exact fresh none (fun w1=>by simp[Builtin.firstCells]) b (g+1) f (.inr ⟨_,p,rfl⟩) (by omega) (by simpa using hb) (by omega)
     obtain⟨C',e2,fr',hO,V,hfr,hbs,Z⟩:=H.here p hp;rw[hC]at V;cases V;have hlt:=QaY hC;have hcl:=Qbe Z;simp at hcl;have N:=QaD Z off (len*B.size) hl;rw[ZaW]at N;by_cases A:len+n<=cap
     ·have d:=Qbh (P:=P) (w:=w) (ty:=ty) (base:=some ⟨I,o,none⟩) (dlen:=len) (dcap:=cap) X q r hi S.lenOf (S.first w rfl) A;simp only[QbL]at d;by_cases hc0:cap=0
      ·have hl0:len=0:=by omega
       have hn0:n=0:=by omega
       subst hl0;subst hn0;subst hc0;have hys:R=[]:=by grind
       have G:us=[]:=by grind
       subst hys;subst G;simp only[Nat.zero_mul,List.take_zero,ZaX,storeCells,Sem.run_pure,Result.andThen_ok]at d⊢;have:=H.put (b:=b) (cb:=I) (base:=base) (x:=.cells (g+1) []) (w':=w) f (fun y hy=>l y (by grind[Blk.gen])) (.inl (l _ (by simp[Blk.gen]))) (.inr ⟨g,base,⟨_,p,rfl,fun k=>by simp⟩,hp⟩) rfl rfl rfl (ZaM _) hlt (fun _ _ _=>rfl) (fun C2 e2 fr2 h2=>⟨C2,fr2,h2,rfl⟩) (fun E=>.inr ⟨I,base,C,Y,fr,QaX,.inr rfl,hC,hfr,hbs,by simp[VPre]⟩);refine⟨_,_,_,d,this.1,this.2,?_⟩;simp only[VRel];exact .inr ⟨I,base,o,0,C,Y,fr,QaX,rfl,by omega,hC,.inl rfl⟩
      obtain⟨rfl,hbnd⟩:=L.resolve_left hc0;have hmul:(len+n)*B.size<=cap*B.size:=Zba _ A;rw[ZbV]at hmul;have U:=Qdh (P:=P) (cb:=I) (o:=base+off+len*B.size) us 0 w C hC hfr (by omega) Q;simp only[Nat.add_zero]at U;rw[U]at d;simp only[Result.andThen_ok]at d;have hpl:(putL C.toList (base+off+len*B.size) us).length=C.size:=by grind[Qe1]
      have:=H.put (b:=b) (cb:=I) (base:=base+off) (x:=.cells (g+1) (List.take (len*B.size) (List.drop off cs)++R)) (w':=upd w I (.cells (putL C.toList (base+off+len*B.size) us).toArray Y fr)) f (fun y hy=>l y (by grind[Blk.gen])) (.inl (l _ (by simp[Blk.gen]))) (.inr ⟨g,base,⟨_,p,rfl,fun k=>by simp⟩,hp⟩) rfl rfl rfl (by simp[upd]) (by simp_all[upd]) (fun k _ hne=>Qgi hne) (fun C2 e2 fr2 h2=>by simp_all[Qdg]) (fun E=>.inr ⟨I,base+off,_,Y,fr,QaX,.inr rfl,Qdg hlt,by simp_all,by grind,by have e5:=QpM (C:=C.toList) (us:=us) (base:=base+off) (off:=len*B.size) (by simp;omega);rw[List.toList_toArray,e5];exact Qh5 (Qbq (Zcm (E.ext H.disj) _ _ N) (Zcm (E.ext H.disj) _ _ S.rels))⟩);refine⟨_,_,_,d,this.1,this.2,?_⟩;simp only[VRel];exact .inr ⟨I,base+off,base+off,cap,_,Y,fr,QaX,rfl,A,Qdg hlt,.inr ⟨by omega,by simp_all⟩⟩
     obtain⟨olds,So⟩:=Qe2 (P:=P) H hxx p hl;have d:=Qce (P:=P) (w:=w) (ty:=ty) (t:=t) (t2:=t2) (dlen:=len) (dcap:=cap) (base:=some ⟨I,o,none⟩) (cy:=cy) (olds:=olds) (us:=us) X q r hi hz S.lenOf S.first So.first (by omega) hb (by omega);have hgl:=Qh8 w (need:=len+n) (old:=cap) e;have hol:=QaB So.rels;have hol2:=So.len;obtain⟨c',E',H',V'⟩:=Qfz H f (.inr ⟨_,p,rfl⟩:h.get b=none/\g+1=0\/∃z,h.get b=some z/\g+1=z.gen+1) (e:=e) (rest:=(Builtin.zeroCells z.cells (grownCap w (len+n) cap e-(len+n))).toList) (Qbq So.rels S.rels) (len:=len+n) (cap:=grownCap w (len+n) cap e) (sz:=B.size) hgl (by have M:=QcE z.cells (grownCap w (len+n) cap e-(len+n));rw[hzs]at M;simp only[Zaf,Array.length_toList,M,<-hul,hyl,<-hol,hol2];rw[<-ZbV,<-ZbV];simp_all);exact⟨_,c',_,d,E',H',V'⟩
    grind[HM.run]
   grind[HM.run]
  case typed tt mm y=>cases mm with|zero=>simp[HM.run]at hm|succ m=>
   cases y<;>try(simp[HM.run]at hm;done)
   rename_i b g off len s';dsimp only at hm;split at hm
   ·rename_i hc;obtain⟨rfl,hpos,A⟩:=hc;obtain⟨cs,p,hm⟩:=Qa6 hm;split at hm
    ·rename_i hl;obtain⟨f,hm⟩:=QaU hm;simp only[HM.run,Zab,Zaj]at hm;obtain⟨rfl,rfl⟩:=hm;simp only[VRel]at J;obtain⟨hty,J⟩:=J;rcases J with⟨hp,rfl,rfl,rfl⟩|⟨I,base,o,cap,C,Y,fr,hp,rfl,hlc,hC,L⟩;·have :=hty.room;omega
     have hcm:=hty.room;obtain⟨rfl,hbd⟩:=L.resolve_left (by omega);have d:=Qbh (P:=P) (ty:=ty) (base:=some ⟨I,base+off,none⟩) (dlen:=len) (dcap:=cap) X q r hi S.lenOf (S.first w rfl) (by omega);simp only[QbL,Nat.add_assoc]at d;obtain⟨c',w',U,E,H'⟩:=Qdi (P:=P) (off:=off+len*B.size) H p f hp (by rw[hyl,Nat.add_assoc,<-ZbV];exact hl) S.rels Q;rw[U]at d;simp only[Result.andThen_ok]at d;obtain⟨C',fr',V,hsz⟩:=E.shape _ _ _ _ hC;refine⟨_,c',w',d,E,H',?_⟩;simp only[VRel];exact⟨.inr ⟨by omega,_,_,_,rfl,by omega⟩,.inr ⟨I,base,_,cap,C',Y,fr',E.rho _ _ _ hp,rfl,by omega,V,.inr ⟨rfl,by omega⟩⟩⟩
    simp[HM.run]at hm
   simp[HM.run]at hm
 simp_all[if_neg,HM.run]
end Go.AM
