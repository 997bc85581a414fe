/- A part of the proof of GuardsOfCardSaid: lemmas on the way (AmC, AmD). Conditions: none of ours. -/
import Derived.Laws.Tables
import Derived.Test.YtikknocmfjfohaaGreatDoorAmO0
theorem Go.AM.bPh3M{p:Prop}(h:p:=by
 refine⟨[],0,[],⟨by simp[VRels],by simp,fun w1=>by simp[Builtin.lenOf],fun w1 m hm' _=>?_⟩,hm⟩;obtain rfl:m=0:=by omega
 cases a<;>simp[Builtin.firstCells,loadCells,loadCellsFrom]):p:=h
set_option linter.unusedSectionVars false
set_option maxHeartbeats 32000000
set_option maxRecDepth 100000
set_option linter.unusedVariables false
set_option linter.unusedSimpArgs false
namespace Go.AM
variable{P:Program}{ok:Okc}{c:Ctx ok}{w:World}{h:Heap}
variable{v x:AV}{f g:Array (Nat×Value)}{C:Array Value}{h':Heap}{parts:List (Nat×Nat×AV)}{cs xs:List AV}{us vs:List Value}{b cb i n o off:Nat}{place:Nat->Option (Nat×Nat)}{a:Nat×Nat}{p:Place}{s:Site}{α:Type}{t:TypeId}{d:TypeInfo}{cv z:Value}{k:Nat->Nat->HM α}{r:α×Heap}
theorem QaG:∀{xs:List AV}{vs:List Value},VRels c w xs vs->xs.length=vs.length|[],vs,a=>by simp_all[VRels]|x::xs,vs,a=>by simp only[VRels]at a;obtain⟨v,d,rfl,_,b⟩:=a;simp[QaG b]
theorem QaZ:∀{xs:List AV}{vs:List Value},VRels c w xs vs->VPre c w xs vs|[],vs,b=>by simp[VPre]|x::xs,vs,b=>by simp only[VRels]at b;obtain⟨v,a,rfl,h1,d⟩:=b;simp only[VPre];exact⟨v,a,rfl,h1,QaZ d⟩
theorem Qbn:∀{xs:List AV}{vs:List Value},VPre c w xs vs->xs.length<=vs.length|[],vs,a=>by simp|x::xs,vs,a=>by simp only[VPre]at a;obtain⟨v,d,rfl,_,b⟩:=a;have:=Qbn b;simp;omega
theorem Qdr:∀{xs:List AV}{vs:List Value}(i:Nat){x:AV},VPre c w xs vs->xs[i]?=some x->∃v,vs[i]?=some v/\VRel c w x v|[],vs,i,x,a,hi=>by simp at hi|y::xs,vs,i,x,a,hi=>by simp only[VPre]at a;obtain⟨v,d,rfl,h1,b⟩:=a;cases i with|zero=>simp at hi;subst hi;exact⟨v,by simp,h1⟩|succ i=>simp at hi;simpa using Qdr i b hi
theorem QcB(i:Nat)(a:VRels c w xs vs)(hi:xs[i]?=some x):∃v,vs[i]?=some v/\VRel c w x v:=Qdr i (QaZ a) hi
theorem Qbj:∀(n:Nat){xs:List AV}{vs:List Value},VPre c w xs vs->VPre c w (xs.drop n) (vs.drop n)|0,xs,vs,a=>by simpa using a|n+1,[],vs,a=>by simp[VPre]|n+1,x::xs,vs,a=>by simp only[VPre]at a;obtain⟨v,d,rfl,h1,b⟩:=a;simpa using Qbj n b
theorem Qcl:∀(n:Nat){xs:List AV}{vs:List Value},VPre c w xs vs->VPre c w (xs.take n) vs|0,xs,vs,a=>by simp[VPre]|n+1,[],vs,a=>by simp[VPre]|n+1,x::xs,vs,a=>by simp only[VPre]at a;obtain⟨v,b,rfl,h1,d⟩:=a;simp only[Za2,VPre];exact⟨v,b,rfl,h1,Qcl n d⟩
theorem QeW:∀{xs:List AV}{vs:List Value},VPre c w xs vs->VRels c w xs (vs.take xs.length)|[],vs,a=>by simp[VRels]|x::xs,vs,a=>by simp only[VPre]at a;obtain⟨v,d,rfl,h1,b⟩:=a;simp only[ZaC,Za2,VRels];exact⟨v,_,rfl,h1,QeW b⟩
theorem Qe5:∀{xs ys:List AV}{us vs:List Value},VRels c w xs us->VPre c w ys vs->VPre c w (xs++ys) (us++vs)|[],ys,us,vs,h1,a=>by simp_all[VRels]|x::xs,ys,us,vs,h1,a=>by simp only[VRels]at h1;obtain⟨v,d,rfl,f,b⟩:=h1;simp only[ZaU,VPre];exact⟨v,_,rfl,f,Qe5 b a⟩
theorem QbB:∀{xs ys:List AV}{us vs:List Value},VRels c w xs us->VRels c w ys vs->VRels c w (xs++ys) (us++vs)|[],ys,us,vs,h1,a=>by simp_all[VRels]|x::xs,ys,us,vs,h1,a=>by simp only[VRels]at h1;obtain⟨v,d,rfl,f,b⟩:=h1;simp only[ZaU,VRels];exact⟨v,_,rfl,f,QbB b a⟩
theorem QhV(h1:VRels c w xs us):VPre c w xs (us++vs):=by have:=Qe5 (ys:=[]) (vs:=vs) h1 (by simp[VPre]);simp_all
theorem QaK(a:VPre c w xs vs)(off n)(b:off+n<=xs.length):VRels c w ((xs.drop off).take n) ((vs.drop off).take n):=by have h1:=Qcl n (Qbj off a);have d:=QeW h1;grind
theorem Qdd{v}(a:VRel c w x v)(ho:(x.cells.all AV.one)=true):VRels c w x.cells v.cells.toList/\∀u∈v.cells.toList,u.oneCell'=true:=by
 have one:∀(x:AV)(v:Value),VRel c w x v->x.one=true->v.oneCell'=true/\(∀cs,x≠.agg cs):=by intro x v a ho;cases x<;>simp only[AV.one]at ho<;>first|(exact absurd ho (by decide))|(simp only[VRel]at a;refine⟨?_,fun cs=>by simp⟩;first
  |(subst a;rfl)|(rcases a with⟨_,_,_,rfl⟩|⟨_,_,_,_,_,_,_,_,rfl,_⟩<;>rfl)|(rcases a with⟨⟨_,rfl⟩,_⟩|⟨_,_,_,_,_,_,rfl,_⟩<;>rfl)|(obtain⟨_,_,_,rfl⟩:=a;rfl)|(obtain⟨_,_,_,_,_,rfl,_⟩:=a;rfl)|(obtain⟨_,_,_,rfl,_⟩:=a;rfl)|(obtain⟨_,rfl⟩:=a;rfl)|(obtain⟨_,_,rfl⟩:=a;rfl)|(obtain⟨_,_,rfl,_⟩:=a;rfl)|(obtain⟨_,rfl,_⟩:=a;rfl)
  | (rcases a.1 with⟨_,_,_,h1,_⟩|⟨_,_,_,_,rfl,_⟩;·rcases h1 with rfl|⟨_,_,_,rfl⟩<;>rfl
     ·rfl))
 by_cases b:∃cs,x=.agg cs
 ·obtain⟨cs,rfl⟩:=b;simp only[VRel]at a;obtain⟨l,rfl,a⟩:=a;refine⟨by grind[AV.cells,Value.cells],fun u g=>?_⟩;simp only[Value.cells]at g;obtain⟨i,hi,rfl⟩:=Zb5.1 g;have m:=QaG a;have d:i<cs.length:=by omega
  obtain⟨v,h,k⟩:=QcB i a (Zak d);grind[AV.cells]
 have e:x.cells=[x]:=by cases x<;>first|rfl|exact absurd ⟨_,rfl⟩ b
 rw[e]at ho⊢;have f:x.one=true:=by simpa using ho
 obtain⟨h1,n⟩:=one x v a f;have ev:v.cells=#[v]:=by cases v<;>first|rfl|simp[Value.oneCell']at h1
 simp_all[VRels]
theorem Qeh{e}(b:w.heap[cb]?=some (.cells C e a)):w.cell? ⟨cb,o,none⟩=C[o]?:=by simp[World.cell?,b]
theorem Qb1(cb o j):Addr.add ⟨cb,o,none⟩ j=⟨cb,o+j,none⟩:=by simp_all[Addr.add]
theorem QbJ{e}(d:w.heap[cb]?=some (.cells C e a))(b:n=0\/o+n<=C.size):(loadCells ⟨cb,o,none⟩ n).run P w=.ok ((C.toList.drop o).take n).toArray w:=by have:=run_loadCells_list (P:=P) w ⟨cb,o,none⟩ ((C.toList.drop o).take n) (fun j v c=>by grind[Qb1,Qeh]);grind
def Sound(P:Program)(c:Ctx ok)(w:World)(s:Sem Value)(v:AV)(h':Heap):Prop:=∃d b a,s.run P w=.ok d a/\Evo c w b a/\HRel b h' a/\VRel b a v d
theorem Sound.here(H:HRel c h w){s}(b:s.run P w=.ok cv w)(a:VRel c w v cv):Sound P c w s v h:=⟨cv,c,w,b,.refl c w,H,a⟩
def rowT(P:Program)(t:TypeId)(n:Option Nat):Bool:=match P.underlying t,P.info? t with|some (.struct _),some i=>n==some i.size|some (.array _ _),some i=>n==some i.size|some _,some _=>n==none|_,_=>false
theorem QaP{i}(hi:P.info? t=some i)(w):(sizeOf t).run P w=.ok i.size w:=by simp[sizeOf,typeInfo,hi]
theorem Qc1(a:rowT P t none=true)(w):(isAgg t).run P w=.ok false w:=by unfold rowT at a;unfold isAgg;cases b:P.underlying t with|none=>simp[b]at a|some d=>simp only[Sem.run_bind,run_underlying b,Result.andThen_ok];cases hi:P.info? t with|none=>cases d<;>simp[b,hi]at a|some i=>cases d<;>simp[b,hi]at a<;>rfl
theorem Qc2(a:rowT P t (some n)=true)(w):(isAgg t).run P w=.ok true w/\(sizeOf t).run P w=.ok n w:=by unfold rowT at a;unfold isAgg;cases b:P.underlying t with|none=>simp[b]at a|some d=>simp only[Sem.run_bind,run_underlying b,Result.andThen_ok];cases hi:P.info? t with|none=>cases d<;>simp[b,hi]at a|some i=>rw[QaP hi];cases d<;>simp[b,hi]at a<;>subst a<;>exact⟨rfl,rfl⟩
theorem Qbg{g}{k}(hm:(HM.cells b g k).run h=some r):∃cs,h.get b=some (.cells g cs)/\(k cs).run h=some r:=by
 simp only[HM.cells,HM.run]at hm;split at hm;·rename_i a cs c;cases e:Nat.beq a g with|false=>rw[e]at hm;simp[HM.run]at hm|true=>
  rw[e]at hm;have:a=g:=by simpa using e
  subst this;exact⟨cs,c,hm⟩
 grind[HM.run]
theorem HRel.here(H:HRel c h w){g}(i:h.get b=some (.cells g cs)){base}(hp:c.ρ b g=some (.loc cb base)):∃C e d,c.O cb/\w.heap[cb]?=some (.cells C e d)/\Unfrozen d C.size/\base<=C.size/\VPre c w cs (C.toList.drop base):=by
 rcases H.blk b _ i with⟨h1,_⟩|⟨f,a,C,e,d,h1,n,l,o,k,m⟩;·simp_all
 grind
theorem Qpu{n}{s}(H:HRel c h w)(i:VRel c w x s)(k:rowT P t n=true)(hm:(aLoad n x).run h=some (v,h')):Sound P c w (Instr.loadAt t s) v h':=by
 cases x<;>simp only[aLoad,HM.run]at hm<;>try(cases hm;done)
 case ptr b g off=>obtain⟨cs,A,hm⟩:=Qbg hm;simp only[VRel]at i;obtain⟨E,base,hp,rfl⟩:=i;obtain⟨C,e,z,G,f,B,y,a⟩:=H.here A hp;cases n with
  |none=>cases l:cs[off]? with|none=>simp[l,HM.opt,HM.run]at hm|some u=>simp only[l,HM.opt,HM.run,Zaa,Zal]at hm;obtain⟨rfl,rfl⟩:=hm;obtain⟨q,d,o⟩:=Qdr off a l;rw[ZbF,ZaP]at d;exact .here H (cv:=q) (by simp[Instr.loadAt,Instr.sureAddr,loadVar,Qc1 k,Qeh f,d]) o
  |some n=>
   simp only at hm;split at hm;·rename_i r;simp only[HM.run,Zaa,Zal]at hm;obtain⟨rfl,rfl⟩:=hm;obtain⟨p,m⟩:=Qc2 k w;have hlen:=Qbn a;simp at hlen;refine .here H (cv:=.agg ((C.toList.drop (base+off)).take n).toArray) (by simp[Instr.loadAt,Instr.sureAddr,loadVar,p,m,QbJ (P:=P) (n:=n) (o:=base+off) f (by omega)]) ?_;simp only[VRel];refine⟨_,rfl,?_⟩;have:=QaK a off n r;simp_all
   simp[HM.run]at hm
 case fptr cs=>simp only[VRel]at i;obtain⟨E,off,C,e,z,rfl,F,f,a⟩:=i;cases n with
  |none=>cases cs with|nil=>simp[HM.opt,HM.run]at hm|cons u cs=>simp only[HM.opt,Zbn,HM.run,Zaa,Zal]at hm;obtain⟨rfl,rfl⟩:=hm;obtain⟨q,d,o⟩:=Qdr 0 a (x:=u) rfl;rw[ZbF,ZaP]at d;exact .here H (cv:=q) (by simp[Instr.loadAt,Instr.sureAddr,loadVar,Qc1 k,Qeh f];simp_all) o
  |some n=>
   simp only at hm;split at hm;·rename_i r;simp only[HM.run,Zaa,Zal]at hm;obtain⟨rfl,rfl⟩:=hm;obtain⟨p,m⟩:=Qc2 k w;have hlen:=Qbn a;simp at hlen;refine .here H (cv:=.agg ((C.toList.drop off).take n).toArray) (by simp[Instr.loadAt,Instr.sureAddr,loadVar,p,m,QbJ (P:=P) (n:=n) (o:=off) f (by omega)]) ?_;simp only[VRel];refine⟨_,rfl,?_⟩;have:=QaK a 0 n (by simpa using r);simp_all
   simp[HM.run]at hm
def upd(w:World)(cb:Nat)(o:Obj):World:={w with heap:=w.heap.setIfInBounds cb o}
theorem Qds{o}(a:cb<w.heap.size):(upd w cb o).heap[cb]?=some o:=by simp[upd,a]
theorem Qgd{k}{o}(a:k≠cb):(upd w cb o).heap[k]?=w.heap[k]?:=by grind[upd]
theorem Qtw{o o'}:upd (upd w cb o) cb o'=upd w cb o':=by simp[upd]
def putL(C:List Value)(o:Nat)(vs:List Value):List Value:=C.take o++vs++C.drop (o+vs.length)
theorem Qe6{C}(a:o+vs.length<=C.length):(putL C o vs).length=C.length:=by simp[putL];omega
theorem QhW{C}:putL C o []=C:=by simp[putL]
theorem Qke{C}{v}(a:o<C.length):putL (C.set o v) (o+1) vs=putL C o (v::vs):=by
 simp only[putL,ZaC];rw[List.take_set,List.drop_set,if_pos (by omega)];rw[show o+1+vs.length=o+(vs.length+1)by omega];have:(C.take (o+1)).set o v=C.take o++[v]:=by apply Zbx;grind
 rw[this];simp
theorem QnM{e}(b:w.heap[cb]?=some (.cells C e a))(v):w.setCell ⟨cb,o,none⟩ v=upd w cb (.cells (C.setIfInBounds o v) e a):=by have c:=Qbc b;unfold World.setCell upd;congr 1;grind
theorem Qdt{e}{d}:∀(vs:List Value)(i:Nat)(w:World)(C:Array Value),w.heap[cb]?=some (.cells C e d)->Unfrozen d C.size->o+i+vs.length<=C.size->(∀v∈vs,v.oneCell'=true)->(storeCells ⟨cb,o,none⟩ vs i).run P w=.ok () (upd w cb (.cells (putL C.toList (o+i) vs).toArray e d))
 |[],i,w,C,f,_,_,_=>by
  simp only[storeCells,Sem.run_pure,QhW];have m:upd w cb (.cells C e d)=w:=by show({w with heap:=_}:World)={w with heap:=w.heap};congr 1;grind
  simp_all|v::vs,i,w,C,f,c,k,a=>by
  simp only[ZaC]at k;have b:w.cell? ⟨cb,o+i,none⟩=some C[o+i]:=by rw[Qeh f];simp_all
  have h:w.frozen? ⟨cb,o+i,none⟩=false:=by have:=c (o+i) (by omega);simp_all[World.frozen?]
  have g:=Qbc f;simp only[storeCells,Sem.run_bind,Qb1];rw[run_store P w _ v _ (a v (by simp)),b,h];simp only[Zar,if_false,Result.andThen_ok];rw[QnM f,Qdt vs (i+1) _ (C.setIfInBounds (o+i) v) (Qds g) (by simpa using c) (by simp;omega) (fun u l=>a u (by simp[l]))];grind[Qtw,Qke]
theorem Qdu(cs)(off)(vs)(a:off+vs.length<=cs.length):putR cs off vs=cs.take off++vs++cs.drop (off+vs.length):=by
 unfold putR;split;·rename_i v;simp only[ZbE]at a⊢;rw[List.set_eq_take_append_cons_drop,if_pos (by omega)];simp
 rfl
theorem Qhg(cs)(off)(vs)(a:off+vs.length<=cs.length):(putR cs off vs).length=cs.length:=by grind[Qdu]
theorem QlP{cs vs:List AV}{C us:List Value}{base off:Nat}(hp:VPre c w cs (C.drop base))(d:VRels c w vs us)(f:off+vs.length<=cs.length):VPre c w (putR cs off vs) ((putL C (base+off) us).drop base):=by
 have hlen:=QaG d;have a:=Qbn hp;simp at a;rw[Qdu _ _ _ f];by_cases g:vs=[];·simp_all[VRels,QhW]
 have b:0<vs.length:=List.length_pos_iff.2 g;have e:(putL C (base+off) us).drop base=((C.drop base).take off++us)++(C.drop base).drop (off+us.length):=by unfold putL;rw[ZaN,List.drop_append,ZaN];grind[ZaT]
 rw[e];refine Qe5 ?_ ?_;·refine QbB ?_ d;have:=QaK hp 0 off (by omega);simp_all
 grind[Qbj]
theorem Qa6{g}{cb}:(c.with b g p cb).ρ b g=some p:=by simp[Ctx.with]
theorem Qdv(H:HRel c h w){g}{vs}{base}(i:h.get b=some (.cells g cs))(f:b<lim)(hp:c.ρ b g=some (.loc cb base))(v:off+vs.length<=cs.length)(s:VRels c w vs us)(d:∀u∈us,u.oneCell'=true):∃c' w',(storeCells ⟨cb,base+off,none⟩ us).run P w=.ok () w'/\Evo c w c' w'/\HRel c' (h.set b (.cells g (putR cs off vs))) w':=by
 obtain⟨C,e,r,F,q,o,x,a⟩:=H.here i hp;have n:=Qbc q;have hlen:=QaG s;have l:=Qbn a;simp at l;have hbound:base+off+us.length<=C.size:=by omega
 have p:=Qdt (P:=P) (cb:=cb) (o:=base+off) us 0 w C q o (by omega) d;have A:(putL C.toList (base+off) us).length=C.size:=by simp_all[Qe6]
 have:=H.put (b:=b) (cb:=cb) (base:=base) (x:=.cells g (putR cs off vs)) (w':=upd w cb (.cells (putL C.toList (base+off) us).toArray e r)) f (fun y z=>H.later b _ i y z) (.inr hp) (.inr ⟨g,base,⟨_,i,rfl,fun k=>by simp⟩,hp⟩) rfl rfl rfl (by simp[upd]) (by simp_all[upd]) (fun k _ m=>Qgd m) (fun C2 B t G=>by simp_all[Qds]) (fun E=>.inr ⟨cb,base,_,e,r,Qa6,.inr rfl,Qds n,by simp_all,by simp_all,by have:=QlP (base:=base) a s v;simpa using VPre.mono (E.ext H.disj) _ _ this⟩);grind
theorem Qa2{x}{k}(hm:(HM.put b x k).run h=some r):b<lim/\k.run (h.set b x)=some r:=by simp only[HM.run]at hm;cases e:Nat.blt b lim with|false=>rw[e]at hm;cases hm|true=>rw[e]at hm;exact⟨by simp_all,hm⟩
def SoundU(P:Program)(c:Ctx ok)(w:World)(s:Sem Unit)(h':Heap):Prop:=∃b a,s.run P w=.ok () a/\Evo c w b a/\HRel b h' a
theorem QnN{r}{i}(H:HRel c h w)(k:VRel c w x i)(o:VRel c w v cv)(B:∀w,(sizeOf t).run P w=.ok n w)(hm:(aStore n x v).run h=some (r,h')):SoundU P c w (Instr.storeAt t i cv) h':=by
 cases x<;>simp only[aStore,HM.run]at hm<;>try(cases hm;done)
 case ptr b g off=>
  obtain⟨cs,p,hm⟩:=Qbg hm;split at hm
  ·rename_i a;obtain⟨h1,E,y⟩:=a;obtain⟨d,hm⟩:=Qa2 hm;simp only[HM.run,Zaa,Zal]at hm;obtain⟨_,rfl⟩:=hm;simp only[VRel]at k;obtain⟨C,base,hp,rfl⟩:=k;obtain⟨f,q⟩:=Qdd o y;obtain⟨u,s,A,l,m⟩:=Qdv (P:=P) H p d hp (vs:=v.cells) (off:=off) (by omega) f q;refine⟨u,s,?_,l,m⟩;have z:cv.cells.size=n:=by have:=QaG f;simp_all
   simp_all[Instr.storeAt,Instr.sureAddr,storeVar]
  grind[HM.run]
theorem Qdw{x}(hm:(HM.new s i x k).run h=some r):∃b g,b<lim/\(h.get b=none/\g=0\/∃z,h.get b=some z/\g=z.gen+1)/\(k b g).run (h.set b (x g))=some r:=by
 cases s with|dyn=>
  simp only[HM.new,HM.run]at hm;split at hm;·rename_i c;obtain⟨h1,a⟩:=Qa2 hm;exact⟨i,0,h1,.inl ⟨c,rfl⟩,a⟩
  simp[HM.run]at hm|st b=>
  simp only[HM.new,HM.run]at hm;split at hm;·rename_i c;obtain⟨h1,a⟩:=Qa2 hm;exact⟨b,0,h1,.inl ⟨c,rfl⟩,a⟩
  rename_i z c;obtain⟨h1,a⟩:=Qa2 hm;exact⟨b,z.gen+1,h1,.inr ⟨z,c,rfl⟩,a⟩
theorem HRel.newCells(H:HRel c h w){g}(f:b<lim)(q:h.get b=none/\g=0\/∃z,h.get b=some z/\g=z.gen+1){e}(d:VPre c w cs C.toList):∃c',c'.ρ b g=some (.loc w.heap.size 0)/\Evo c w c' (w.alloc (.cells C e))/\HRel c' (h.set b (.cells g cs)) (w.alloc (.cells C e)):=by
 have a:∀y,g<=y->c.ρ b y=none:=by
  intro y m;rcases q with⟨h1,n⟩|⟨z,h1,n⟩;·exact H.fresh b h1 y
  exact H.later b z h1 y (by omega)
 have l:(w.alloc (.cells C e)).heap[w.heap.size]?=some (.cells C e):=by show(w.heap.push _)[w.heap.size]?=_;simp
 have:=H.put (b:=b) (cb:=w.heap.size) (base:=0) (x:=.cells g cs) (w':=w.alloc (.cells C e)) f (fun y m=>a y (Nat.le_of_lt m)) (.inl (a g (Zau _))) (.inl rfl) rfl rfl rfl (by simp) (by simp) (fun k o _=>Go.RowKit.Below.heap_alloc w _ k o) (fun C2 r p n=>by simp_all) (fun E=>.inr ⟨w.heap.size,0,C,e,(0,0),Qa6,.inr rfl,l,fun i _=>by omega,by omega,by simpa using VPre.mono (E.ext H.disj) _ _ d⟩);exact⟨_,Qa6,this.1,this.2⟩
theorem VRel_cells'{v}(b:VRel c w x v)(ho:x.boxable=true):VRels c w x.cells v.cells.toList:=by
 by_cases a:∃cs,x=.agg cs;·obtain⟨cs,rfl⟩:=a;simp only[VRel]at b;obtain⟨d,rfl,b⟩:=b;grind[AV.cells,Value.cells]
 refine(Qdd b ?_).1;cases x<;>first|rfl|(simp[AV.boxable]at ho;done)|exact absurd ⟨_,rfl⟩ a
theorem Qkf{e}{d}(H:HRel c h w)(m:VRel c w x d)(hm:(aBox s i x).run h=some (v,h')):Sound P c w (Instr.box e d) v h':=by
 unfold aBox at hm;split at hm
 ·rename_i o;obtain⟨b,g,a,n,hm⟩:=Qdw hm;simp only[HM.run,Zaa,Zal]at hm;obtain⟨rfl,rfl⟩:=hm;obtain⟨k,hp,l,f⟩:=H.newCells a n (C:=d.cells) (e:=e) (QaZ (VRel_cells' m o));refine⟨.pointer (some ⟨w.heap.size,0,none⟩),k,_,?_,l,f,?_⟩;·simp[Instr.box,newVar,newRow]
  simp_all[VRel]
 grind[HM.run]
mutual def cOK:AV->Value->Bool|.any,_=>true|.bool b,.bool b'=>b==b'|.int k n,.int k' n'=>k==k'&&n==n'|.str s,.string bs=>s==bs.data.toList|.nilptr,.pointer none=>true|.nilsl,.slice none 0 0=>true|.nilmap,.map none=>true|.nilfn,.nilFunc=>true|.nilif,.nilIface=>true|.agg cs,.agg vs=>cOKs cs vs.toList|.tup cs,.tuple vs=>cOKs cs vs.toList|_,_=>false termination_by structural x=>x def cOKs:List AV->List Value->Bool|[],[]=>true|x::xs,v::vs=>cOK x v&&cOKs xs vs|_,_=>false termination_by structural x=>x end
mutual theorem Qei:∀(x:AV)(v:Value),cOK x v=true->VRel c w x v|.any,_,_=>by simp[VRel]|.bool b,v,hh=>by cases v<;>simp_all[cOK,VRel]|.int k n,v,hh=>by cases v<;>simp_all[cOK,VRel]|.str s,v,hh=>by cases v<;>simp_all[cOK,VRel]|.agg cs,v,hh=>by cases v<;>simp only[cOK,Zar]at hh;simp only[VRel];exact⟨_,rfl,Qcq cs _ hh⟩|.tup cs,v,hh=>by cases v<;>simp only[cOK,Zar]at hh;simp only[VRel];exact⟨_,rfl,Qcq cs _ hh⟩|.nilptr,v,hh=>by grind[cOK,VRel]|.nilsl,v,hh=>by grind[cOK,VRel]|.nilmap,v,hh=>by grind[cOK,VRel]|.nilfn,v,hh=>by grind[cOK,VRel]|.nilif,v,hh=>by grind[cOK,VRel]|.ptr _ _ _,v,hh=>by simp[cOK]at hh|.fptr _,v,hh=>by simp[cOK]at hh|.sl _ _ _ _ _,v,hh=>by simp[cOK]at hh|.fsl _ _ _,v,hh=>by simp[cOK]at hh|.esl,v,hh=>by simp[cOK]at hh|.nsl,v,hh=>by simp[cOK]at hh|.map _ _,v,hh=>by simp[cOK]at hh|.fmap _ _,v,hh=>by simp[cOK]at hh|.fn _ _ _,v,hh=>by simp[cOK]at hh|.ifc _ _,v,hh=>by simp[cOK]at hh theorem Qcq:∀(xs:List AV)(vs:List Value),cOKs xs vs=true->VRels c w xs vs|[],vs,hh=>by grind[cOKs,VRels]|x::xs,[],hh=>by simp[cOKs]at hh|x::xs,v::vs,hh=>by simp only[cOKs,Zab]at hh;simp only[VRels];exact⟨v,vs,rfl,Qei x v hh.1,Qcq xs vs hh.2⟩end
theorem QnO{z}{b}{a}(H:HRel c h w)(hi:P.info? t=some b)(k:b.zero=some a)(hc:cOK z a=true)(hm:(aBox s i z).run h=some (v,h')):Sound P c w (Instr.alloc t true (.tuple #[])) v h':=by have:=Qkf (P:=P) (e:=t) H (Qei (c:=c) (w:=w) z a hc) hm;obtain⟨g,f,d,l,h1⟩:=this;refine⟨g,f,d,?_,h1⟩;simp_all[Instr.alloc,Instr.box,zeroValue,typeInfo]
theorem Qkg(off):∀(l:List Value)(k:Nat)(cells:Array Value),off+k+l.length<=cells.size->((l.zipIdx k).foldl (fun(cs:Array Value)(p:Value×Nat)=>cs.setIfInBounds (off+p.2) p.1) cells).toList=putL cells.toList (off+k) l|[],k,cells,_=>by simp[QhW]|v::l,k,cells,a=>by simp only[ZaC]at a;simp only[List.zipIdx_cons,ZaR];rw[Qkg off l (k+1) _ (by simp;omega),Array.toList_setIfInBounds,<-Nat.add_assoc,Qke (by simp;omega)]
theorem Qqa{vs}{C}(hp:VRels c w cs C)(b:VRels c w vs us)(d:off+vs.length<=cs.length):VRels c w (putR cs off vs) (putL C off us):=by have h1:=QlP (base:=0) (by simpa using QaZ hp) b d;have f:=QeW h1;have hlen:=QaG hp;have a:=QaG b;simp_all[Qhg,ZaM,Qe6]
def PartsRel(c:Ctx ok)(w:World)(place:Nat->Option (Nat×Nat)):List (Nat×Nat×AV)->List (Nat×Value)->Prop|[],b=>b=[]|(off,size,x)::r,b=>∃i v a,b=(i,v)::a/\place i=some (off,size)/\VRel c w x v/\PartsRel c w place r a
theorem Qfx:∀(parts:List (Nat×Nat×AV))(g:List (Nat×Value))(cs b:List AV)(cells:Array Value),PartsRel c w place parts g->VRels c w cs cells.toList->fillA cs parts=some b->∃a,Instr.fill place cells g=some a/\VRels c w b a.toList
 |[],g,cs,b,cells,hp,hc,hf=>by simp only[PartsRel]at hp;subst hp;simp only[fillA,Zaa]at hf;subst hf;exact⟨cells,rfl,hc⟩|(off,size,x)::r,g,cs,b,cells,hp,hc,hf=>by
  simp only[PartsRel]at hp;obtain⟨i,v,h,rfl,n,s,o⟩:=hp;simp only[fillA]at hf;split at hf;·rename_i d;obtain⟨z,u,q⟩:=d;have f:=VRel_cells' s q;have hlen:=QaG f;have k:=QaG hc;simp at hlen k;have l:=Qkg off v.cells.toList 0 cells (by simp;omega);have m:=Qqa (off:=off) hc f (by omega);obtain⟨a,y,t⟩:=Qfx r h _ b (v.cells.zipIdx.foldl (fun cs(p:Value×Nat)=>cs.setIfInBounds (off+p.2) p.1) cells) o (by grind[Array.toList_zipIdx]) hf;simp_all[Instr.fill]
  cases hf
def placeOf(P:Program)(t:TypeId)(i:Nat):Option (Nat×Nat):=match P.underlying t with
 |some (.array _ e)=>match P.info? e with|some b=>some (i*b.size,b.size)|none=>none
 |some (.struct fields)=>match fields.toList.mapM (fun f=>(P.info? f.type).map fun i=>(f.offset,i.size))with|some a=>a[i]?|none=>none
 |_=>none
def zeroOf(P:Program)(t:TypeId):Option Value:=(P.info? t).bind (·.zero)
theorem QnP{zero:List AV}{o:Value}(H:HRel c h w)(d:zeroOf P t=some o)(hc:cOKs zero o.cells.toList=true)(q:(∃n e k,P.underlying t=some (.array n e)/\P.info? e=some k)\/(∃fields a,P.underlying t=some (.struct fields)/\fields.toList.mapM (fun f=>(P.info? f.type).map fun i=>(f.offset,i.size))=some a))(hp:PartsRel c w (placeOf P t) parts g.toList)(hm:aBuild zero parts=some v):Sound P c w (Instr.build t g) v h:=by unfold aBuild at hm;cases hf:fillA zero parts with|none=>simp[hf]at hm|some cs=>simp only[hf,Zaa]at hm;subst hm;obtain⟨b,h1,s⟩:=Qfx (place:=placeOf P t) parts g.toList zero cs o.cells hp (Qcq _ _ hc) hf;refine .here H (cv:=.agg b) (run_build w t g b ?_) (by simp only[VRel];simp_all);unfold zeroOf at d;cases hi:P.info? t with|none=>simp[hi]at d|some it=>
 simp only[hi,Option.bind_some]at d;unfold Program.built;rcases q with⟨n,e,k,p,m⟩|⟨fields,a,p,l⟩
 ·simp only[hi,p,d,m];have r:placeOf P t=fun i=>some (i*k.size,k.size):=by grind[placeOf]
  simp_all
 simp only[hi,p,d,l];have r:placeOf P t=fun i=>a.toArray[i]?:=by grind[placeOf]
 simp_all
theorem Qfc(H:HRel c h w){e:TypeId}{len cap sz:Nat}{run:Sem Value}(f:VPre c w cs C.toList)(k:len<=cap)(a:cap=0\/cap*sz<=C.size)(m:run.run P w=.ok (.slice (some ⟨w.heap.size,0,none⟩) len cap) (w.alloc (.cells C e)))(hm:(HM.new s i (fun g=>.cells g cs) fun b g=>.ret (.sl b g 0 len sz)).run h=some (v,h')):Sound P c w run v h':=by obtain⟨b,g,d,q,hm⟩:=Qdw hm;simp only[HM.run,Zaa,Zal]at hm;obtain⟨rfl,rfl⟩:=hm;obtain⟨p,hp,l,o⟩:=H.newCells d q (C:=C) (e:=e) f;refine⟨_,p,_,m,l,o,?_⟩;simp only[VRel];refine .inr ⟨_,0,0,cap,C,e,(0,0),hp,rfl,k,?_,a.imp id (fun n=>⟨by simp,by simpa using n⟩)⟩;show(w.heap.push _)[w.heap.size]?=_;simp
theorem Qix(H:HRel c h w){e}{len cap sz}{run}(b:VPre c w cs C.toList)(d:len<=cap)(g:cs.length=len*sz)(i:run.run P w=.ok (.slice (some ⟨w.heap.size,0,none⟩) len cap) (w.alloc (.cells C e))):Sound P c w run (.fsl cs len sz) h:=by
 obtain⟨E,H1⟩:=H.grow (w':=w.alloc (.cells C e)) rfl rfl rfl (by simp) (fun k a=>Go.RowKit.Below.heap_alloc w _ k a);have H2:=H1.frozen (fun k=>c.F k\/k=w.heap.size) (fun k a=>.inl a) (fun k a=>by
  rcases a with a|a;·exact⟨H.disj k a,by have:=H.inF k a;simp;omega⟩
  subst a;exact⟨fun f=>by have:=H.inO _ f;omega,by simp⟩);have E2:Evo c w {c with F:=fun k=>c.F k\/k=w.heap.size} (w.alloc (.cells C e)):=⟨E.os,E.tape,E.output,E.size,E.shape,E.keep,E.rho,fun k a=>.inl a,fun k a=>a.imp id (fun h=>.inr (Nat.le_of_eq h.symm)),E.own,rfl⟩;refine⟨_,_,_,i,E2,H2,?_⟩;simp only[VRel];refine .inr ⟨_,0,cap,C,e,(0,0),rfl,d,g,.inr rfl,?_,?_⟩;·show(w.heap.push _)[w.heap.size]?=_;simp
 simpa using VPre.mono (E2.ext H.disj) _ _ b
def zeroRow(z:Array Value)(n:Nat):Array Value:=(Array.range n).map (z[·%z.size]!)
theorem run_buildSlice'(w)(t e)(len)(parts)(cells)(a)(z)(f:P.underlying t=some (.slice e))(b:P.info? e=some a)(g:a.zero=some z)(c:len*a.size<=16777216)(hf:Instr.fill (fun i=>some (i*a.size,a.size)) (zeroRow z.cells (len*a.size)) parts.toList=some cells):(Instr.buildSlice t len parts).run P w=.ok (.slice (some ⟨w.heap.size,0,none⟩) len len) (w.alloc (.cells cells e)):=by
 have h:¬16777216<len*a.size:=by omega
 by_cases d:len*a.size=0
 ·rw[d]at hf;have:zeroRow z.cells 0=#[]:=by simp[zeroRow]
  rw[this]at hf;simp only[Instr.buildSlice,Sem.run_bind,run_underlying f,Result.andThen_ok,QaP b];simp only[d];simp_all[Array.range,newRow]
 unfold zeroRow at hf;simp[Instr.buildSlice,run_underlying f,sizeOf,typeInfo,zeroValue,b,g,h,d,hf,newRow]
theorem QhX{e}{frozen}{sz len}{zero}(H:HRel c h w)(p:P.underlying t=some (.slice e))(l:P.info? e=some d)(k:d.size=sz)(o:d.zero=some z)(a:len*sz<=16777216)(hc:cOKs zero (zeroRow z.cells (len*sz)).toList=true)(hp:PartsRel c w (fun i=>some (i*sz,sz)) parts f.toList)(hm:(aBuildSlice frozen s i sz len zero parts).run h=some (v,h')):Sound P c w (Instr.buildSlice t len f) v h':=by subst k;unfold aBuildSlice at hm;cases hf:fillA zero parts with|none=>simp[hf,HM.run]at hm|some cs=>
 simp only[hf]at hm;split at hm
 ·rename_i n;obtain⟨b,h1,g⟩:=Qfx parts f.toList zero cs (zeroRow z.cells (len*d.size)) hp (Qcq _ _ hc) hf;have hlen:=QaG g;simp at hlen;have m:=run_buildSlice' (P:=P) w t e len f b d z p l o a h1;split at hm
  ·split at hm;·simp only[HM.run,Zaa,Zal]at hm;obtain⟨rfl,rfl⟩:=hm;exact Qix H (QaZ g) (Zau _) n m
   grind[HM.run]
  exact Qfc H (QaZ g) (Zau _) (.inr (by omega)) m hm
 simp[HM.run]at hm
theorem QnQ(s k)(f:Nat->Value)(hf:∀i,f (i+s)=f i):(List.range (s+k)).map f=(List.range s).map f++(List.range k).map f:=by simp_all[List.range_add,Nat.add_comm]
theorem QcQ{zero}{z}(a:VRels c w zero z.toList):∀k,VRels c w (List.replicate k zero).flatten (zeroRow z (k*z.size)).toList
 |0=>by simp[zeroRow,VRels]|k+1=>by
  have b:=QcQ a k;have e:(zeroRow z ((k+1)*z.size)).toList=z.toList++(zeroRow z (k*z.size)).toList:=by simp only[zeroRow,Array.toList_map,Array.toList_range];rw[show(k+1)*z.size=z.size+k*z.size by rw[Zbg];omega];rw[QnQ z.size _ (fun i=>z[i%z.size]!) (fun i=>by simp)];congr 1;apply Zbx;grind[Nat.mod_eq_of_lt]
  simp_all[ZaY,QbB]
theorem Qiy{e}{sz bytes}{zero}{l n}{r x}(H:HRel c h w)(u:VRel c w l r)(A:VRel c w n x)(C:P.underlying t=some (.slice e))(b:P.info? e=some d)(p:d.size=sz)(o:d.bytes=bytes)(G:d.zero=some z)(J:z.cells.size=sz)(hc:cOKs zero z.cells.toList=true)(hm:(aMakeSlice s i sz bytes zero l n).run h=some (v,h')):Sound P c w (Instr.makeSlice t r x) v h':=by
 subst p;subst o;unfold aMakeSlice at hm;split at hm
 ·rename_i L k O a;split at hm
  ·rename_i f;obtain⟨h1,N,K,M⟩:=f;simp only[VRel]at u A;subst u;subst A;have B:IntKind.i64.wrap k=k:=by rw[<-wr_eq];grind[wr_of,lo,hi]
   have F:IntKind.i64.wrap a=a:=by rw[<-wr_eq];grind[wr_of,lo,hi]
   have g:VRels c w (List.replicate a.toNat zero).flatten (zeroRow z.cells (a.toNat*d.size)).toList:=by grind[QcQ,Qcq]
   refine Qfc H (cap:=a.toNat) (C:=zeroRow z.cells (a.toNat*d.size)) (e:=e) (QaZ g) (by omega) (.inr (by simp[zeroRow])) ?_ hm;have q:¬a<0:=by omega
   have b2:¬281474976710656<(d.bytes:Int)*a:=by omega
   have E:¬k<0:=by omega
   have y:¬a<k:=by omega
   by_cases m:a.toNat*d.size=0
   ·have I:zeroRow z.cells 0=#[]:=by simp[zeroRow]
    simp only[Instr.makeSlice,Sem.run_bind,run_underlying C,Result.andThen_ok,asInt,asIntOf,Sem.run_pure,typeInfo,run_program,b,B,F,QaP b];simp only[q,b2,E,y,m,gt_iff_lt,decide_false,Bool.or_self,Zar,if_false,Sem.run_bind,Sem.run_pure,run_askRoom,Result.andThen_ok,Nat.reducePow,Int.reducePow,I];simp[newRow,QaP b,m,Array.range_zero']
   simp only[Instr.makeSlice,Sem.run_bind,run_underlying C,Result.andThen_ok,asInt,asIntOf,Sem.run_pure,typeInfo,run_program,b,B,F,QaP b];simp only[q,b2,E,y,m,gt_iff_lt,decide_false,Bool.or_self,Zar,if_false,Sem.run_bind,Sem.run_pure,run_askRoom,Result.andThen_ok,Nat.reducePow,Int.reducePow,zeroValue,typeInfo,run_program,b,G];simp_all[newRow,zeroRow,QaP]
  grind[HM.run]
 grind[HM.run]
end Go.AM
namespace Go.AM
variable{P:Program}{ok:Okc}{c:Ctx ok}{w:World}{h:Heap}
variable{y:AV}{r:AV×Heap}{h':Heap}{cs ys:List AV}{k:List AV->Nat->HM AV}{C us:List Value}{b g n:Nat}{s:Site}{d2:TypeDesc}{t t2 ty:TypeId}{B i:TypeInfo}{z:Value}
theorem HRel.drew(H:HRel c h w):Evo c w c w.drew/\HRel c h w.drew:=H.grow rfl rfl rfl (Zau _) (fun _ _=>rfl)
theorem Qqb{base off}(a:base+off<=C.length):(putL C (base+off) us).drop base=((C.drop base).take off++us)++(C.drop base).drop (off+us.length):=by unfold putL;rw[ZaN,List.drop_append,ZaN];grind[ZaT]
theorem HRel.putNil(H:HRel c h w)(u:b<lim)(t:∀y,g<y->c.ρ b y=none)(K:c.ρ b g=none\/c.ρ b g=some .nil):Evo c w (c.with b g .nil none) w/\HRel (c.with b g .nil none) (h.set b (.cells g [])) w:=by
 have E:Evo c w (c.with b g .nil none) w:=by
  refine⟨rfl,rfl,rfl,Zau _,fun _ C _ G h=>⟨C,G,h,rfl⟩,fun _ _ _=>rfl,?_,fun _ h=>h,fun _ h=>.inl h,?_,rfl⟩;·intro x1 y p hp;show(if x1=b/\y=g then some Place.nil else c.ρ x1 y)=some p;grind
  intro k l;rcases l with l|l;·exact .inl l
  cases l
 have B:∀k,(c.with b g .nil none).O k->c.O k:=fun k l=>l.elim id (fun e=>by cases e);refine⟨E,?_,?_,?_,?_,fun k I z=>H.disj k I (B k z),H.inF,fun k l=>H.inO k (B k l)⟩
 ·intro b2 a y;rw[Zcd h u]at a;split at a;·cases a
  rename_i i;show(if b2=b/\y=g then some Place.nil else c.ρ b2 y)=none;rw[if_neg (fun e=>i e.1)];exact H.fresh b2 a y
 ·intro b2 x2 a y L;rw[Zcd h u]at a;show(if b2=b/\y=g then some Place.nil else c.ρ b2 y)=none;split at a;·grind[Blk.gen]
  rename_i i;rw[if_neg (fun e=>i e.1)];exact H.later b2 x2 a y L
 ·intro b2 x2 a;rw[Zcd h u]at a;split at a;·rename_i o;subst o;cases a;exact .inl ⟨Qa6,rfl⟩
  rename_i i;refine Zcg (E.ext H.disj) ?_ (H.blk b2 x2 a);intro x n m hp;exact⟨.inl (H.owned ⟨x2,a,rfl,m⟩ hp),rfl⟩
 intro J O b2 N x v n M F q r;obtain⟨x1,f,rfl,A⟩:=M;obtain⟨x2,d,rfl,m⟩:=F;rw[Zcd h u]at f d;simp only[Ctx.with]at q r;by_cases o:J=b;·rw[if_pos o]at f;cases f;rw[if_pos ⟨o,rfl⟩]at q;cases q
 rw[if_neg o]at f;rw[if_neg (fun e=>o e.1)]at q;by_cases s:b2=b;·rw[if_pos s]at d;cases d;rw[if_pos ⟨s,rfl⟩]at r;cases r
 rw[if_neg s]at d;rw[if_neg (fun e=>s e.1)]at r;exact H.inj _ _ _ _ _ _ _ ⟨x1,f,rfl,A⟩ ⟨x2,d,rfl,m⟩ q r
structure SrcRel(P:Program)(c:Ctx ok)(w:World)(sz:Nat)(cy:Value)(ys:List AV)(n:Nat)(us:List Value):Prop where
 rels:VRels c w ys us
 len:ys.length=n*sz
 lenOf:∀w1,(Builtin.lenOf cy).run P w1=.ok n w1
 firstm:∀w1 m,m<=n->w1.heap=w.heap->(Builtin.firstCells sz m cy).run P w1=.ok (us.take (m*sz)).toArray w1
theorem SrcRel.first{sz}{cy}(S:SrcRel P c w sz cy ys n us):∀a,a.heap=w.heap->(Builtin.firstCells sz n cy).run P a=.ok us.toArray a:=by intro a hw;have h1:=S.firstm a n (Zau _) hw;have b:=QaG S.rels;have d:=S.len;simp_all
theorem Qe7{off len sz}{cy}(H:HRel c h w)(p:VRel c w (.sl b g off len sz) cy)(s:h.get b=some (.cells g cs))(t:off+len*sz<=cs.length):∃us,SrcRel P c w sz cy ((cs.drop off).take (len*sz)) len us:=by
 simp only[VRel]at p;rcases p with⟨hp,rfl,rfl,rfl⟩|⟨G,base,o,cap,C,e,B,hp,rfl,A,v,d⟩;·refine⟨[],⟨by simp[VRels],by simp,fun i=>by simp[Builtin.lenOf],fun i m _ _=>by simp[Builtin.firstCells]⟩⟩
 obtain⟨C',F,u,E,f,y,x,a⟩:=H.here s hp;rw[v]at f;cases f;by_cases q:len*sz=0
 ·refine⟨[],⟨by simp[q,VRels],by simp[q],fun i=>by simp[Builtin.lenOf],fun i m hm _=>?_⟩⟩;have l:m*sz=0:=by grind[Nat.mul_eq_zero]
  simp[Builtin.firstCells,l,loadCells,loadCellsFrom]
 have n:=Qbn a;simp at n;have k:cap≠0:=by grind
 obtain⟨rfl,r⟩:=d.resolve_left k;refine⟨(C.toList.drop (base+off)).take (len*sz),⟨?_,by simp;omega,fun i=>by simp[Builtin.lenOf],fun i m hm z=>?_⟩⟩;·have :=QaK a off (len*sz) t;simp_all
 grind[Za5,QbJ,Builtin.firstCells]
theorem Qc3{sz}{cy}(H:HRel c h w)(hy:VRel c w y cy)(hm:(aSrc sz y k).run h=some r):∃ys n us,SrcRel P c w sz cy ys n us/\(k ys n).run h=some r:=by
 cases y<;>simp only[aSrc]at hm<;>try(cases hm;done)
 case sl b g off len s=>
  split at hm
  ·rename_i e;subst e;obtain⟨cs,hb,hm⟩:=Qbg hm;split at hm;·rename_i hl;obtain⟨us,hs⟩:=Qe7 (P:=P) H hy hb hl;grind
   grind[HM.run]
  grind[HM.run]
 case fsl cs len s=>
  split at hm
  ·rename_i e;subst e;simp only[VRel]at hy;rcases hy with⟨⟨a,rfl⟩,rfl,rfl⟩|⟨cb,off,cap,C,e,fr,rfl,hlc,hlen,hF,hC,hpre⟩
   ·exact bPh3M
   ·have hcl:=Qbn hpre;simp at hcl;refine⟨cs,len,(C.toList.drop off).take cs.length,⟨QeW hpre,hlen,fun w1=>by simp[Builtin.lenOf],fun w1 m hm' hw1=>?_⟩,hm⟩;grind[Za5,QbJ,Builtin.firstCells]
  grind[HM.run]
 case nilsl=>simp only[VRel]at hy;subst hy;exact⟨[],0,[],⟨by simp[VRels],by simp,fun w1=>by simp[Builtin.lenOf],fun w1 m _ _=>by simp[Builtin.firstCells]⟩,hm⟩
 case esl=>
  simp only[VRel]at hy;obtain⟨a,rfl⟩:=hy;exact bPh3M
 case nsl=>
  simp only[VRel]at hy;obtain⟨a,k,rfl⟩:=hy;refine⟨[],0,[],⟨by simp[VRels],by simp,fun w1=>by simp[Builtin.lenOf],fun w1 m hm' _=>?_⟩,hm⟩;obtain rfl:m=0:=by omega
  simp[Builtin.firstCells,loadCells,loadCellsFrom]
 case str s=>
  split at hm
  ·rename_i e;subst e;simp only[VRel]at hy;subst hy;refine⟨_,_,s.map fun b=>Value.int .u8 b.toNat,⟨?_,by simp,fun w1=>by simp[Builtin.lenOf,ByteArray.size],fun w1 m hm' _=>?_⟩,hm⟩
   ·have :∀l:List UInt8,VRels c w (l.map fun b=>AV.int .u8 b.toNat) (l.map fun b=>Value.int .u8 b.toNat):=by intro l;induction l with|nil=>simp[VRels]|cons a l ih=>simp only[ZaL,VRels];exact⟨_,_,rfl,by simp[VRel],ih⟩
    exact this s
   simp_all[Builtin.firstCells]
  grind[HM.run]
theorem Qiz{need old bytes}(a:old<need)(c:need*bytes<=140737488355328):Builtin.nextslicecap need old*bytes<=281474976710656:=by have:=nextslicecap_le a;have b:Builtin.nextslicecap need old*bytes<=2*need*bytes:=Za5 _ this;grind
theorem Qcr{e:TypeId}{dlen dcap:Nat}{base:Option Addr}{cy:Value}{olds:List Value}(l:P.underlying t=some (.slice e))(g:P.underlying t2=some d2)(h:∀k,d2≠.int k)(hi:P.info? e=some i)(o:i.zero=some z)(hlen:∀a,(Builtin.lenOf cy).run P a=.ok n a)(b:∀a,a.heap=w.heap->(Builtin.firstCells i.size n cy).run P a=.ok us.toArray a)(hold:∀a,a.heap=w.heap->(Builtin.firstCells i.size dlen (.slice base dlen dcap)).run P a=.ok olds.toArray a)(q:dcap<dlen+n)(r:(dlen+n)*i.bytes<=140737488355328)(m:dlen+n<=9223372036854775807):(Builtin.append_ #[t,t2] ty #[.slice base dlen dcap,cy]).run P w=.ok (.slice (some ⟨w.heap.size,0,none⟩) (dlen+n) (grownCap w (dlen+n) dcap e)) (w.drew.alloc (.cells (olds++us++(Builtin.zeroCells z.cells (grownCap w (dlen+n) dcap e-(dlen+n))).toList).toArray e)):=by
 have p:¬(dlen+n<=dcap):=by omega
 have c:¬(9223372036854775807<((dlen:Int)+(n:Int))):=by omega
 have d:¬(281474976710656<Builtin.nextslicecap (dlen+n) dcap*i.bytes):=by simp_all[Qiz]
 have hf:=b w.drew rfl;have f:=hold w.drew rfl;have hm:(d2 matches .int _)=false:=by cases d2<;>first|rfl|exact absurd rfl (h _)
 simp only[Builtin.append_,ZaP,List.getElem?_toArray,Zbk,ZbH,Sem.run_bind,run_underlying l,run_underlying g,Result.andThen_ok,QaP hi,Sem.run_pure,hm];simp[typeInfo,zeroValue,hi,o,hlen,p,c,d,Question.forced,hf,f,newRow,grownCap];congr 2;simp_all
theorem QhY(w){need old}(e):need<=grownCap w need old e:=by unfold grownCap;exact Nat.le_add_right _ _
theorem Qbt{e:TypeId}{dlen dcap:Nat}{base:Option Addr}{cy:Value}(g:P.underlying t=some (.slice e))(d:P.underlying t2=some d2)(c:∀k,d2≠.int k)(hi:P.info? e=some i)(hlen:∀f,(Builtin.lenOf cy).run P f=.ok n f)(b:(Builtin.firstCells i.size n cy).run P w=.ok us.toArray w)(h:dlen+n<=dcap):(Builtin.append_ #[t,t2] ty #[.slice base dlen dcap,cy]).run P w=(match base with|some a=>((storeCells (a.add (dlen*i.size)) us).run P w).andThen fun _ w'=>.ok (.slice base (dlen+n) dcap) w'|none=>.ok (.slice base (dlen+n) dcap) w):=by
 have hm:(d2 matches .int _)=false:=by cases d2<;>first|rfl|exact absurd rfl (c _)
 simp only[Builtin.append_,ZaP,List.getElem?_toArray,Zbk,ZbH,Sem.run_bind,run_underlying g,run_underlying d,Result.andThen_ok,QaP hi,Sem.run_pure,hm];cases base<;>simp[hlen,h,b]
structure AppT(P:Program)(t t2 e:TypeId)(sz bytes:Nat)(i:TypeInfo)(z:Value):Prop where
 ht:P.underlying t=some (.slice e)ht2:∃d2,P.underlying t2=some d2/\∀k,d2≠.int k
 hi:P.info? e=some i
 hz:i.zero=some z
 hsz:i.size=sz
 hby:i.bytes=bytes
 hzs:z.cells.size=sz
theorem QcM(z)(n):(Builtin.zeroCells z n).size=n*z.size:=by simp[Builtin.zeroCells]
theorem Qfy(H:HRel c h w)(a:b<lim)(i:h.get b=none/\g=0\/∃z,h.get b=some z/\g=z.gen+1){rest}{e}(l:VRels c w cs us){len cap sz}(d:len<=cap)(f:cap*sz<=(us++rest).length):∃c',Evo c w c' (w.drew.alloc (.cells (us++rest).toArray e))/\HRel c' (h.set b (.cells g cs)) (w.drew.alloc (.cells (us++rest).toArray e))/\VRel c' (w.drew.alloc (.cells (us++rest).toArray e)) (.sl b g 0 len sz) (.slice (some ⟨w.heap.size,0,none⟩) len cap):=by obtain⟨E1,H1⟩:=H.drew;have k:=Zcf (E1.ext H.disj) _ _ l;obtain⟨c',hp,E2,H2⟩:=H1.newCells a i (cs:=cs) (C:=(us++rest).toArray) (e:=e) (by grind[QhV]);refine⟨c',E1.trans E2,H2,?_⟩;simp only[VRel];refine .inr ⟨_,0,0,cap,(us++rest).toArray,e,(0,0),hp,rfl,d,?_,.inr ⟨by simp,by simp_all⟩⟩;show(w.heap.push _)[w.heap.size]?=_;simp
theorem Qeu{e}{i sz bytes}{x v}{cx cy}(H:HRel c h w)(I:VRel c w x cx)(hy:VRel c w y cy)(T:AppT P t t2 e sz bytes B z)(hm:(aAppend s i sz bytes x y).run h=some (v,h')):Sound P c w (Builtin.append_ #[t,t2] ty #[cx,cy]) v h':=by
 obtain⟨V,⟨d2,q,r⟩,hi,hz,rfl,rfl,hzs⟩:=T;replace hm:=Qc3 (P:=P) H hy hm;obtain⟨Q,n,us,S,hm⟩:=hm;have hul:=QaG S.rels;have hyl:=S.len;by_cases J:(slLen x+n)*B.bytes<=140737488355328/\slLen x+n<=140737488355328/\Q.all AV.one=true;case pos=>
  rw[if_pos J]at hm;obtain⟨hb,hb2,hone⟩:=J;have L:∀u∈us,u.oneCell'=true:=by
   intro u hu;obtain⟨j,hj,rfl⟩:=Zb5.1 hu;obtain⟨v',hv',Z⟩:=QcB j S.rels (Zak (by omega:j<Q.length));rw[Zak hj]at hv';cases hv';have h1:(Q[j]).one=true:=by simp_all
   have h2:=Qdd (x:=Q[j]) Z (by cases hh:Q[j]<;>simp_all[AV.one,AV.cells]);have:(us[j]).cells=#[us[j]]\/∃a,us[j]=.agg a:=by cases us[j]<;>simp[Value.cells]
   rcases this with h3|⟨a,h3⟩;·simp_all
   rw[h3]at Z;exfalso;cases hh:Q[j]<;>rw[hh]at Z h1<;>simp[AV.one]at h1<;>simp[VRel]at Z;rcases Z.1 with⟨_,_,_,k1,_⟩|⟨_,_,_,_,k1,_⟩<;>simp_all
  have fresh:∀(base:Option Addr)(hold:∀O,(Builtin.firstCells B.size 0 (.slice base 0 0)).run P O=.ok #[] O)(b g:Nat),b<lim->(h.get b=none/\g=0\/∃z,h.get b=some z/\g=z.gen+1)->0<n->n*B.bytes<=140737488355328->n<=9223372036854775807->Sound P c w (Builtin.append_ #[t,t2] ty #[.slice base 0 0,cy]) (.sl b g 0 n B.size) (h.set b (.cells g Q)):=by intro base hold b g f hg hpos hbn h63;have Z:=Qcr (P:=P) (w:=w) (ty:=ty) (t:=t) (t2:=t2) (dlen:=0) (dcap:=0) (base:=base) (cy:=cy) (olds:=[]) (us:=us) V q r hi hz S.lenOf S.first (fun O _=>hold O) (by omega) (by simpa using hbn) (by simpa using h63);simp only[Zb8,ZaW]at Z;have hgl:=QhY w (need:=n) (old:=0) e;obtain⟨c',E',H',V'⟩:=Qfy H f hg (e:=e) (rest:=(Builtin.zeroCells z.cells (grownCap w n 0 e-n)).toList) S.rels (len:=n) (cap:=grownCap w n 0 e) (sz:=B.size) hgl (by have N:=QcM z.cells (grownCap w n 0 e-n);rw[hzs]at N;simp only[Zaf,Array.length_toList,N,<-hul,hyl];rw[<-ZbQ];simp_all);exact⟨_,c',_,Z,E',H',V'⟩
  cases x<;>(try simp only at hm)<;>try(simp[HM.run]at hm;done)
  case nilsl=>simp only[VRel]at I;subst I;cases n with|zero=>simp only[HM.run,Zaa,Zal]at hm;obtain⟨rfl,rfl⟩:=hm;exact .here H (by simpa using Qbt (P:=P) (ty:=ty) (base:=none) (dlen:=0) (dcap:=0) V q r hi S.lenOf (S.first w rfl) (by omega)) (by simp[VRel])|succ n=>obtain⟨b,g,f,hg,hm⟩:=Qdw hm;simp only[HM.run,Zaa,Zal]at hm;obtain⟨rfl,rfl⟩:=hm;simp only[slLen,Zb8]at hb hb2;exact fresh none (fun O=>by simp[Builtin.firstCells]) b g f hg (by omega) hb (by omega)
  case esl=>
   simp only[VRel]at I;obtain⟨base,rfl⟩:=I;have hold:∀O,(Builtin.firstCells B.size 0 (.slice base 0 0)).run P O=.ok #[] O:=by intro O;cases base<;>simp[Builtin.firstCells,loadCells,loadCellsFrom]
   cases n with|zero=>
    simp only[HM.run,Zaa,Zal]at hm;obtain⟨rfl,rfl⟩:=hm;have F:us=[]:=by grind
    have:=Qbt (P:=P) (ty:=ty) (base:=base) (dlen:=0) (dcap:=0) V q r hi S.lenOf (S.first w rfl) (by omega);rw[F]at this;refine .here H (cv:=.slice base 0 0) ?_ (by simp[VRel]);rw[this];cases base<;>simp[storeCells]|succ n=>obtain⟨b,g,f,hg,hm⟩:=Qdw hm;simp only[HM.run,Zaa,Zal]at hm;obtain⟨rfl,rfl⟩:=hm;simp only[slLen,Zb8]at hb hb2;exact fresh base hold b g f hg (by omega) hb (by omega)
  case fsl cs len s'=>cases n with|zero=>
   simp only[HM.run,Zaa,Zal]at hm;obtain⟨rfl,rfl⟩:=hm;have F:us=[]:=by grind
   have hx':=I;simp only[VRel]at I;rcases I with⟨⟨a,rfl⟩,_,_⟩|⟨G,off,cap,C,X,fr,rfl,hlc,_⟩;·refine .here H (cv:=.slice a 0 0) ?_ hx';rw[Qbt (P:=P) (ty:=ty) (base:=a) (dlen:=0) (dcap:=0) V q r hi S.lenOf (S.first w rfl) (by omega),F];cases a<;>simp[storeCells]
   refine .here H (cv:=.slice (some ⟨G,off,none⟩) len cap) ?_ hx';rw[Qbt (P:=P) (ty:=ty) (dlen:=len) (dcap:=cap) V q r hi S.lenOf (S.first w rfl) (by omega),F];simp[storeCells]|succ n=>simp[HM.run]at hm
  case sl b g off len s'=>
   simp only[slLen]at hb hb2;split at hm
   ·rename_i e1;subst e1;obtain⟨cs,p,hm⟩:=Qbg hm;split at hm
    ·rename_i hl;obtain⟨f,hm⟩:=Qa2 hm;simp only[HM.run,Zaa,Zal]at hm;obtain⟨rfl,rfl⟩:=hm;have l:∀y,g<y->c.ρ b y=none:=fun y hy=>H.later b _ p y hy;have hxx:=I;simp only[VRel]at I;rcases I with⟨hp,rfl,rfl,rfl⟩|⟨G,base,o,cap,C,X,fr,hp,rfl,hlc,hC,M⟩
     ·have hcs:cs=[]:=by
       rcases H.blk b _ p with⟨_,h2⟩|⟨_,_,_,_,_,h1,_⟩;·exact h2
       simp_all
      subst hcs;simp only[Zb8,Nat.zero_mul,List.drop_nil,List.take_nil,ZaW];by_cases hn:n=0
      ·subst hn;have hys:Q=[]:=by grind
       have F:us=[]:=by grind
       subst hys;obtain⟨E,H'⟩:=H.putNil (b:=b) (g:=g+1) f (fun y hy=>l y (by omega)) (.inl (l _ (by omega)));refine⟨.slice none 0 0,_,w,?_,E,H',?_⟩;·rw[Qbt (P:=P) (ty:=ty) (base:=none) (dlen:=0) (dcap:=0) V q r hi S.lenOf (S.first w rfl) (by omega)]
       simp_all[VRel,Qa6]
      exact fresh none (fun O=>by simp[Builtin.firstCells]) b (g+1) f (.inr ⟨_,p,rfl⟩) (by omega) (by simpa using hb) (by omega)
     obtain⟨C',e2,fr',hO,U,hfr,hbs,Y⟩:=H.here p hp;rw[hC]at U;cases U;have hlt:=Qbc hC;have hcl:=Qbn Y;simp at hcl;have K:=QaK Y off (len*B.size) hl;rw[ZaT]at K;by_cases A:len+n<=cap
     ·have d:=Qbt (P:=P) (w:=w) (ty:=ty) (base:=some ⟨G,o,none⟩) (dlen:=len) (dcap:=cap) V q r hi S.lenOf (S.first w rfl) A;simp only[Qb1]at d;by_cases hc0:cap=0
      ·have hl0:len=0:=by omega
       have hn0:n=0:=by omega
       subst hl0;subst hn0;subst hc0;have hys:Q=[]:=by grind
       have F:us=[]:=by grind
       subst hys;subst F;simp only[Nat.zero_mul,List.take_zero,ZaW,storeCells,Sem.run_pure,Result.andThen_ok]at d⊢;have:=H.put (b:=b) (cb:=G) (base:=base) (x:=.cells (g+1) []) (w':=w) f (fun y hy=>l y (by grind[Blk.gen])) (.inl (l _ (by simp[Blk.gen]))) (.inr ⟨g,base,⟨_,p,rfl,fun k=>by simp⟩,hp⟩) rfl rfl rfl (Zau _) hlt (fun _ _ _=>rfl) (fun C2 e2 fr2 h2=>⟨C2,fr2,h2,rfl⟩) (fun E=>.inr ⟨G,base,C,X,fr,Qa6,.inr rfl,hC,hfr,hbs,by simp[VPre]⟩);refine⟨_,_,_,d,this.1,this.2,?_⟩;simp only[VRel];exact .inr ⟨G,base,o,0,C,X,fr,Qa6,rfl,by omega,hC,.inl rfl⟩
      obtain⟨rfl,hbnd⟩:=M.resolve_left hc0;have hmul:(len+n)*B.size<=cap*B.size:=Za5 _ A;rw[ZbQ]at hmul;have R:=Qdt (P:=P) (cb:=G) (o:=base+off+len*B.size) us 0 w C hC hfr (by omega) L;simp only[Nat.add_zero]at R;rw[R]at d;simp only[Result.andThen_ok]at d;have hpl:(putL C.toList (base+off+len*B.size) us).length=C.size:=by grind[Qe6]
      have:=H.put (b:=b) (cb:=G) (base:=base+off) (x:=.cells (g+1) (List.take (len*B.size) (List.drop off cs)++Q)) (w':=upd w G (.cells (putL C.toList (base+off+len*B.size) us).toArray X fr)) f (fun y hy=>l y (by grind[Blk.gen])) (.inl (l _ (by simp[Blk.gen]))) (.inr ⟨g,base,⟨_,p,rfl,fun k=>by simp⟩,hp⟩) rfl rfl rfl (by simp[upd]) (by simp_all[upd]) (fun k _ hne=>Qgd hne) (fun C2 e2 fr2 h2=>by simp_all[Qds]) (fun E=>.inr ⟨G,base+off,_,X,fr,Qa6,.inr rfl,Qds hlt,by simp_all,by grind,by have e5:=Qqb (C:=C.toList) (us:=us) (base:=base+off) (off:=len*B.size) (by simp;omega);rw[List.toList_toArray,e5];exact QhV (QbB (Zcf (E.ext H.disj) _ _ K) (Zcf (E.ext H.disj) _ _ S.rels))⟩);refine⟨_,_,_,d,this.1,this.2,?_⟩;simp only[VRel];exact .inr ⟨G,base+off,base+off,cap,_,X,fr,Qa6,rfl,A,Qds hlt,.inr ⟨by omega,by simp_all⟩⟩
     obtain⟨olds,So⟩:=Qe7 (P:=P) H hxx p hl;have d:=Qcr (P:=P) (w:=w) (ty:=ty) (t:=t) (t2:=t2) (dlen:=len) (dcap:=cap) (base:=some ⟨G,o,none⟩) (cy:=cy) (olds:=olds) (us:=us) V q r hi hz S.lenOf S.first So.first (by omega) hb (by omega);have hgl:=QhY w (need:=len+n) (old:=cap) e;have hol:=QaG So.rels;have hol2:=So.len;obtain⟨c',E',H',V'⟩:=Qfy H f (.inr ⟨_,p,rfl⟩:h.get b=none/\g+1=0\/∃z,h.get b=some z/\g+1=z.gen+1) (e:=e) (rest:=(Builtin.zeroCells z.cells (grownCap w (len+n) cap e-(len+n))).toList) (QbB So.rels S.rels) (len:=len+n) (cap:=grownCap w (len+n) cap e) (sz:=B.size) hgl (by have N:=QcM z.cells (grownCap w (len+n) cap e-(len+n));rw[hzs]at N;simp only[Zaf,Array.length_toList,N,<-hul,hyl,<-hol,hol2];rw[<-ZbQ,<-ZbQ];simp_all);exact⟨_,c',_,d,E',H',V'⟩
    grind[HM.run]
   grind[HM.run]
  case typed tt mm y=>cases mm with|zero=>simp[HM.run]at hm|succ m=>
   cases y<;>try(simp[HM.run]at hm;done)
   rename_i b g off len s';dsimp only at hm;split at hm
   ·rename_i hc;obtain⟨rfl,hpos,A⟩:=hc;obtain⟨cs,p,hm⟩:=Qbg hm;split at hm
    ·rename_i hl;obtain⟨f,hm⟩:=Qa2 hm;simp only[HM.run,Zaa,Zal]at hm;obtain⟨rfl,rfl⟩:=hm;simp only[VRel]at I;obtain⟨hty,I⟩:=I;rcases I with⟨hp,rfl,rfl,rfl⟩|⟨G,base,o,cap,C,X,fr,hp,rfl,hlc,hC,M⟩;·have :=hty.room;omega
     have hcm:=hty.room;obtain⟨rfl,hbd⟩:=M.resolve_left (by omega);have d:=Qbt (P:=P) (ty:=ty) (base:=some ⟨G,base+off,none⟩) (dlen:=len) (dcap:=cap) V q r hi S.lenOf (S.first w rfl) (by omega);simp only[Qb1,Nat.add_assoc]at d;obtain⟨c',w',R,E,H'⟩:=Qdv (P:=P) (off:=off+len*B.size) H p f hp (by rw[hyl,Nat.add_assoc,<-ZbQ];exact hl) S.rels L;rw[R]at d;simp only[Result.andThen_ok]at d;obtain⟨C',fr',U,hsz⟩:=E.shape _ _ _ _ hC;refine⟨_,c',w',d,E,H',?_⟩;simp only[VRel];exact⟨.inr ⟨by omega,_,_,_,rfl,by omega⟩,.inr ⟨G,base,_,cap,C',X,fr',E.rho _ _ _ hp,rfl,by omega,U,.inr ⟨rfl,by omega⟩⟩⟩
    simp[HM.run]at hm
   simp[HM.run]at hm
 simp_all[if_neg,HM.run]
end Go.AM
