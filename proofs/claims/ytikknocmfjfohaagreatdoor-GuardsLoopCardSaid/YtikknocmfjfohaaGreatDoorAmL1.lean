/- A part of the proof of GuardsLoopCardSaid: lemmas on the way (AmC, AmD). Conditions: none of ours. -/
import Derived.Laws.Tables
import Derived.Test.YtikknocmfjfohaaGreatDoorAmL0
theorem Go.AM.bPh3M{p:Prop}(h:p:=by
 refine⟨[],0,[],⟨by simp[VRels],by simp,fun w1=>by simp[Builtin.lenOf],fun w1 m hm' _=>?_⟩,hm⟩;obtain rfl:m=0:=by omega
 cases a<;>simp[Builtin.firstCells,loadCells,loadCellsFrom]):p:=h
set_option linter.unusedSectionVars false
set_option maxHeartbeats 32000000
set_option maxRecDepth 100000
set_option linter.unusedVariables false
set_option linter.unusedSimpArgs false
namespace Go.AM
variable{P:Program}{ok:Okc}{c:Ctx ok}{w:World}{h:Heap}
variable{v x:AV}{f g:Array (Nat×Value)}{C:Array Value}{h':Heap}{parts:List (Nat×Nat×AV)}{cs xs:List AV}{us vs:List Value}{b cb i n o off:Nat}{place:Nat->Option (Nat×Nat)}{a:Nat×Nat}{p:Place}{s:Site}{α:Type}{t:TypeId}{d:TypeInfo}{cv u y z:Value}{k:Nat->Nat->HM α}
theorem QaH:∀{xs:List AV}{vs:List Value},VRels c w xs vs->xs.length=vs.length|[],vs,a=>by simp_all[VRels]|x::xs,vs,a=>by simp only[VRels]at a;obtain⟨v,d,rfl,_,b⟩:=a;simp[QaH b]
theorem Qa3:∀{xs:List AV}{vs:List Value},VRels c w xs vs->VPre c w xs vs|[],vs,b=>by simp[VPre]|x::xs,vs,b=>by simp only[VRels]at b;obtain⟨v,a,rfl,h1,d⟩:=b;simp only[VPre];exact⟨v,a,rfl,h1,Qa3 d⟩
theorem Qbs:∀{xs:List AV}{vs:List Value},VPre c w xs vs->xs.length<=vs.length|[],vs,a=>by simp|x::xs,vs,a=>by simp only[VPre]at a;obtain⟨v,d,rfl,_,b⟩:=a;have:=Qbs b;simp;omega
theorem Qdy:∀{xs:List AV}{vs:List Value}(i:Nat){x:AV},VPre c w xs vs->xs[i]?=some x->∃v,vs[i]?=some v/\VRel c w x v|[],vs,i,x,a,hi=>by simp at hi|y::xs,vs,i,x,a,hi=>by simp only[VPre]at a;obtain⟨v,d,rfl,h1,b⟩:=a;cases i with|zero=>simp at hi;subst hi;exact⟨v,by simp,h1⟩|succ i=>simp at hi;simpa using Qdy i b hi
theorem QcE(i:Nat)(a:VRels c w xs vs)(hi:xs[i]?=some x):∃v,vs[i]?=some v/\VRel c w x v:=Qdy i (Qa3 a) hi
theorem Qbo:∀(n:Nat){xs:List AV}{vs:List Value},VPre c w xs vs->VPre c w (xs.drop n) (vs.drop n)|0,xs,vs,a=>by simpa using a|n+1,[],vs,a=>by simp[VPre]|n+1,x::xs,vs,a=>by simp only[VPre]at a;obtain⟨v,d,rfl,h1,b⟩:=a;simpa using Qbo n b
theorem Qcm:∀(n:Nat){xs:List AV}{vs:List Value},VPre c w xs vs->VPre c w (xs.take n) vs|0,xs,vs,a=>by simp[VPre]|n+1,[],vs,a=>by simp[VPre]|n+1,x::xs,vs,a=>by simp only[VPre]at a;obtain⟨v,b,rfl,h1,d⟩:=a;simp only[Za6,VPre];exact⟨v,b,rfl,h1,Qcm n d⟩
theorem QeY:∀{xs:List AV}{vs:List Value},VPre c w xs vs->VRels c w xs (vs.take xs.length)|[],vs,a=>by simp[VRels]|x::xs,vs,a=>by simp only[VPre]at a;obtain⟨v,d,rfl,h1,b⟩:=a;simp only[ZaF,Za6,VRels];exact⟨v,_,rfl,h1,QeY b⟩
theorem Qe8:∀{xs ys:List AV}{us vs:List Value},VRels c w xs us->VPre c w ys vs->VPre c w (xs++ys) (us++vs)|[],ys,us,vs,h1,a=>by simp_all[VRels]|x::xs,ys,us,vs,h1,a=>by simp only[VRels]at h1;obtain⟨v,d,rfl,f,b⟩:=h1;simp only[ZaW,VPre];exact⟨v,_,rfl,f,Qe8 b a⟩
theorem QbB:∀{xs ys:List AV}{us vs:List Value},VRels c w xs us->VRels c w ys vs->VRels c w (xs++ys) (us++vs)|[],ys,us,vs,h1,a=>by simp_all[VRels]|x::xs,ys,us,vs,h1,a=>by simp only[VRels]at h1;obtain⟨v,d,rfl,f,b⟩:=h1;simp only[ZaW,VRels];exact⟨v,_,rfl,f,QbB b a⟩
theorem QhX(h1:VRels c w xs us):VPre c w xs (us++vs):=by have:=Qe8 (ys:=[]) (vs:=vs) h1 (by simp[VPre]);simp_all
theorem QaL(a:VPre c w xs vs)(off n)(b:off+n<=xs.length):VRels c w ((xs.drop off).take n) ((vs.drop off).take n):=by have h1:=Qcm n (Qbo off a);have d:=QeY h1;grind
theorem Qdk{v}(a:VRel c w x v)(ho:(x.cells.all AV.one)=true):VRels c w x.cells v.cells.toList/\∀u∈v.cells.toList,u.oneCell'=true:=by
 have one:∀(x:AV)(v:Value),VRel c w x v->x.one=true->v.oneCell'=true/\(∀cs,x≠.agg cs):=by intro x v a ho;cases x<;>simp only[AV.one]at ho<;>first|(exact absurd ho (by decide))|(simp only[VRel]at a;refine⟨?_,fun cs=>by simp⟩;first
  |(subst a;rfl)|(rcases a with⟨_,_,_,rfl⟩|⟨_,_,_,_,_,_,_,_,rfl,_⟩<;>rfl)|(rcases a with⟨⟨_,rfl⟩,_⟩|⟨_,_,_,_,_,_,rfl,_⟩<;>rfl)|(obtain⟨_,_,_,rfl⟩:=a;rfl)|(obtain⟨_,_,_,_,_,rfl,_⟩:=a;rfl)|(obtain⟨_,_,_,rfl,_⟩:=a;rfl)|(obtain⟨_,rfl⟩:=a;rfl)|(obtain⟨_,_,rfl⟩:=a;rfl)|(obtain⟨_,_,rfl,_⟩:=a;rfl)|(obtain⟨_,rfl,_⟩:=a;rfl)
  | (rcases a.1 with⟨_,_,_,h1,_⟩|⟨_,_,_,_,rfl,_⟩;·rcases h1 with rfl|⟨_,_,_,rfl⟩<;>rfl
     ·rfl))
 by_cases b:∃cs,x=.agg cs
 ·obtain⟨cs,rfl⟩:=b;simp only[VRel]at a;obtain⟨l,rfl,a⟩:=a;refine⟨by grind[AV.cells,Value.cells],fun u g=>?_⟩;simp only[Value.cells]at g;obtain⟨i,hi,rfl⟩:=Zb7.1 g;have m:=QaH a;have d:i<cs.length:=by omega
  obtain⟨v,h,k⟩:=QcE i a (Zak d);grind[AV.cells]
 have e:x.cells=[x]:=by cases x<;>first|rfl|exact absurd ⟨_,rfl⟩ b
 rw[e]at ho⊢;have f:x.one=true:=by simpa using ho
 obtain⟨h1,n⟩:=one x v a f;have ev:v.cells=#[v]:=by cases v<;>first|rfl|simp[Value.oneCell']at h1
 simp_all[VRels]
theorem Qeo{e}(b:w.heap[cb]?=some (.cells C e a)):w.cell? ⟨cb,o,none⟩=C[o]?:=by simp[World.cell?,b]
theorem QbX(cb o j):Addr.add ⟨cb,o,none⟩ j=⟨cb,o+j,none⟩:=by simp_all[Addr.add]
theorem QbG{e}(d:w.heap[cb]?=some (.cells C e a))(b:n=0\/o+n<=C.size):(loadCells ⟨cb,o,none⟩ n).run P w=.ok ((C.toList.drop o).take n).toArray w:=by have:=run_loadCells_list (P:=P) w ⟨cb,o,none⟩ ((C.toList.drop o).take n) (fun j v c=>by grind[QbX,Qeo]);grind
def Sound(P:Program)(c:Ctx ok)(w:World)(s:Sem Value)(v:AV)(h':Heap):Prop:=∃d b a,s.run P w=.ok d a/\Evo c w b a/\HRel b h' a/\VRel b a v d
theorem Sound.here(H:HRel c h w){s}(b:s.run P w=.ok cv w)(a:VRel c w v cv):Sound P c w s v h:=⟨cv,c,w,b,.refl c w,H,a⟩
def rowT(P:Program)(t:TypeId)(n:Option Nat):Bool:=match P.underlying t,P.info? t with|some (.struct _),some i=>n==some i.size|some (.array _ _),some i=>n==some i.size|some _,some _=>n==none|_,_=>false
theorem QaO{i}(hi:P.info? t=some i)(w):(sizeOf t).run P w=.ok i.size w:=by simp[sizeOf,typeInfo,hi]
theorem Qc6(a:rowT P t none=true)(w):(isAgg t).run P w=.ok false w:=by unfold rowT at a;unfold isAgg;cases b:P.underlying t with|none=>simp[b]at a|some d=>simp only[Sem.run_bind,run_underlying b,Result.andThen_ok];cases hi:P.info? t with|none=>cases d<;>simp[b,hi]at a|some i=>cases d<;>simp[b,hi]at a<;>rfl
theorem Qc7(a:rowT P t (some n)=true)(w):(isAgg t).run P w=.ok true w/\(sizeOf t).run P w=.ok n w:=by unfold rowT at a;unfold isAgg;cases b:P.underlying t with|none=>simp[b]at a|some d=>simp only[Sem.run_bind,run_underlying b,Result.andThen_ok];cases hi:P.info? t with|none=>cases d<;>simp[b,hi]at a|some i=>rw[QaO hi];cases d<;>simp[b,hi]at a<;>subst a<;>exact⟨rfl,rfl⟩
theorem Qbl{g}{k}{r:α×Heap}(hm:(HM.cells b g k).run h=some r):∃cs,h.get b=some (.cells g cs)/\(k cs).run h=some r:=by
 simp only[HM.cells,HM.run]at hm;split at hm;·rename_i a cs c;cases e:Nat.beq a g with|false=>rw[e]at hm;simp[HM.run]at hm|true=>
  rw[e]at hm;have:a=g:=by simpa using e
  subst this;exact⟨cs,c,hm⟩
 grind[HM.run]
theorem HRel.here(H:HRel c h w){g}(i:h.get b=some (.cells g cs)){base}(hp:c.ρ b g=some (.loc cb base)):∃C e d,c.O cb/\w.heap[cb]?=some (.cells C e d)/\Unfrozen d C.size/\base<=C.size/\VPre c w cs (C.toList.drop base):=by
 rcases H.blk b _ i with⟨h1,_⟩|⟨f,a,C,e,d,h1,n,l,o,k,m⟩;·simp_all
 grind
theorem Qpl{n}(H:HRel c h w)(i:VRel c w x y)(k:rowT P t n=true)(hm:(aLoad n x).run h=some (v,h')):Sound P c w (Instr.loadAt t y) v h':=by
 cases x<;>simp only[aLoad,HM.run]at hm<;>try(cases hm;done)
 case ptr b g off=>obtain⟨cs,B,hm⟩:=Qbl hm;simp only[VRel]at i;obtain⟨F,base,hp,rfl⟩:=i;obtain⟨C,e,A,I,f,E,z,a⟩:=H.here B hp;cases n with
  |none=>cases l:cs[off]? with|none=>simp[l,HM.opt,HM.run]at hm|some u=>simp only[l,HM.opt,HM.run,Zaa,Zal]at hm;obtain⟨rfl,rfl⟩:=hm;obtain⟨q,d,o⟩:=Qdy off a l;rw[Zb0,ZaT]at d;exact .here H (cv:=q) (by simp[Instr.loadAt,Instr.sureAddr,loadVar,Qc6 k,Qeo f,d]) o
  |some n=>
   simp only at hm;split at hm;·rename_i s;simp only[HM.run,Zaa,Zal]at hm;obtain⟨rfl,rfl⟩:=hm;obtain⟨p,m⟩:=Qc7 k w;have hlen:=Qbs a;simp at hlen;refine .here H (cv:=.agg ((C.toList.drop (base+off)).take n).toArray) (by simp[Instr.loadAt,Instr.sureAddr,loadVar,p,m,QbG (P:=P) (n:=n) (o:=base+off) f (by omega)]) ?_;simp only[VRel];refine⟨_,rfl,?_⟩;have:=QaL a off n s;simp_all
   simp[HM.run]at hm
 case fptr cs=>simp only[VRel]at i;obtain⟨F,off,C,e,A,rfl,G,f,a⟩:=i;cases n with
  |none=>cases cs with|nil=>simp[HM.opt,HM.run]at hm|cons u cs=>simp only[HM.opt,Zbo,HM.run,Zaa,Zal]at hm;obtain⟨rfl,rfl⟩:=hm;obtain⟨q,d,o⟩:=Qdy 0 a (x:=u) rfl;rw[Zb0,ZaT]at d;exact .here H (cv:=q) (by simp[Instr.loadAt,Instr.sureAddr,loadVar,Qc6 k,Qeo f];simp_all) o
  |some n=>
   simp only at hm;split at hm;·rename_i s;simp only[HM.run,Zaa,Zal]at hm;obtain⟨rfl,rfl⟩:=hm;obtain⟨p,m⟩:=Qc7 k w;have hlen:=Qbs a;simp at hlen;refine .here H (cv:=.agg ((C.toList.drop off).take n).toArray) (by simp[Instr.loadAt,Instr.sureAddr,loadVar,p,m,QbG (P:=P) (n:=n) (o:=off) f (by omega)]) ?_;simp only[VRel];refine⟨_,rfl,?_⟩;have:=QaL a 0 n (by simpa using s);simp_all
   simp[HM.run]at hm
def upd(w:World)(cb:Nat)(o:Obj):World:={w with heap:=w.heap.setIfInBounds cb o}
theorem Qdz{o}(a:cb<w.heap.size):(upd w cb o).heap[cb]?=some o:=by simp[upd,a]
theorem Qgh{k}{o}(a:k≠cb):(upd w cb o).heap[k]?=w.heap[k]?:=by grind[upd]
theorem Qtj{o o'}:upd (upd w cb o) cb o'=upd w cb o':=by simp[upd]
def putL(C:List Value)(o:Nat)(vs:List Value):List Value:=C.take o++vs++C.drop (o+vs.length)
theorem Qe9{C}(a:o+vs.length<=C.length):(putL C o vs).length=C.length:=by simp[putL];omega
theorem QhY{C}:putL C o []=C:=by simp[putL]
theorem Qj3{C}{v}(a:o<C.length):putL (C.set o v) (o+1) vs=putL C o (v::vs):=by
 simp only[putL,ZaF];rw[List.take_set,List.drop_set,if_pos (by omega)];rw[show o+1+vs.length=o+(vs.length+1)by omega];have:(C.take (o+1)).set o v=C.take o++[v]:=by apply Zbq;grind
 rw[this];simp
theorem QnF{e}(b:w.heap[cb]?=some (.cells C e a))(v):w.setCell ⟨cb,o,none⟩ v=upd w cb (.cells (C.setIfInBounds o v) e a):=by have c:=Qbk b;unfold World.setCell upd;congr 1;grind
theorem QdA{e}{d}:∀(vs:List Value)(i:Nat)(w:World)(C:Array Value),w.heap[cb]?=some (.cells C e d)->Unfrozen d C.size->o+i+vs.length<=C.size->(∀v∈vs,v.oneCell'=true)->(storeCells ⟨cb,o,none⟩ vs i).run P w=.ok () (upd w cb (.cells (putL C.toList (o+i) vs).toArray e d))
 |[],i,w,C,f,_,_,_=>by
  simp only[storeCells,Sem.run_pure,QhY];have m:upd w cb (.cells C e d)=w:=by show({w with heap:=_}:World)={w with heap:=w.heap};congr 1;grind
  simp_all|v::vs,i,w,C,f,c,k,a=>by
  simp only[ZaF]at k;have b:w.cell? ⟨cb,o+i,none⟩=some C[o+i]:=by rw[Qeo f];simp_all
  have h:w.frozen? ⟨cb,o+i,none⟩=false:=by have:=c (o+i) (by omega);simp_all[World.frozen?]
  have g:=Qbk f;simp only[storeCells,Sem.run_bind,QbX];rw[run_store P w _ v _ (a v (by simp)),b,h];simp only[Zaq,if_false,Result.andThen_ok];rw[QnF f,QdA vs (i+1) _ (C.setIfInBounds (o+i) v) (Qdz g) (by simpa using c) (by simp;omega) (fun u l=>a u (by simp[l]))];grind[Qtj,Qj3]
theorem Qff(cs)(off)(vs)(a:off+vs.length<=cs.length):putR cs off vs=cs.take off++vs++cs.drop (off+vs.length):=by
 unfold putR;split;·rename_i v;simp only[ZbB]at a⊢;rw[List.set_eq_take_append_cons_drop,if_pos (by omega)];simp
 rfl
theorem QnG(cs)(off)(vs)(a:off+vs.length<=cs.length):(putR cs off vs).length=cs.length:=by grind[Qff]
theorem QlC{cs vs:List AV}{C us:List Value}{base off:Nat}(hp:VPre c w cs (C.drop base))(d:VRels c w vs us)(f:off+vs.length<=cs.length):VPre c w (putR cs off vs) ((putL C (base+off) us).drop base):=by
 have hlen:=QaH d;have a:=Qbs hp;simp at a;rw[Qff _ _ _ f];by_cases g:vs=[];·simp_all[VRels,QhY]
 have b:0<vs.length:=List.length_pos_iff.2 g;have e:(putL C (base+off) us).drop base=((C.drop base).take off++us)++(C.drop base).drop (off+us.length):=by unfold putL;rw[ZaQ,List.drop_append,ZaQ];grind[ZaV]
 rw[e];refine Qe8 ?_ ?_;·refine QbB ?_ d;have:=QaL hp 0 off (by omega);simp_all
 grind[Qbo]
theorem Qbb{g}{cb}:(c.with b g p cb).ρ b g=some p:=by simp[Ctx.with]
theorem QdB(H:HRel c h w){g}{vs}{base}(i:h.get b=some (.cells g cs))(f:b<lim)(hp:c.ρ b g=some (.loc cb base))(x:off+vs.length<=cs.length)(t:VRels c w vs us)(d:∀u∈us,u.oneCell'=true):∃c' w',(storeCells ⟨cb,base+off,none⟩ us).run P w=.ok () w'/\Evo c w c' w'/\HRel c' (h.set b (.cells g (putR cs off vs))) w':=by
 obtain⟨C,e,s,G,q,o,z,a⟩:=H.here i hp;have n:=Qbk q;have hlen:=QaH t;have l:=Qbs a;simp at l;have hbound:base+off+us.length<=C.size:=by omega
 have p:=QdA (P:=P) (cb:=cb) (o:=base+off) us 0 w C q o (by omega) d;have B:(putL C.toList (base+off) us).length=C.size:=by simp_all[Qe9]
 have:=H.put (b:=b) (cb:=cb) (base:=base) (x:=.cells g (putR cs off vs)) (w':=upd w cb (.cells (putL C.toList (base+off) us).toArray e s)) f (fun y A=>H.later b _ i y A) (.inr hp) (.inr ⟨g,base,⟨_,i,rfl,fun k=>by simp⟩,hp⟩) rfl rfl rfl (by simp[upd]) (by simp_all[upd]) (fun k _ m=>Qgh m) (fun C2 F v I=>by simp_all[Qdz]) (fun E=>.inr ⟨cb,base,_,e,s,Qbb,.inr rfl,Qdz n,by simp_all,by simp_all,by have:=QlC (base:=base) a t x;simpa using VPre.mono (E.ext H.disj) _ _ this⟩);grind
theorem Qa7{x}{k:HM α}{r}(hm:(HM.put b x k).run h=some r):b<lim/\k.run (h.set b x)=some r:=by simp only[HM.run]at hm;cases e:Nat.blt b lim with|false=>rw[e]at hm;cases hm|true=>rw[e]at hm;exact⟨by simp_all,hm⟩
def SoundU(P:Program)(c:Ctx ok)(w:World)(s:Sem Unit)(h':Heap):Prop:=∃b a,s.run P w=.ok () a/\Evo c w b a/\HRel b h' a
theorem QnH{r}{i}(H:HRel c h w)(k:VRel c w x i)(o:VRel c w v cv)(B:∀w,(sizeOf t).run P w=.ok n w)(hm:(aStore n x v).run h=some (r,h')):SoundU P c w (Instr.storeAt t i cv) h':=by
 cases x<;>simp only[aStore,HM.run]at hm<;>try(cases hm;done)
 case ptr b g off=>
  obtain⟨cs,p,hm⟩:=Qbl hm;split at hm
  ·rename_i a;obtain⟨h1,E,y⟩:=a;obtain⟨d,hm⟩:=Qa7 hm;simp only[HM.run,Zaa,Zal]at hm;obtain⟨_,rfl⟩:=hm;simp only[VRel]at k;obtain⟨C,base,hp,rfl⟩:=k;obtain⟨f,q⟩:=Qdk o y;obtain⟨u,s,A,l,m⟩:=QdB (P:=P) H p d hp (vs:=v.cells) (off:=off) (by omega) f q;refine⟨u,s,?_,l,m⟩;have z:cv.cells.size=n:=by have:=QaH f;simp_all
   simp_all[Instr.storeAt,Instr.sureAddr,storeVar]
  grind[HM.run]
theorem QdC{x}{r}(hm:(HM.new s i x k).run h=some r):∃b g,b<lim/\(h.get b=none/\g=0\/∃z,h.get b=some z/\g=z.gen+1)/\(k b g).run (h.set b (x g))=some r:=by
 cases s with|dyn=>
  simp only[HM.new,HM.run]at hm;split at hm;·rename_i c;obtain⟨h1,a⟩:=Qa7 hm;exact⟨i,0,h1,.inl ⟨c,rfl⟩,a⟩
  simp[HM.run]at hm|st b=>
  simp only[HM.new,HM.run]at hm;split at hm;·rename_i c;obtain⟨h1,a⟩:=Qa7 hm;exact⟨b,0,h1,.inl ⟨c,rfl⟩,a⟩
  rename_i z c;obtain⟨h1,a⟩:=Qa7 hm;exact⟨b,z.gen+1,h1,.inr ⟨z,c,rfl⟩,a⟩
theorem HRel.newCells(H:HRel c h w){g}(f:b<lim)(q:h.get b=none/\g=0\/∃z,h.get b=some z/\g=z.gen+1){e}(d:VPre c w cs C.toList):∃c',c'.ρ b g=some (.loc w.heap.size 0)/\Evo c w c' (w.alloc (.cells C e))/\HRel c' (h.set b (.cells g cs)) (w.alloc (.cells C e)):=by
 have a:∀y,g<=y->c.ρ b y=none:=by
  intro y m;rcases q with⟨h1,n⟩|⟨z,h1,n⟩;·exact H.fresh b h1 y
  exact H.later b z h1 y (by omega)
 have l:(w.alloc (.cells C e)).heap[w.heap.size]?=some (.cells C e):=by show(w.heap.push _)[w.heap.size]?=_;simp
 have:=H.put (b:=b) (cb:=w.heap.size) (base:=0) (x:=.cells g cs) (w':=w.alloc (.cells C e)) f (fun y m=>a y (Nat.le_of_lt m)) (.inl (a g (ZaC _))) (.inl rfl) rfl rfl rfl (by simp) (by simp) (fun k o _=>Go.RowKit.Below.heap_alloc w _ k o) (fun C2 s p n=>by simp_all) (fun E=>.inr ⟨w.heap.size,0,C,e,(0,0),Qbb,.inr rfl,l,fun i _=>by omega,by omega,by simpa using VPre.mono (E.ext H.disj) _ _ d⟩);exact⟨_,Qbb,this.1,this.2⟩
theorem VRel_cells'{v}(b:VRel c w x v)(ho:x.boxable=true):VRels c w x.cells v.cells.toList:=by
 by_cases a:∃cs,x=.agg cs;·obtain⟨cs,rfl⟩:=a;simp only[VRel]at b;obtain⟨d,rfl,b⟩:=b;grind[AV.cells,Value.cells]
 refine(Qdk b ?_).1;cases x<;>first|rfl|(simp[AV.boxable]at ho;done)|exact absurd ⟨_,rfl⟩ a
theorem Qj4{e}{d}(H:HRel c h w)(m:VRel c w x d)(hm:(aBox s i x).run h=some (v,h')):Sound P c w (Instr.box e d) v h':=by
 unfold aBox at hm;split at hm
 ·rename_i o;obtain⟨b,g,a,n,hm⟩:=QdC hm;simp only[HM.run,Zaa,Zal]at hm;obtain⟨rfl,rfl⟩:=hm;obtain⟨k,hp,l,f⟩:=H.newCells a n (C:=d.cells) (e:=e) (Qa3 (VRel_cells' m o));refine⟨.pointer (some ⟨w.heap.size,0,none⟩),k,_,?_,l,f,?_⟩;·simp[Instr.box,newVar,newRow]
  simp_all[VRel]
 grind[HM.run]
mutual def cOK:AV->Value->Bool|.any,_=>true|.bool b,.bool b'=>b==b'|.int k n,.int k' n'=>k==k'&&n==n'|.str s,.string bs=>s==bs.data.toList|.nilptr,.pointer none=>true|.nilsl,.slice none 0 0=>true|.nilmap,.map none=>true|.nilfn,.nilFunc=>true|.nilif,.nilIface=>true|.agg cs,.agg vs=>cOKs cs vs.toList|.tup cs,.tuple vs=>cOKs cs vs.toList|_,_=>false termination_by structural x=>x def cOKs:List AV->List Value->Bool|[],[]=>true|x::xs,v::vs=>cOK x v&&cOKs xs vs|_,_=>false termination_by structural x=>x end
mutual theorem Qep:∀(x:AV)(v:Value),cOK x v=true->VRel c w x v|.any,_,_=>by simp[VRel]|.bool b,v,hh=>by cases v<;>simp_all[cOK,VRel]|.int k n,v,hh=>by cases v<;>simp_all[cOK,VRel]|.str s,v,hh=>by cases v<;>simp_all[cOK,VRel]|.agg cs,v,hh=>by cases v<;>simp only[cOK,Zaq]at hh;simp only[VRel];exact⟨_,rfl,Qcs cs _ hh⟩|.tup cs,v,hh=>by cases v<;>simp only[cOK,Zaq]at hh;simp only[VRel];exact⟨_,rfl,Qcs cs _ hh⟩|.nilptr,v,hh=>by grind[cOK,VRel]|.nilsl,v,hh=>by grind[cOK,VRel]|.nilmap,v,hh=>by grind[cOK,VRel]|.nilfn,v,hh=>by grind[cOK,VRel]|.nilif,v,hh=>by grind[cOK,VRel]|.ptr _ _ _,v,hh=>by simp[cOK]at hh|.fptr _,v,hh=>by simp[cOK]at hh|.sl _ _ _ _ _,v,hh=>by simp[cOK]at hh|.fsl _ _ _,v,hh=>by simp[cOK]at hh|.esl,v,hh=>by simp[cOK]at hh|.nsl,v,hh=>by simp[cOK]at hh|.map _ _,v,hh=>by simp[cOK]at hh|.fmap _ _,v,hh=>by simp[cOK]at hh|.fn _ _ _,v,hh=>by simp[cOK]at hh|.ifc _ _,v,hh=>by simp[cOK]at hh theorem Qcs:∀(xs:List AV)(vs:List Value),cOKs xs vs=true->VRels c w xs vs|[],vs,hh=>by grind[cOKs,VRels]|x::xs,[],hh=>by simp[cOKs]at hh|x::xs,v::vs,hh=>by simp only[cOKs,Zab]at hh;simp only[VRels];exact⟨v,vs,rfl,Qep x v hh.1,Qcs xs vs hh.2⟩end
theorem QnI{z}{b}{a}(H:HRel c h w)(hi:P.info? t=some b)(k:b.zero=some a)(hc:cOK z a=true)(hm:(aBox s i z).run h=some (v,h')):Sound P c w (Instr.alloc t true (.tuple #[])) v h':=by have:=Qj4 (P:=P) (e:=t) H (Qep (c:=c) (w:=w) z a hc) hm;obtain⟨g,f,d,l,h1⟩:=this;refine⟨g,f,d,?_,h1⟩;simp_all[Instr.alloc,Instr.box,zeroValue,typeInfo]
theorem Qj5(off):∀(l:List Value)(k:Nat)(cells:Array Value),off+k+l.length<=cells.size->((l.zipIdx k).foldl (fun(cs:Array Value)(p:Value×Nat)=>cs.setIfInBounds (off+p.2) p.1) cells).toList=putL cells.toList (off+k) l|[],k,cells,_=>by simp[QhY]|v::l,k,cells,a=>by simp only[ZaF]at a;simp only[List.zipIdx_cons,ZaO];rw[Qj5 off l (k+1) _ (by simp;omega),Array.toList_setIfInBounds,<-Nat.add_assoc,Qj3 (by simp;omega)]
theorem Qp1{vs}{C}(hp:VRels c w cs C)(b:VRels c w vs us)(d:off+vs.length<=cs.length):VRels c w (putR cs off vs) (putL C off us):=by have h1:=QlC (base:=0) (by simpa using Qa3 hp) b d;have f:=QeY h1;have hlen:=QaH hp;have a:=QaH b;simp_all[QnG,ZaN,Qe9]
def PartsRel(c:Ctx ok)(w:World)(place:Nat->Option (Nat×Nat)):List (Nat×Nat×AV)->List (Nat×Value)->Prop|[],b=>b=[]|(off,size,x)::r,b=>∃i v a,b=(i,v)::a/\place i=some (off,size)/\VRel c w x v/\PartsRel c w place r a
theorem QfA:∀(parts:List (Nat×Nat×AV))(g:List (Nat×Value))(cs b:List AV)(cells:Array Value),PartsRel c w place parts g->VRels c w cs cells.toList->fillA cs parts=some b->∃a,Instr.fill place cells g=some a/\VRels c w b a.toList
 |[],g,cs,b,cells,hp,hc,hf=>by simp only[PartsRel]at hp;subst hp;simp only[fillA,Zaa]at hf;subst hf;exact⟨cells,rfl,hc⟩|(off,size,x)::r,g,cs,b,cells,hp,hc,hf=>by
  simp only[PartsRel]at hp;obtain⟨i,v,h,rfl,n,s,o⟩:=hp;simp only[fillA]at hf;split at hf;·rename_i d;obtain⟨z,u,q⟩:=d;have f:=VRel_cells' s q;have hlen:=QaH f;have k:=QaH hc;simp at hlen k;have l:=Qj5 off v.cells.toList 0 cells (by simp;omega);have m:=Qp1 (off:=off) hc f (by omega);obtain⟨a,y,t⟩:=QfA r h _ b (v.cells.zipIdx.foldl (fun cs(p:Value×Nat)=>cs.setIfInBounds (off+p.2) p.1) cells) o (by grind[Array.toList_zipIdx]) hf;simp_all[Instr.fill]
  cases hf
def placeOf(P:Program)(t:TypeId)(i:Nat):Option (Nat×Nat):=match P.underlying t with
 |some (.array _ e)=>match P.info? e with|some b=>some (i*b.size,b.size)|none=>none
 |some (.struct fields)=>match fields.toList.mapM (fun f=>(P.info? f.type).map fun i=>(f.offset,i.size))with|some a=>a[i]?|none=>none
 |_=>none
def zeroOf(P:Program)(t:TypeId):Option Value:=(P.info? t).bind (·.zero)
theorem QnJ{zero:List AV}{o:Value}(H:HRel c h w)(d:zeroOf P t=some o)(hc:cOKs zero o.cells.toList=true)(q:(∃n e k,P.underlying t=some (.array n e)/\P.info? e=some k)\/(∃fields a,P.underlying t=some (.struct fields)/\fields.toList.mapM (fun f=>(P.info? f.type).map fun i=>(f.offset,i.size))=some a))(hp:PartsRel c w (placeOf P t) parts g.toList)(hm:aBuild zero parts=some v):Sound P c w (Instr.build t g) v h:=by unfold aBuild at hm;cases hf:fillA zero parts with|none=>simp[hf]at hm|some cs=>simp only[hf,Zaa]at hm;subst hm;obtain⟨b,h1,u⟩:=QfA (place:=placeOf P t) parts g.toList zero cs o.cells hp (Qcs _ _ hc) hf;refine .here H (cv:=.agg b) (run_build w t g b ?_) (by simp only[VRel];simp_all);unfold zeroOf at d;cases hi:P.info? t with|none=>simp[hi]at d|some it=>
 simp only[hi,Option.bind_some]at d;unfold Program.built;rcases q with⟨n,e,k,p,m⟩|⟨fields,a,p,l⟩
 ·simp only[hi,p,d,m];have s:placeOf P t=fun i=>some (i*k.size,k.size):=by grind[placeOf]
  simp_all
 simp only[hi,p,d,l];have s:placeOf P t=fun i=>a.toArray[i]?:=by grind[placeOf]
 simp_all
theorem Qfg(H:HRel c h w){e:TypeId}{len cap sz:Nat}{run:Sem Value}(f:VPre c w cs C.toList)(k:len<=cap)(a:cap=0\/cap*sz<=C.size)(m:run.run P w=.ok (.slice (some ⟨w.heap.size,0,none⟩) len cap) (w.alloc (.cells C e)))(hm:(HM.new s i (fun g=>.cells g cs) fun b g=>.ret (.sl b g 0 len sz)).run h=some (v,h')):Sound P c w run v h':=by obtain⟨b,g,d,q,hm⟩:=QdC hm;simp only[HM.run,Zaa,Zal]at hm;obtain⟨rfl,rfl⟩:=hm;obtain⟨p,hp,l,o⟩:=H.newCells d q (C:=C) (e:=e) f;refine⟨_,p,_,m,l,o,?_⟩;simp only[VRel];refine .inr ⟨_,0,0,cap,C,e,(0,0),hp,rfl,k,?_,a.imp id (fun n=>⟨by simp,by simpa using n⟩)⟩;show(w.heap.push _)[w.heap.size]?=_;simp
theorem Qiu(H:HRel c h w){e}{len cap sz}{run}(b:VPre c w cs C.toList)(d:len<=cap)(g:cs.length=len*sz)(i:run.run P w=.ok (.slice (some ⟨w.heap.size,0,none⟩) len cap) (w.alloc (.cells C e))):Sound P c w run (.fsl cs len sz) h:=by
 obtain⟨E,H1⟩:=H.grow (w':=w.alloc (.cells C e)) rfl rfl rfl (by simp) (fun k a=>Go.RowKit.Below.heap_alloc w _ k a);have H2:=H1.frozen (fun k=>c.F k\/k=w.heap.size) (fun k a=>.inl a) (fun k a=>by
  rcases a with a|a;·exact⟨H.disj k a,by have:=H.inF k a;simp;omega⟩
  subst a;exact⟨fun f=>by have:=H.inO _ f;omega,by simp⟩);have E2:Evo c w {c with F:=fun k=>c.F k\/k=w.heap.size} (w.alloc (.cells C e)):=⟨E.os,E.tape,E.output,E.size,E.shape,E.keep,E.rho,fun k a=>.inl a,fun k a=>a.imp id (fun h=>.inr (Nat.le_of_eq h.symm)),E.own,rfl⟩;refine⟨_,_,_,i,E2,H2,?_⟩;simp only[VRel];refine .inr ⟨_,0,cap,C,e,(0,0),rfl,d,g,.inr rfl,?_,?_⟩;·show(w.heap.push _)[w.heap.size]?=_;simp
 simpa using VPre.mono (E2.ext H.disj) _ _ b
def zeroRow(z:Array Value)(n:Nat):Array Value:=(Array.range n).map (z[·%z.size]!)
theorem run_buildSlice'(w)(t e)(len)(parts)(cells)(a)(z)(f:P.underlying t=some (.slice e))(b:P.info? e=some a)(g:a.zero=some z)(c:len*a.size<=16777216)(hf:Instr.fill (fun i=>some (i*a.size,a.size)) (zeroRow z.cells (len*a.size)) parts.toList=some cells):(Instr.buildSlice t len parts).run P w=.ok (.slice (some ⟨w.heap.size,0,none⟩) len len) (w.alloc (.cells cells e)):=by
 have h:¬16777216<len*a.size:=by omega
 by_cases d:len*a.size=0
 ·rw[d]at hf;have:zeroRow z.cells 0=#[]:=by simp[zeroRow]
  rw[this]at hf;simp only[Instr.buildSlice,Sem.run_bind,run_underlying f,Result.andThen_ok,QaO b];simp only[d];simp_all[Array.range,newRow]
 unfold zeroRow at hf;simp[Instr.buildSlice,run_underlying f,sizeOf,typeInfo,zeroValue,b,g,h,d,hf,newRow]
theorem QhZ{e}{frozen}{sz len}{zero}(H:HRel c h w)(p:P.underlying t=some (.slice e))(l:P.info? e=some d)(k:d.size=sz)(o:d.zero=some z)(a:len*sz<=16777216)(hc:cOKs zero (zeroRow z.cells (len*sz)).toList=true)(hp:PartsRel c w (fun i=>some (i*sz,sz)) parts f.toList)(hm:(aBuildSlice frozen s i sz len zero parts).run h=some (v,h')):Sound P c w (Instr.buildSlice t len f) v h':=by subst k;unfold aBuildSlice at hm;cases hf:fillA zero parts with|none=>simp[hf,HM.run]at hm|some cs=>
 simp only[hf]at hm;split at hm
 ·rename_i n;obtain⟨b,h1,g⟩:=QfA parts f.toList zero cs (zeroRow z.cells (len*d.size)) hp (Qcs _ _ hc) hf;have hlen:=QaH g;simp at hlen;have m:=run_buildSlice' (P:=P) w t e len f b d z p l o a h1;split at hm
  ·split at hm;·simp only[HM.run,Zaa,Zal]at hm;obtain⟨rfl,rfl⟩:=hm;exact Qiu H (Qa3 g) (ZaC _) n m
   grind[HM.run]
  exact Qfg H (Qa3 g) (ZaC _) (.inr (by omega)) m hm
 simp[HM.run]at hm
theorem QnK(s k)(f:Nat->Value)(hf:∀i,f (i+s)=f i):(List.range (s+k)).map f=(List.range s).map f++(List.range k).map f:=by simp_all[List.range_add,Nat.add_comm]
theorem QcW{zero}{z}(a:VRels c w zero z.toList):∀k,VRels c w (List.replicate k zero).flatten (zeroRow z (k*z.size)).toList
 |0=>by simp[zeroRow,VRels]|k+1=>by
  have b:=QcW a k;have e:(zeroRow z ((k+1)*z.size)).toList=z.toList++(zeroRow z (k*z.size)).toList:=by simp only[zeroRow,Array.toList_map,Array.toList_range];rw[show(k+1)*z.size=z.size+k*z.size by rw[Zbi];omega];rw[QnK z.size _ (fun i=>z[i%z.size]!) (fun i=>by simp)];congr 1;apply Zbq;grind[Nat.mod_eq_of_lt]
  simp_all[Za4,QbB]
theorem Qiv{e}{sz bytes}{zero}{l n}(H:HRel c h w)(x:VRel c w l u)(B:VRel c w n y)(E:P.underlying t=some (.slice e))(b:P.info? e=some d)(p:d.size=sz)(o:d.bytes=bytes)(I:d.zero=some z)(K:z.cells.size=sz)(hc:cOKs zero z.cells.toList=true)(hm:(aMakeSlice s i sz bytes zero l n).run h=some (v,h')):Sound P c w (Instr.makeSlice t u y) v h':=by
 subst p;subst o;unfold aMakeSlice at hm;split at hm
 ·rename_i M k Q a;split at hm
  ·rename_i f;obtain⟨h1,O,L,N⟩:=f;simp only[VRel]at x B;subst x;subst B;have C:IntKind.i64.wrap k=k:=by rw[<-wr_eq];grind[wr_of,lo,hi]
   have G:IntKind.i64.wrap a=a:=by rw[<-wr_eq];grind[wr_of,lo,hi]
   have g:VRels c w (List.replicate a.toNat zero).flatten (zeroRow z.cells (a.toNat*d.size)).toList:=by grind[QcW,Qcs]
   refine Qfg H (cap:=a.toNat) (C:=zeroRow z.cells (a.toNat*d.size)) (e:=e) (Qa3 g) (by omega) (.inr (by simp[zeroRow])) ?_ hm;have q:¬a<0:=by omega
   have b2:¬281474976710656<(d.bytes:Int)*a:=by omega
   have F:¬k<0:=by omega
   have A:¬a<k:=by omega
   by_cases m:a.toNat*d.size=0
   ·have J:zeroRow z.cells 0=#[]:=by simp[zeroRow]
    simp only[Instr.makeSlice,Sem.run_bind,run_underlying E,Result.andThen_ok,asInt,asIntOf,Sem.run_pure,typeInfo,run_program,b,C,G,QaO b];simp only[q,b2,F,A,m,gt_iff_lt,decide_false,Bool.or_self,Zaq,if_false,Sem.run_bind,Sem.run_pure,run_askRoom,Result.andThen_ok,Nat.reducePow,Int.reducePow,J];simp[newRow,QaO b,m,Array.range_zero']
   simp only[Instr.makeSlice,Sem.run_bind,run_underlying E,Result.andThen_ok,asInt,asIntOf,Sem.run_pure,typeInfo,run_program,b,C,G,QaO b];simp only[q,b2,F,A,m,gt_iff_lt,decide_false,Bool.or_self,Zaq,if_false,Sem.run_bind,Sem.run_pure,run_askRoom,Result.andThen_ok,Nat.reducePow,Int.reducePow,zeroValue,typeInfo,run_program,b,I];simp_all[newRow,zeroRow,QaO]
  grind[HM.run]
 grind[HM.run]
end Go.AM
namespace Go.AM
variable{P:Program}{ok:Okc}{c:Ctx ok}{w:World}{h:Heap}
variable{y:AV}{h':Heap}{cs ys:List AV}{k:List AV->Nat->HM AV}{C us:List Value}{b g n:Nat}{s:Site}{f:TypeDesc}{t t2 ty:TypeId}{F i:TypeInfo}{z:Value}
theorem HRel.drew(H:HRel c h w):Evo c w c w.drew/\HRel c h w.drew:=H.grow rfl rfl rfl (ZaC _) (fun _ _=>rfl)
theorem Qp2{base off}(a:base+off<=C.length):(putL C (base+off) us).drop base=((C.drop base).take off++us)++(C.drop base).drop (off+us.length):=by unfold putL;rw[ZaQ,List.drop_append,ZaQ];grind[ZaV]
theorem HRel.putNil(H:HRel c h w)(v:b<lim)(u:∀y,g<y->c.ρ b y=none)(L:c.ρ b g=none\/c.ρ b g=some .nil):Evo c w (c.with b g .nil none) w/\HRel (c.with b g .nil none) (h.set b (.cells g [])) w:=by
 have E:Evo c w (c.with b g .nil none) w:=by
  refine⟨rfl,rfl,rfl,ZaC _,fun _ C _ I h=>⟨C,I,h,rfl⟩,fun _ _ _=>rfl,?_,fun _ h=>h,fun _ h=>.inl h,?_,rfl⟩;·intro x1 y p hp;show(if x1=b/\y=g then some Place.nil else c.ρ x1 y)=some p;grind
  intro k l;rcases l with l|l;·exact .inl l
  cases l
 have F:∀k,(c.with b g .nil none).O k->c.O k:=fun k l=>l.elim id (fun e=>by cases e);refine⟨E,?_,?_,?_,?_,fun k J A=>H.disj k J (F k A),H.inF,fun k l=>H.inO k (F k l)⟩
 ·intro b2 a y;rw[Zcf h v]at a;split at a;·cases a
  rename_i i;show(if b2=b/\y=g then some Place.nil else c.ρ b2 y)=none;rw[if_neg (fun e=>i e.1)];exact H.fresh b2 a y
 ·intro b2 x2 a y M;rw[Zcf h v]at a;show(if b2=b/\y=g then some Place.nil else c.ρ b2 y)=none;split at a;·grind[Blk.gen]
  rename_i i;rw[if_neg (fun e=>i e.1)];exact H.later b2 x2 a y M
 ·intro b2 x2 a;rw[Zcf h v]at a;split at a;·rename_i o;subst o;cases a;exact .inl ⟨Qbb,rfl⟩
  rename_i i;refine Zci (E.ext H.disj) ?_ (H.blk b2 x2 a);intro z n m hp;exact⟨.inl (H.owned ⟨x2,a,rfl,m⟩ hp),rfl⟩
 intro K P b2 O z x n N G q s;obtain⟨x1,f,rfl,B⟩:=N;obtain⟨x2,d,rfl,m⟩:=G;rw[Zcf h v]at f d;simp only[Ctx.with]at q s;by_cases o:K=b;·rw[if_pos o]at f;cases f;rw[if_pos ⟨o,rfl⟩]at q;cases q
 rw[if_neg o]at f;rw[if_neg (fun e=>o e.1)]at q;by_cases t:b2=b;·rw[if_pos t]at d;cases d;rw[if_pos ⟨t,rfl⟩]at s;cases s
 rw[if_neg t]at d;rw[if_neg (fun e=>t e.1)]at s;exact H.inj _ _ _ _ _ _ _ ⟨x1,f,rfl,B⟩ ⟨x2,d,rfl,m⟩ q s
structure SrcRel(P:Program)(c:Ctx ok)(w:World)(sz:Nat)(cy:Value)(ys:List AV)(n:Nat)(us:List Value):Prop where
 rels:VRels c w ys us
 len:ys.length=n*sz
 lenOf:∀w1,(Builtin.lenOf cy).run P w1=.ok n w1
 firstm:∀w1 m,m<=n->w1.heap=w.heap->(Builtin.firstCells sz m cy).run P w1=.ok (us.take (m*sz)).toArray w1
theorem SrcRel.first{sz}{cy}(S:SrcRel P c w sz cy ys n us):∀a,a.heap=w.heap->(Builtin.firstCells sz n cy).run P a=.ok us.toArray a:=by intro a hw;have h1:=S.firstm a n (ZaC _) hw;have b:=QaH S.rels;have d:=S.len;simp_all
theorem Qfa{off len sz}{cy}(H:HRel c h w)(p:VRel c w (.sl b g off len sz) cy)(t:h.get b=some (.cells g cs))(u:off+len*sz<=cs.length):∃us,SrcRel P c w sz cy ((cs.drop off).take (len*sz)) len us:=by
 simp only[VRel]at p;rcases p with⟨hp,rfl,rfl,rfl⟩|⟨I,base,o,cap,C,e,E,hp,rfl,B,x,d⟩;·refine⟨[],⟨by simp[VRels],by simp,fun i=>by simp[Builtin.lenOf],fun i m _ _=>by simp[Builtin.firstCells]⟩⟩
 obtain⟨C',G,v,F,f,z,y,a⟩:=H.here t hp;rw[x]at f;cases f;by_cases q:len*sz=0
 ·refine⟨[],⟨by simp[q,VRels],by simp[q],fun i=>by simp[Builtin.lenOf],fun i m hm _=>?_⟩⟩;have l:m*sz=0:=by grind[Nat.mul_eq_zero]
  simp[Builtin.firstCells,l,loadCells,loadCellsFrom]
 have n:=Qbs a;simp at n;have k:cap≠0:=by grind
 obtain⟨rfl,s⟩:=d.resolve_left k;refine⟨(C.toList.drop (base+off)).take (len*sz),⟨?_,by simp;omega,fun i=>by simp[Builtin.lenOf],fun i m hm A=>?_⟩⟩;·have :=QaL a off (len*sz) u;simp_all
 grind[Za9,QbG,Builtin.firstCells]
theorem Qc8{sz}{cy}{r}(H:HRel c h w)(hy:VRel c w y cy)(hm:(aSrc sz y k).run h=some r):∃ys n us,SrcRel P c w sz cy ys n us/\(k ys n).run h=some r:=by
 cases y<;>simp only[aSrc]at hm<;>try(cases hm;done)
 case sl b g off len s=>
  split at hm
  ·rename_i e;subst e;obtain⟨cs,hb,hm⟩:=Qbl hm;split at hm;·rename_i hl;obtain⟨us,hs⟩:=Qfa (P:=P) H hy hb hl;grind
   grind[HM.run]
  grind[HM.run]
 case fsl cs len s=>
  split at hm
  ·rename_i e;subst e;simp only[VRel]at hy;rcases hy with⟨⟨a,rfl⟩,rfl,rfl⟩|⟨cb,off,cap,C,e,fr,rfl,hlc,hlen,hF,hC,hpre⟩
   ·exact bPh3M
   ·have hcl:=Qbs hpre;simp at hcl;refine⟨cs,len,(C.toList.drop off).take cs.length,⟨QeY hpre,hlen,fun w1=>by simp[Builtin.lenOf],fun w1 m hm' hw1=>?_⟩,hm⟩;grind[Za9,QbG,Builtin.firstCells]
  grind[HM.run]
 case nilsl=>simp only[VRel]at hy;subst hy;exact⟨[],0,[],⟨by simp[VRels],by simp,fun w1=>by simp[Builtin.lenOf],fun w1 m _ _=>by simp[Builtin.firstCells]⟩,hm⟩
 case esl=>
  simp only[VRel]at hy;obtain⟨a,rfl⟩:=hy;exact bPh3M
 case nsl=>
  simp only[VRel]at hy;obtain⟨a,k,rfl⟩:=hy;refine⟨[],0,[],⟨by simp[VRels],by simp,fun w1=>by simp[Builtin.lenOf],fun w1 m hm' _=>?_⟩,hm⟩;obtain rfl:m=0:=by omega
  simp[Builtin.firstCells,loadCells,loadCellsFrom]
 case str s=>
  split at hm
  ·rename_i e;subst e;simp only[VRel]at hy;subst hy;refine⟨_,_,s.map fun b=>Value.int .u8 b.toNat,⟨?_,by simp,fun w1=>by simp[Builtin.lenOf,ByteArray.size],fun w1 m hm' _=>?_⟩,hm⟩
   ·have :∀l:List UInt8,VRels c w (l.map fun b=>AV.int .u8 b.toNat) (l.map fun b=>Value.int .u8 b.toNat):=by intro l;induction l with|nil=>simp[VRels]|cons a l ih=>simp only[ZaK,VRels];exact⟨_,_,rfl,by simp[VRel],ih⟩
    exact this s
   simp_all[Builtin.firstCells]
  grind[HM.run]
theorem Qiw{need old bytes}(a:old<need)(c:need*bytes<=140737488355328):Builtin.nextslicecap need old*bytes<=281474976710656:=by have:=nextslicecap_le a;have b:Builtin.nextslicecap need old*bytes<=2*need*bytes:=Za9 _ this;grind
theorem Qct{e:TypeId}{dlen dcap:Nat}{base:Option Addr}{cy:Value}{olds:List Value}(m:P.underlying t=some (.slice e))(g:P.underlying t2=some f)(h:∀k,f≠.int k)(hi:P.info? e=some i)(o:i.zero=some z)(hlen:∀a,(Builtin.lenOf cy).run P a=.ok n a)(b:∀a,a.heap=w.heap->(Builtin.firstCells i.size n cy).run P a=.ok us.toArray a)(hold:∀a,a.heap=w.heap->(Builtin.firstCells i.size dlen (.slice base dlen dcap)).run P a=.ok olds.toArray a)(s:dcap<dlen+n)(u:(dlen+n)*i.bytes<=140737488355328)(p:dlen+n<=9223372036854775807):(Builtin.append_ #[t,t2] ty #[.slice base dlen dcap,cy]).run P w=.ok (.slice (some ⟨w.heap.size,0,none⟩) (dlen+n) (grownCap w (dlen+n) dcap e)) (w.drew.alloc (.cells (olds++us++(Builtin.zeroCells z.cells (grownCap w (dlen+n) dcap e-(dlen+n))).toList).toArray e)):=by
 have q:¬(dlen+n<=dcap):=by omega
 have c:¬(9223372036854775807<((dlen:Int)+(n:Int))):=by omega
 have d:¬(281474976710656<Builtin.nextslicecap (dlen+n) dcap*i.bytes):=by simp_all[Qiw]
 have hf:=b w.drew rfl;have l:=hold w.drew rfl;have hm:(f matches .int _)=false:=by cases f<;>first|rfl|exact absurd rfl (h _)
 simp only[Builtin.append_,ZaT,List.getElem?_toArray,Zbu,ZbU,Sem.run_bind,run_underlying m,run_underlying g,Result.andThen_ok,QaO hi,Sem.run_pure,hm];simp[typeInfo,zeroValue,hi,o,hlen,q,c,d,Question.forced,hf,l,newRow,grownCap];congr 2;simp_all
theorem Qh0(w){need old}(e):need<=grownCap w need old e:=by unfold grownCap;exact Nat.le_add_right _ _
theorem Qbv{e:TypeId}{c:TypeDesc}{dlen dcap:Nat}{base:Option Addr}{cy:Value}(h:P.underlying t=some (.slice e))(f:P.underlying t2=some c)(d:∀k,c≠.int k)(hi:P.info? e=some i)(hlen:∀g,(Builtin.lenOf cy).run P g=.ok n g)(b:(Builtin.firstCells i.size n cy).run P w=.ok us.toArray w)(l:dlen+n<=dcap):(Builtin.append_ #[t,t2] ty #[.slice base dlen dcap,cy]).run P w=(match base with|some a=>((storeCells (a.add (dlen*i.size)) us).run P w).andThen fun _ w'=>.ok (.slice base (dlen+n) dcap) w'|none=>.ok (.slice base (dlen+n) dcap) w):=by
 have hm:(c matches .int _)=false:=by cases c<;>first|rfl|exact absurd rfl (d _)
 simp only[Builtin.append_,ZaT,List.getElem?_toArray,Zbu,ZbU,Sem.run_bind,run_underlying h,run_underlying f,Result.andThen_ok,QaO hi,Sem.run_pure,hm];cases base<;>simp[hlen,l,b]
structure AppT(P:Program)(t t2 e:TypeId)(sz bytes:Nat)(i:TypeInfo)(z:Value):Prop where
 ht:P.underlying t=some (.slice e)ht2:∃d2,P.underlying t2=some d2/\∀k,d2≠.int k
 hi:P.info? e=some i
 hz:i.zero=some z
 hsz:i.size=sz
 hby:i.bytes=bytes
 hzs:z.cells.size=sz
theorem QcQ(z)(n):(Builtin.zeroCells z n).size=n*z.size:=by simp[Builtin.zeroCells]
theorem QfB(H:HRel c h w)(a:b<lim)(i:h.get b=none/\g=0\/∃z,h.get b=some z/\g=z.gen+1){rest}{e}(l:VRels c w cs us){len cap sz}(d:len<=cap)(f:cap*sz<=(us++rest).length):∃c',Evo c w c' (w.drew.alloc (.cells (us++rest).toArray e))/\HRel c' (h.set b (.cells g cs)) (w.drew.alloc (.cells (us++rest).toArray e))/\VRel c' (w.drew.alloc (.cells (us++rest).toArray e)) (.sl b g 0 len sz) (.slice (some ⟨w.heap.size,0,none⟩) len cap):=by obtain⟨E1,H1⟩:=H.drew;have k:=Zch (E1.ext H.disj) _ _ l;obtain⟨c',hp,E2,H2⟩:=H1.newCells a i (cs:=cs) (C:=(us++rest).toArray) (e:=e) (by grind[QhX]);refine⟨c',E1.trans E2,H2,?_⟩;simp only[VRel];refine .inr ⟨_,0,0,cap,(us++rest).toArray,e,(0,0),hp,rfl,d,?_,.inr ⟨by simp,by simp_all⟩⟩;show(w.heap.push _)[w.heap.size]?=_;simp
theorem Qey{e}{i sz bytes}{x v}{cx cy}(H:HRel c h w)(J:VRel c w x cx)(hy:VRel c w y cy)(T:AppT P t t2 e sz bytes F z)(hm:(aAppend s i sz bytes x y).run h=some (v,h')):Sound P c w (Builtin.append_ #[t,t2] ty #[cx,cy]) v h':=by
 obtain⟨X,⟨d2,q,A⟩,hi,hz,rfl,rfl,hzs⟩:=T;replace hm:=Qc8 (P:=P) H hy hm;obtain⟨R,n,us,S,hm⟩:=hm;have hul:=QaH S.rels;have hyl:=S.len;by_cases K:(slLen x+n)*F.bytes<=140737488355328/\slLen x+n<=140737488355328/\R.all AV.one=true;case pos=>
  rw[if_pos K]at hm;obtain⟨hb,hb2,hone⟩:=K;have M:∀u∈us,u.oneCell'=true:=by
   intro u hu;obtain⟨j,hj,rfl⟩:=Zb7.1 hu;obtain⟨v',hv',hr⟩:=QcE j S.rels (Zak (by omega:j<R.length));rw[Zak hj]at hv';cases hv';have h1:(R[j]).one=true:=by simp_all
   have h2:=Qdk (x:=R[j]) hr (by cases hh:R[j]<;>simp_all[AV.one,AV.cells]);have:(us[j]).cells=#[us[j]]\/∃a,us[j]=.agg a:=by cases us[j]<;>simp[Value.cells]
   rcases this with h3|⟨a,h3⟩;·simp_all
   rw[h3]at hr;exfalso;cases hh:R[j]<;>rw[hh]at hr h1<;>simp[AV.one]at h1<;>simp[VRel]at hr;rcases hr.1 with⟨_,_,_,k1,_⟩|⟨_,_,_,_,k1,_⟩<;>simp_all
  have fresh:∀(base:Option Addr)(hold:∀Q,(Builtin.firstCells F.size 0 (.slice base 0 0)).run P Q=.ok #[] Q)(b g:Nat),b<lim->(h.get b=none/\g=0\/∃z,h.get b=some z/\g=z.gen+1)->0<n->n*F.bytes<=140737488355328->n<=9223372036854775807->Sound P c w (Builtin.append_ #[t,t2] ty #[.slice base 0 0,cy]) (.sl b g 0 n F.size) (h.set b (.cells g R)):=by intro base hold b g f hg hpos hbn h63;have hr:=Qct (P:=P) (w:=w) (ty:=ty) (t:=t) (t2:=t2) (dlen:=0) (dcap:=0) (base:=base) (cy:=cy) (olds:=[]) (us:=us) X q A hi hz S.lenOf S.first (fun Q _=>hold Q) (by omega) (by simpa using hbn) (by simpa using h63);simp only[Zb8,ZaP]at hr;have hgl:=Qh0 w (need:=n) (old:=0) e;obtain⟨c',E',H',V'⟩:=QfB H f hg (e:=e) (rest:=(Builtin.zeroCells z.cells (grownCap w n 0 e-n)).toList) S.rels (len:=n) (cap:=grownCap w n 0 e) (sz:=F.size) hgl (by have O:=QcQ z.cells (grownCap w n 0 e-n);rw[hzs]at O;simp only[Zaf,Array.length_toList,O,<-hul,hyl];rw[<-ZbO];simp_all);exact⟨_,c',_,hr,E',H',V'⟩
  cases x<;>(try simp only at hm)<;>try(simp[HM.run]at hm;done)
  case nilsl=>simp only[VRel]at J;subst J;cases n with|zero=>simp only[HM.run,Zaa,Zal]at hm;obtain⟨rfl,rfl⟩:=hm;exact .here H (by simpa using Qbv (P:=P) (ty:=ty) (base:=none) (dlen:=0) (dcap:=0) X q A hi S.lenOf (S.first w rfl) (by omega)) (by simp[VRel])|succ n=>obtain⟨b,g,f,hg,hm⟩:=QdC hm;simp only[HM.run,Zaa,Zal]at hm;obtain⟨rfl,rfl⟩:=hm;simp only[slLen,Zb8]at hb hb2;exact fresh none (fun Q=>by simp[Builtin.firstCells]) b g f hg (by omega) hb (by omega)
  case esl=>
   simp only[VRel]at J;obtain⟨base,rfl⟩:=J;have hold:∀Q,(Builtin.firstCells F.size 0 (.slice base 0 0)).run P Q=.ok #[] Q:=by intro Q;cases base<;>simp[Builtin.firstCells,loadCells,loadCellsFrom]
   cases n with|zero=>
    simp only[HM.run,Zaa,Zal]at hm;obtain⟨rfl,rfl⟩:=hm;have G:us=[]:=by grind
    have:=Qbv (P:=P) (ty:=ty) (base:=base) (dlen:=0) (dcap:=0) X q A hi S.lenOf (S.first w rfl) (by omega);rw[G]at this;refine .here H (cv:=.slice base 0 0) ?_ (by simp[VRel]);rw[this];cases base<;>simp[storeCells]|succ n=>obtain⟨b,g,f,hg,hm⟩:=QdC hm;simp only[HM.run,Zaa,Zal]at hm;obtain⟨rfl,rfl⟩:=hm;simp only[slLen,Zb8]at hb hb2;exact fresh base hold b g f hg (by omega) hb (by omega)
  case fsl cs len s'=>cases n with|zero=>
   simp only[HM.run,Zaa,Zal]at hm;obtain⟨rfl,rfl⟩:=hm;have G:us=[]:=by grind
   have hx':=J;simp only[VRel]at J;rcases J with⟨⟨a,rfl⟩,_,_⟩|⟨I,off,cap,C,Y,fr,rfl,hlc,_⟩;·refine .here H (cv:=.slice a 0 0) ?_ hx';rw[Qbv (P:=P) (ty:=ty) (base:=a) (dlen:=0) (dcap:=0) X q A hi S.lenOf (S.first w rfl) (by omega),G];cases a<;>simp[storeCells]
   refine .here H (cv:=.slice (some ⟨I,off,none⟩) len cap) ?_ hx';rw[Qbv (P:=P) (ty:=ty) (dlen:=len) (dcap:=cap) X q A hi S.lenOf (S.first w rfl) (by omega),G];simp[storeCells]|succ n=>simp[HM.run]at hm
  case sl b g off len s'=>
   simp only[slLen]at hb hb2;split at hm
   ·rename_i e1;subst e1;obtain⟨cs,p,hm⟩:=Qbl hm;split at hm
    ·rename_i hl;obtain⟨f,hm⟩:=Qa7 hm;simp only[HM.run,Zaa,Zal]at hm;obtain⟨rfl,rfl⟩:=hm;have l:∀y,g<y->c.ρ b y=none:=fun y hy=>H.later b _ p y hy;have hxx:=J;simp only[VRel]at J;rcases J with⟨hp,rfl,rfl,rfl⟩|⟨I,base,o,cap,C,Y,fr,hp,rfl,hlc,hC,N⟩
     ·have hcs:cs=[]:=by
       rcases H.blk b _ p with⟨_,h2⟩|⟨_,_,_,_,_,h1,_⟩;·exact h2
       simp_all
      subst hcs;simp only[Zb8,Nat.zero_mul,List.drop_nil,List.take_nil,ZaP];by_cases hn:n=0
      ·subst hn;have hys:R=[]:=by grind
       have G:us=[]:=by grind
       subst hys;obtain⟨E,H'⟩:=H.putNil (b:=b) (g:=g+1) f (fun y hy=>l y (by omega)) (.inl (l _ (by omega)));refine⟨.slice none 0 0,_,w,?_,E,H',?_⟩;·rw[Qbv (P:=P) (ty:=ty) (base:=none) (dlen:=0) (dcap:=0) X q A hi S.lenOf (S.first w rfl) (by omega)]
       simp_all[VRel,Qbb]
      exact fresh none (fun Q=>by simp[Builtin.firstCells]) b (g+1) f (.inr ⟨_,p,rfl⟩) (by omega) (by simpa using hb) (by omega)
     obtain⟨C',e2,fr',hO,V,hfr,hbs,Z⟩:=H.here p hp;rw[hC]at V;cases V;have hlt:=Qbk hC;have hcl:=Qbs Z;simp at hcl;have L:=QaL Z off (len*F.size) hl;rw[ZaV]at L;by_cases B:len+n<=cap
     ·have d:=Qbv (P:=P) (w:=w) (ty:=ty) (base:=some ⟨I,o,none⟩) (dlen:=len) (dcap:=cap) X q A hi S.lenOf (S.first w rfl) B;simp only[QbX]at d;by_cases hc0:cap=0
      ·have hl0:len=0:=by omega
       have hn0:n=0:=by omega
       subst hl0;subst hn0;subst hc0;have hys:R=[]:=by grind
       have G:us=[]:=by grind
       subst hys;subst G;simp only[Nat.zero_mul,ZbL,ZaP,storeCells,Sem.run_pure,Result.andThen_ok]at d⊢;have:=H.put (b:=b) (cb:=I) (base:=base) (x:=.cells (g+1) []) (w':=w) f (fun y hy=>l y (by grind[Blk.gen])) (.inl (l _ (by simp[Blk.gen]))) (.inr ⟨g,base,⟨_,p,rfl,fun k=>by simp⟩,hp⟩) rfl rfl rfl (ZaC _) hlt (fun _ _ _=>rfl) (fun C2 e2 fr2 h2=>⟨C2,fr2,h2,rfl⟩) (fun E=>.inr ⟨I,base,C,Y,fr,Qbb,.inr rfl,hC,hfr,hbs,by simp[VPre]⟩);refine⟨_,_,_,d,this.1,this.2,?_⟩;simp only[VRel];exact .inr ⟨I,base,o,0,C,Y,fr,Qbb,rfl,by omega,hC,.inl rfl⟩
      obtain⟨rfl,hbnd⟩:=N.resolve_left hc0;have hmul:(len+n)*F.size<=cap*F.size:=Za9 _ B;rw[ZbO]at hmul;have U:=QdA (P:=P) (cb:=I) (o:=base+off+len*F.size) us 0 w C hC hfr (by omega) M;simp only[Nat.add_zero]at U;rw[U]at d;simp only[Result.andThen_ok]at d;have hpl:(putL C.toList (base+off+len*F.size) us).length=C.size:=by grind[Qe9]
      have:=H.put (b:=b) (cb:=I) (base:=base+off) (x:=.cells (g+1) (List.take (len*F.size) (List.drop off cs)++R)) (w':=upd w I (.cells (putL C.toList (base+off+len*F.size) us).toArray Y fr)) f (fun y hy=>l y (by grind[Blk.gen])) (.inl (l _ (by simp[Blk.gen]))) (.inr ⟨g,base,⟨_,p,rfl,fun k=>by simp⟩,hp⟩) rfl rfl rfl (by simp[upd]) (by simp_all[upd]) (fun k _ hne=>Qgh hne) (fun C2 e2 fr2 h2=>by simp_all[Qdz]) (fun E=>.inr ⟨I,base+off,_,Y,fr,Qbb,.inr rfl,Qdz hlt,by simp_all,by grind,by have e5:=Qp2 (C:=C.toList) (us:=us) (base:=base+off) (off:=len*F.size) (by simp;omega);rw[List.toList_toArray,e5];exact QhX (QbB (Zch (E.ext H.disj) _ _ L) (Zch (E.ext H.disj) _ _ S.rels))⟩);refine⟨_,_,_,d,this.1,this.2,?_⟩;simp only[VRel];exact .inr ⟨I,base+off,base+off,cap,_,Y,fr,Qbb,rfl,B,Qdz hlt,.inr ⟨by omega,by simp_all⟩⟩
     obtain⟨olds,So⟩:=Qfa (P:=P) H hxx p hl;have d:=Qct (P:=P) (w:=w) (ty:=ty) (t:=t) (t2:=t2) (dlen:=len) (dcap:=cap) (base:=some ⟨I,o,none⟩) (cy:=cy) (olds:=olds) (us:=us) X q A hi hz S.lenOf S.first So.first (by omega) hb (by omega);have hgl:=Qh0 w (need:=len+n) (old:=cap) e;have hol:=QaH So.rels;have hol2:=So.len;obtain⟨c',E',H',V'⟩:=QfB H f (.inr ⟨_,p,rfl⟩:h.get b=none/\g+1=0\/∃z,h.get b=some z/\g+1=z.gen+1) (e:=e) (rest:=(Builtin.zeroCells z.cells (grownCap w (len+n) cap e-(len+n))).toList) (QbB So.rels S.rels) (len:=len+n) (cap:=grownCap w (len+n) cap e) (sz:=F.size) hgl (by have O:=QcQ z.cells (grownCap w (len+n) cap e-(len+n));rw[hzs]at O;simp only[Zaf,Array.length_toList,O,<-hul,hyl,<-hol,hol2];rw[<-ZbO,<-ZbO];simp_all);exact⟨_,c',_,d,E',H',V'⟩
    grind[HM.run]
   grind[HM.run]
  case typed tt mm y=>cases mm with|zero=>simp[HM.run]at hm|succ m=>
   cases y<;>try(simp[HM.run]at hm;done)
   rename_i b g off len s';dsimp only at hm;split at hm
   ·rename_i hc;obtain⟨rfl,hpos,B⟩:=hc;obtain⟨cs,p,hm⟩:=Qbl hm;split at hm
    ·rename_i hl;obtain⟨f,hm⟩:=Qa7 hm;simp only[HM.run,Zaa,Zal]at hm;obtain⟨rfl,rfl⟩:=hm;simp only[VRel]at J;obtain⟨hty,J⟩:=J;rcases J with⟨hp,rfl,rfl,rfl⟩|⟨I,base,o,cap,C,Y,fr,hp,rfl,hlc,hC,N⟩;·have :=hty.room;omega
     have hcm:=hty.room;obtain⟨rfl,hbd⟩:=N.resolve_left (by omega);have d:=Qbv (P:=P) (ty:=ty) (base:=some ⟨I,base+off,none⟩) (dlen:=len) (dcap:=cap) X q A hi S.lenOf (S.first w rfl) (by omega);simp only[QbX,Nat.add_assoc]at d;obtain⟨c',w',U,E,H'⟩:=QdB (P:=P) (off:=off+len*F.size) H p f hp (by rw[hyl,Nat.add_assoc,<-ZbO];exact hl) S.rels M;rw[U]at d;simp only[Result.andThen_ok]at d;obtain⟨C',fr',V,hsz⟩:=E.shape _ _ _ _ hC;refine⟨_,c',w',d,E,H',?_⟩;simp only[VRel];exact⟨.inr ⟨by omega,_,_,_,rfl,by omega⟩,.inr ⟨I,base,_,cap,C',Y,fr',E.rho _ _ _ hp,rfl,by omega,V,.inr ⟨rfl,by omega⟩⟩⟩
    simp[HM.run]at hm
   simp[HM.run]at hm
 simp_all[if_neg,HM.run]
end Go.AM
