/- A part of the proof of CatalogueWordsCardSaid: lemmas on the way (AmC, AmD). Conditions: none of ours. -/
import Derived.Laws.Tables
import Derived.Test.YteiijgolpigjdaaGreatDoorAmW0
set_option linter.unusedSectionVars false
set_option maxHeartbeats 32000000
set_option maxRecDepth 100000
set_option linter.unusedVariables false
set_option linter.unusedSimpArgs false
namespace Go.AM
variable {P:Program} {ok:Okc} {c:Ctx ok} {w:World} {h:Heap}
theorem QaC:∀{xs:List AV} {vs:List Value},VRels c w xs vs->xs.length=vs.length
 |[],vs,hh=>by simp_all [VRels]
 |x::xs,vs,hh=>by
  simp only[VRels]at hh
  obtain⟨v,vs',rfl,_,h2⟩:=hh
  simp[QaC h2]
theorem Qa0:∀{xs:List AV} {vs:List Value},VRels c w xs vs->VPre c w xs vs
 |[],vs,hh=>by simp[VPre]
 |x::xs,vs,hh=>by
  simp only[VRels]at hh
  obtain⟨v,vs',rfl,h1,h2⟩:=hh
  simp only[VPre]
  exact⟨v,vs',rfl,h1,Qa0 h2⟩
theorem Qbk:∀{xs:List AV} {vs:List Value},VPre c w xs vs->xs.length<=vs.length
 |[],vs,hh=>by simp
 |x::xs,vs,hh=>by
  simp only[VPre]at hh
  obtain⟨v,vs',rfl,_,h2⟩:=hh
  have:=Qbk h2
  simp;omega
theorem Qda:∀{xs:List AV} {vs:List Value} (i:Nat) {x:AV},VPre c w xs vs->xs[i]?=some x->∃v,vs[i]?=some v/\VRel c w x v
 |[],vs,i,x,hh,hi=>by simp at hi
 |y::xs,vs,i,x,hh,hi=>by
  simp only[VPre]at hh
  obtain⟨v,vs',rfl,h1,h2⟩:=hh
  cases i with
  |zero=>simp at hi;subst hi;exact⟨v,by simp,h1⟩
  |succ i=>simp at hi;simpa using Qda i h2 hi
theorem Qcp {xs:List AV} {vs:List Value} (i:Nat) {x:AV} (hh:VRels c w xs vs) (hi:xs[i]?=some x):∃v,vs[i]?=some v/\VRel c w x v:=
 Qda i (Qa0 hh) hi
theorem Qbi:∀(n:Nat) {xs:List AV} {vs:List Value},VPre c w xs vs->VPre c w (xs.drop n) (vs.drop n)
 |0,xs,vs,hh=>by simpa using hh
 |n+1,[],vs,hh=>by simp[VPre]
 |n+1,x::xs,vs,hh=>by
  simp only[VPre]at hh
  obtain⟨v,vs',rfl,h1,h2⟩:=hh
  simpa using Qbi n h2
theorem Qb6:∀(n:Nat) {xs:List AV} {vs:List Value},VPre c w xs vs->VPre c w (xs.take n) vs
 |0,xs,vs,hh=>by simp[VPre]
 |n+1,[],vs,hh=>by simp[VPre]
 |n+1,x::xs,vs,hh=>by
  simp only[VPre]at hh
  obtain⟨v,vs',rfl,h1,h2⟩:=hh
  simp only[List.take_succ_cons,VPre]
  exact⟨v,vs',rfl,h1,Qb6 n h2⟩
theorem Qee:∀{xs:List AV} {vs:List Value},VPre c w xs vs->VRels c w xs (vs.take xs.length)
 |[],vs,hh=>by simp[VRels]
 |x::xs,vs,hh=>by
  simp only[VPre]at hh
  obtain⟨v,vs',rfl,h1,h2⟩:=hh
  simp only[List.length_cons,List.take_succ_cons,VRels]
  exact⟨v,_,rfl,h1,Qee h2⟩
theorem Qeo:∀{xs ys:List AV} {us vs:List Value},VRels c w xs us->VPre c w ys vs->VPre c w (xs++ys) (us++vs)
 |[],ys,us,vs,h1,h2=>by simp_all [VRels]
 |x::xs,ys,us,vs,h1,h2=>by
  simp only[VRels]at h1
  obtain⟨v,vs',rfl,k1,k2⟩:=h1
  simp only[List.cons_append,VPre]
  exact⟨v,_,rfl,k1,Qeo k2 h2⟩
theorem Qbx:∀{xs ys:List AV} {us vs:List Value},VRels c w xs us->VRels c w ys vs->VRels c w (xs++ys) (us++vs)
 |[],ys,us,vs,h1,h2=>by simp_all [VRels]
 |x::xs,ys,us,vs,h1,h2=>by
  simp only[VRels]at h1
  obtain⟨v,vs',rfl,k1,k2⟩:=h1
  simp only[List.cons_append,VRels]
  exact⟨v,_,rfl,k1,Qbx k2 h2⟩
theorem Qg0 {xs:List AV} {us vs:List Value} (h1:VRels c w xs us):VPre c w xs (us++vs):=by
 have:=Qeo (ys:=[]) (vs:=vs) h1 (by simp[VPre])
 simp_all
theorem QaF {xs:List AV} {vs:List Value} (hh:VPre c w xs vs) (off n:Nat) (hl:off+n<=xs.length):
  VRels c w ((xs.drop off).take n) ((vs.drop off).take n):=by
 have h1:=Qb6 n (Qbi off hh)
 have h2:=Qee h1
 grind
theorem QcZ {x : AV} {v : Value} (hx : VRel c w x v) (ho : (x.cells.all AV.one) = true) : VRels c w x.cells v.cells.toList /\ ∀ u ∈ v.cells.toList, u.oneCell' = true := by
  have one : ∀ (x : AV) (v : Value), VRel c w x v -> x.one = true -> v.oneCell' = true /\ (∀ cs, x ≠ .agg cs) := by
    intro x v hx ho
    cases x <;> simp only [AV.one] at ho <;> first
      |(exact absurd ho (by decide))
      | (simp only [VRel] at hx
         refine⟨?_,fun cs=>by simp⟩
         first
          |(subst hx;rfl)
          |(rcases hx with⟨_,_,_,rfl⟩|⟨_,_,_,_,_,_,_,_,rfl,_⟩<;>rfl)
          |(rcases hx with⟨⟨_,rfl⟩,_⟩|⟨_,_,_,_,_,_,rfl,_⟩<;>rfl)
          |(obtain⟨_,_,_,rfl⟩:=hx;rfl)
          |(obtain⟨_,_,_,_,_,rfl,_⟩:=hx;rfl)
          |(obtain⟨_,_,_,rfl,_⟩:=hx;rfl)
          |(obtain⟨_,rfl⟩:=hx;rfl)
          |(obtain⟨_,_,rfl⟩:=hx;rfl)
          |(obtain⟨_,_,rfl,_⟩:=hx;rfl)
          |(obtain⟨_,rfl,_⟩:=hx;rfl)
          | (rcases hx.1 with ⟨_, _, _, h1, _⟩ | ⟨_, _, _, _, rfl, _⟩
             · rcases h1 with rfl|⟨_,_,_,rfl⟩<;>rfl
             · rfl))
  by_cases hag:∃cs,x= .agg cs
  · obtain ⟨cs, rfl⟩ := hag
    simp only[VRel]at hx
    obtain⟨vs,rfl,hx⟩:=hx
    refine⟨by grind [AV.cells,Value.cells],fun u hu=>?_⟩
    simp only[Value.cells]at hu
    obtain⟨i,hi,rfl⟩:=List.mem_iff_getElem.1 hu
    have hl:=QaC hx
    have hi':i<cs.length:=by omega
    obtain⟨v,hv,hr⟩:=Qcp i hx (List.getElem?_eq_getElem hi')
    grind [AV.cells]
  · have e : x.cells = [x] := by
      cases x<;>first|rfl|exact absurd ⟨_,rfl⟩ hag
    rw[e]at ho⊢
    have ho':x.one=true:=by simpa using ho
    obtain⟨h1,h2⟩:=one x v hx ho'
    have ev:v.cells= #[v]:=by
      cases v<;>first|rfl|simp[Value.oneCell']at h1
    simp_all [VRels]
theorem QdI {w:World} {cb o:Nat} {C:Array Value} {e:TypeId} {fr:Nat×Nat} (hh:w.heap[cb]?=some (.cells C e fr)):w.cell? ⟨cb,o,none⟩=C[o]?:=by
 simp[World.cell?,hh]
theorem QbQ (cb o j:Nat):Addr.add ⟨cb,o,none⟩ j=⟨cb,o+j,none⟩:=by
 simp_all [Addr.add]
theorem QbB {w:World} {cb o n:Nat} {C:Array Value} {e:TypeId} {fr:Nat×Nat} (hh:w.heap[cb]?=some (.cells C e fr)) (hl:n=0\/o+n<=C.size):
  (loadCells ⟨cb,o,none⟩ n).run P w= .ok ((C.toList.drop o).take n).toArray w:=by
 have:=run_loadCells_list (P:=P) w ⟨cb,o,none⟩ ((C.toList.drop o).take n) (fun j v hj=>by
  grind [QbQ,QdI])
 grind
def Sound (P:Program) (c:Ctx ok) (w:World) (s:Sem Value) (v:AV) (h':Heap):Prop:=
 ∃cv c' w',s.run P w= .ok cv w'/\Evo c w c' w'/\HRel c' h' w'/\VRel c' w' v cv
theorem Sound.here (H:HRel c h w) {s:Sem Value} {v:AV} {cv:Value} (hr:s.run P w= .ok cv w) (hv:VRel c w v cv):Sound P c w s v h:=
 ⟨cv,c,w,hr,.refl c w,H,hv⟩
def rowT (P:Program) (t:TypeId) (n:Option Nat):Bool:=
 match P.underlying t,P.info? t with
 |some (.struct _),some i=>n==some i.size
 |some (.array _ _),some i=>n==some i.size
 |some _,some _=>n==none
 |_,_=>false
theorem QaJ {t:TypeId} {i:TypeInfo} (hi:P.info? t=some i) (w:World):(sizeOf t).run P w= .ok i.size w:=by
 simp[sizeOf,typeInfo,hi]
theorem QcN {t:TypeId} (ht:rowT P t none=true) (w:World):(isAgg t).run P w= .ok false w:=by
 unfold rowT at ht
 unfold isAgg
 cases hu:P.underlying t with
 |none=>simp[hu]at ht
 |some d=>
  simp only[Sem.run_bind,run_underlying hu,Result.andThen_ok]
  cases hi:P.info? t with
  |none=>cases d<;>simp[hu,hi]at ht
  |some i=>cases d<;>simp[hu,hi]at ht<;>rfl
theorem QcO {t:TypeId} {n:Nat} (ht:rowT P t (some n)=true) (w:World):(isAgg t).run P w= .ok true w/\(sizeOf t).run P w= .ok n w:=by
 unfold rowT at ht
 unfold isAgg
 cases hu:P.underlying t with
 |none=>simp[hu]at ht
 | some d =>
  simp only[Sem.run_bind,run_underlying hu,Result.andThen_ok]
  cases hi:P.info? t with
  |none=>cases d<;>simp[hu,hi]at ht
  |some i=>
   rw[QaJ hi]
   cases d<;>simp[hu,hi]at ht<;>subst ht<;>exact⟨rfl,rfl⟩
theorem Qbg {α:Type} {b g:Nat} {k:List AV->HM α} {r:α×Heap} (hm:(HM.cells b g k).run h=some r):
  ∃cs,h.get b=some (.cells g cs)/\(k cs).run h=some r:=by
 simp only[HM.cells,HM.run]at hm
 split at hm
 ·rename_i g' cs hb
  cases e:Nat.beq g' g with
  |false=>rw[e]at hm;simp[HM.run]at hm
  |true=>
   rw[e]at hm
   have:g'=g:=by simpa using e
   subst this
   exact⟨cs,hb,hm⟩
 grind [HM.run]
theorem HRel.here (H:HRel c h w) {b g:Nat} {cs:List AV} (hb:h.get b=some (.cells g cs)) {cb base:Nat} (hp:c.ρ b g=some (.loc cb base)):
  ∃C e fr,c.O cb/\w.heap[cb]?=some (.cells C e fr)/\Unfrozen fr C.size/\base<=C.size/\VPre c w cs (C.toList.drop base):=by
 rcases H.blk b _ hb with⟨h1,_⟩|⟨cb',base',C,e,fr,h1,h2,h3,h4,h5,h6⟩
 ·simp_all
 grind
theorem Qm9 {t:TypeId} {n:Option Nat} {x v:AV} {cx:Value} {h':Heap} (H:HRel c h w) (hx:VRel c w x cx) (ht:rowT P t n=true)
  (hm:(aLoad n x).run h=some (v,h')):Sound P c w (Instr.loadAt t cx) v h':=by
 cases x<;>simp only[aLoad,HM.run]at hm<;>try (cases hm;done)
 case ptr b g off=>
  obtain⟨cs,hb,hm⟩:=Qbg hm
  simp only[VRel]at hx
  obtain⟨cb,base,hp,rfl⟩:=hx
  obtain⟨C,e,fr,hO,hC,hfr,hbs,hpre⟩:=H.here hb hp
  cases n with
  | none =>
   cases hv:cs[off]? with
   |none=>simp[hv,HM.opt,HM.run]at hm
   |some u=>
    simp only[hv,HM.opt,HM.run,Option.some.injEq,Prod.mk.injEq]at hm
    obtain⟨rfl,rfl⟩:=hm
    obtain⟨cv,hcv,hr⟩:=Qda off hpre hv
    rw[List.getElem?_drop,Array.getElem?_toList]at hcv
    exact .here H (cv:=cv) (by simp[Instr.loadAt,Instr.sureAddr,loadVar,QcN ht,QdI hC,hcv]) hr
  | some n =>
   simp only at hm
   split at hm
   ·rename_i hl
    simp only[HM.run,Option.some.injEq,Prod.mk.injEq]at hm
    obtain⟨rfl,rfl⟩:=hm
    obtain⟨t1,t2⟩:=QcO ht w
    have hlen:=Qbk hpre
    simp at hlen
    refine .here H (cv:= .agg ((C.toList.drop (base+off)).take n).toArray) (by simp[Instr.loadAt,Instr.sureAddr,loadVar,t1,t2,QbB (P:=P) (n:=n) (o:=base+off) hC (by omega)]) ?_
    simp only[VRel]
    refine⟨_,rfl,?_⟩
    have:=QaF hpre off n hl
    simp_all
   ·simp[HM.run]at hm
 case fptr cs=>
  simp only[VRel]at hx
  obtain⟨cb,off,C,e,fr,rfl,hF,hC,hpre⟩:=hx
  cases n with
  | none =>
   cases cs with
   |nil=>simp[HM.opt,HM.run]at hm
   |cons u cs=>
    simp only[HM.opt,List.head?_cons,HM.run,Option.some.injEq,Prod.mk.injEq]at hm
    obtain⟨rfl,rfl⟩:=hm
    obtain⟨cv,hcv,hr⟩:=Qda 0 hpre (x:=u) rfl
    rw[List.getElem?_drop,Array.getElem?_toList]at hcv
    exact .here H (cv:=cv) (by simp[Instr.loadAt,Instr.sureAddr,loadVar,QcN ht,QdI hC];simp_all) hr
  | some n =>
   simp only at hm
   split at hm
   ·rename_i hl
    simp only[HM.run,Option.some.injEq,Prod.mk.injEq]at hm
    obtain⟨rfl,rfl⟩:=hm
    obtain⟨t1,t2⟩:=QcO ht w
    have hlen:=Qbk hpre
    simp at hlen
    refine .here H (cv:= .agg ((C.toList.drop off).take n).toArray) (by simp[Instr.loadAt,Instr.sureAddr,loadVar,t1,t2,QbB (P:=P) (n:=n) (o:=off) hC (by omega)]) ?_
    simp only[VRel]
    refine⟨_,rfl,?_⟩
    have:=QaF hpre 0 n (by simpa using hl)
    simp_all
   ·simp[HM.run]at hm
def upd (w:World) (cb:Nat) (o:Obj):World:={w with heap:=w.heap.setIfInBounds cb o}
theorem Qdb {w:World} {cb:Nat} {o:Obj} (hlt:cb<w.heap.size):(upd w cb o).heap[cb]?=some o:=by
 simp[upd,hlt]
theorem Qfm {w:World} {cb k:Nat} {o:Obj} (hne:k≠cb):(upd w cb o).heap[k]?=w.heap[k]?:=by
 grind [upd]
theorem Qql {w:World} {cb:Nat} {o o':Obj}:upd (upd w cb o) cb o'=upd w cb o':=by
 simp[upd]
def putL (C:List Value) (o:Nat) (vs:List Value):List Value:=C.take o++vs++C.drop (o+vs.length)
theorem Qep {C:List Value} {o:Nat} {vs:List Value} (hl:o+vs.length<=C.length):(putL C o vs).length=C.length:=by
 simp[putL];omega
theorem Qg1 {C:List Value} {o:Nat}:putL C o []=C:=by simp[putL]
theorem QiE {C:List Value} {o:Nat} {v:Value} {vs:List Value} (hl:o<C.length):putL (C.set o v) (o+1) vs=putL C o (v::vs):=by
 simp only[putL,List.length_cons]
 rw[List.take_set,List.drop_set,if_pos (by omega)]
 rw[show o+1+vs.length=o+(vs.length+1) by omega]
 have:(C.take (o+1)).set o v=C.take o++[v]:=by
  apply List.ext_getElem?
  grind
 rw[this];simp
theorem QlH {w:World} {cb o:Nat} {C:Array Value} {e:TypeId} {fr:Nat×Nat} (hh:w.heap[cb]?=some (.cells C e fr)) (v:Value):
  w.setCell ⟨cb,o,none⟩ v=upd w cb (.cells (C.setIfInBounds o v) e fr):=by
 have hlt:=Qbd hh
 unfold World.setCell upd
 congr 1
 grind
theorem Qdc {cb o:Nat} {e:TypeId} {fr:Nat×Nat}:∀(vs:List Value) (i:Nat) (w:World) (C:Array Value),w.heap[cb]?=some (.cells C e fr)->Unfrozen fr C.size->
  o+i+vs.length<=C.size->(∀v∈vs,v.oneCell'=true)->
  (storeCells ⟨cb,o,none⟩ vs i).run P w= .ok () (upd w cb (.cells (putL C.toList (o+i) vs).toArray e fr))
 | [], i, w, C, hC, _, _, _ => by
  simp only[storeCells,Sem.run_pure,Qg1]
  have e0:upd w cb (.cells C e fr)=w:=by
   show({w with heap:=_}:World)={w with heap:=w.heap}
   congr 1
   grind
  simp_all
 | v :: vs, i, w, C, hC, hfr, hl, hone => by
  simp only[List.length_cons]at hl
  have hcell:w.cell? ⟨cb,o+i,none⟩=some C[o+i]:=by rw[QdI hC];simp_all
  have hfz:w.frozen? ⟨cb,o+i,none⟩=false:=by
   have:=hfr (o+i) (by omega)
   simp_all [World.frozen?]
  have hlt:=Qbd hC
  simp only[storeCells,Sem.run_bind,QbQ]
  rw[run_store P w _ v _ (hone v (by simp)),hcell,hfz]
  simp only[Bool.false_eq_true,if_false,Result.andThen_ok]
  rw[QlH hC,Qdc vs (i+1) _ (C.setIfInBounds (o+i) v) (Qdb hlt) (by simpa using hfr) (by simp;omega) (fun u hu=>hone u (by simp[hu]))]
  grind [Qql,QiE]
theorem Ql7 (cs:List AV) (off:Nat) (vs:List AV) (hl:off+vs.length<=cs.length):putR cs off vs=cs.take off++vs++cs.drop (off+vs.length):=by
 unfold putR
 split
 ·rename_i v
  simp only[List.length_singleton]at hl⊢
  rw[List.set_eq_take_append_cons_drop,if_pos (by omega)]
  simp
 ·rfl
theorem QlI (cs:List AV) (off:Nat) (vs:List AV) (hl:off+vs.length<=cs.length):(putR cs off vs).length=cs.length:=by
 grind [Ql7]
theorem QjZ {cs vs:List AV} {C us:List Value} {base off:Nat} (hp:VPre c w cs (C.drop base)) (hv:VRels c w vs us) (hl:off+vs.length<=cs.length):
  VPre c w (putR cs off vs) ((putL C (base+off) us).drop base):=by
 have hlen:=QaC hv
 have hcl:=Qbk hp
 simp at hcl
 rw[Ql7 _ _ _ hl]
 by_cases h0:vs=[]
 ·simp_all [VRels,Qg1]
 ·have hpos : 0 < vs.length := List.length_pos_iff.2 h0
  have e:(putL C (base+off) us).drop base=((C.drop base).take off++us)++(C.drop base).drop (off+us.length):=by
   unfold putL
   rw[List.append_assoc,List.drop_append,List.append_assoc]
   grind [List.drop_drop]
  rw[e]
  refine Qeo ?_ ?_
  ·refine Qbx ?_ hv
   have:=QaF hp 0 off (by omega)
   simp_all
  grind [Qbi]
theorem Qa6 {c:Ctx ok} {b g:Nat} {p:Place} {cb:Option Nat}:(c.with b g p cb).ρ b g=some p:=by simp[Ctx.with]
theorem Qdd (H:HRel c h w) {b g:Nat} {cs vs:List AV} {us:List Value} {off cb base:Nat} (hb:h.get b=some (.cells g cs)) (hlim:b<lim) (hp:c.ρ b g=some (.loc cb base))
  (hl:off+vs.length<=cs.length) (hv:VRels c w vs us) (hone:∀u∈us,u.oneCell'=true):
  ∃c' w',(storeCells ⟨cb,base+off,none⟩ us).run P w= .ok () w'/\Evo c w c' w'/\HRel c' (h.set b (.cells g (putR cs off vs))) w':=by
 obtain⟨C,e,fr,hO,hC,hfr,hbs,hpre⟩:=H.here hb hp
 have hlt:=Qbd hC
 have hlen:=QaC hv
 have hcl:=Qbk hpre
 simp at hcl
 have hbound:base+off+us.length<=C.size:=by omega
 have hrun:=Qdc (P:=P) (cb:=cb) (o:=base+off) us 0 w C hC hfr (by omega) hone
 have hpl:(putL C.toList (base+off) us).length=C.size:=by
  simp_all [Qep]
 have:=H.put (b:=b) (cb:=cb) (base:=base) (x:= .cells g (putR cs off vs)) (w':=upd w cb (.cells (putL C.toList (base+off) us).toArray e fr)) hlim
  (fun y hy=>H.later b _ hb y hy) (.inr hp) (.inr ⟨g,base,⟨_,hb,rfl,fun k=>by simp⟩,hp⟩) rfl rfl rfl (by simp[upd]) (by simp_all [upd])
  (fun k _ hne=>Qfm hne)
  (fun C2 e2 fr2 h2 => by
   simp_all [Qdb])
  (fun E => .inr ⟨cb, base, _, e, fr, Qa6, .inr rfl, Qdb hlt, by simp_all, by simp_all, by
   have:=QjZ (base:=base) hpre hv hl
   simpa using VPre.mono (E.ext H.disj) _ _ this⟩)
 grind
theorem Qa3 {α:Type} {b:Nat} {x:Blk} {k:HM α} {r:α×Heap} (hm:(HM.put b x k).run h=some r):b<lim/\k.run (h.set b x)=some r:=by
 simp only[HM.run]at hm
 cases e:Nat.blt b lim with
 |false=>rw[e]at hm;cases hm
 |true=>rw[e]at hm;exact⟨by simp_all,hm⟩
def SoundU (P:Program) (c:Ctx ok) (w:World) (s:Sem Unit) (h':Heap):Prop:=
 ∃c' w',s.run P w= .ok () w'/\Evo c w c' w'/\HRel c' h' w'
theorem QlJ {t:TypeId} {n:Nat} {x v r:AV} {cx cv:Value} {h':Heap} (H:HRel c h w) (hx:VRel c w x cx) (hv:VRel c w v cv)
  (ht:∀w,(sizeOf t).run P w= .ok n w) (hm:(aStore n x v).run h=some (r,h')):SoundU P c w (Instr.storeAt t cx cv) h':=by
 cases x<;>simp only[aStore,HM.run]at hm<;>try (cases hm;done)
 case ptr b g off=>
  obtain⟨cs,hb,hm⟩:=Qbg hm
  split at hm
  ·rename_i hcond
   obtain⟨h1,h2,h3⟩:=hcond
   obtain⟨hlim,hm⟩:=Qa3 hm
   simp only[HM.run,Option.some.injEq,Prod.mk.injEq]at hm
   obtain⟨_,rfl⟩:=hm
   simp only[VRel]at hx
   obtain⟨cb,base,hp,rfl⟩:=hx
   obtain⟨k1,k2⟩:=QcZ hv h3
   obtain⟨c',w',hr,hE,hH⟩:=Qdd (P:=P) H hb hlim hp (vs:=v.cells) (off:=off) (by omega) k1 k2
   refine⟨c',w',?_,hE,hH⟩
   have hsz:cv.cells.size=n:=by have:=QaC k1;simp_all
   simp_all [Instr.storeAt,Instr.sureAddr,storeVar]
  grind [HM.run]
theorem Qde {α:Type} {s:Site} {i:Nat} {x:Nat->Blk} {k:Nat->Nat->HM α} {r:α×Heap} (hm:(HM.new s i x k).run h=some r):
  ∃b g,b<lim/\(h.get b=none/\g=0\/∃z,h.get b=some z/\g=z.gen+1)/\(k b g).run (h.set b (x g))=some r:=by
 cases s with
 | dyn =>
  simp only[HM.new,HM.run]at hm
  split at hm
  ·rename_i hg
   obtain⟨h1,h2⟩:=Qa3 hm
   exact⟨i,0,h1,.inl ⟨hg,rfl⟩,h2⟩
  ·simp[HM.run]at hm
 | st b =>
  simp only[HM.new,HM.run]at hm
  split at hm
  ·rename_i hg
   obtain⟨h1,h2⟩:=Qa3 hm
   exact⟨b,0,h1,.inl ⟨hg,rfl⟩,h2⟩
  ·rename_i z hg
   obtain⟨h1,h2⟩:=Qa3 hm
   exact⟨b,z.gen+1,h1,.inr ⟨z,hg,rfl⟩,h2⟩
theorem HRel.newCells (H:HRel c h w) {b g:Nat} (hlim:b<lim) (hg:h.get b=none/\g=0\/∃z,h.get b=some z/\g=z.gen+1)
    {cs:List AV} {C:Array Value} {e:TypeId} (hpre:VPre c w cs C.toList):
    ∃c',c'.ρ b g=some (.loc w.heap.size 0)/\Evo c w c' (w.alloc (.cells C e))/\HRel c' (h.set b (.cells g cs)) (w.alloc (.cells C e)):=by
  have hnone:∀y,g<=y->c.ρ b y=none:=by
    intro y hy
    rcases hg with⟨h1,h2⟩|⟨z,h1,h2⟩
    · exact H.fresh b h1 y
    · exact H.later b z h1 y (by omega)
  have hat:(w.alloc (.cells C e)).heap[w.heap.size]?=some (.cells C e):=by show(w.heap.push _)[w.heap.size]?=_;simp
  have:=H.put (b:=b) (cb:=w.heap.size) (base:=0) (x:= .cells g cs) (w':=w.alloc (.cells C e)) hlim
    (fun y hy=>hnone y (Nat.le_of_lt hy)) (.inl (hnone g (Nat.le_refl _))) (.inl rfl) rfl rfl rfl (by simp) (by simp)
    (fun k hk _=>Go.RowKit.Below.heap_alloc w _ k hk)
    (fun C2 e2 fr2 h2=>by simp_all)
    (fun E=> .inr ⟨w.heap.size,0,C,e,(0,0),Qa6,.inr rfl,hat,fun i _=>by omega,by omega,by
      simpa using VPre.mono (E.ext H.disj) _ _ hpre⟩)
  exact⟨_,Qa6,this.1,this.2⟩
theorem VRel_cells' {x:AV} {v:Value} (hx:VRel c w x v) (ho:x.boxable=true):VRels c w x.cells v.cells.toList:=by
 by_cases hag:∃cs,x= .agg cs
 ·obtain ⟨cs, rfl⟩ := hag
  simp only[VRel]at hx
  obtain⟨vs,rfl,hx⟩:=hx
  grind [AV.cells,Value.cells]
 ·refine (QcZ hx ?_).1
  cases x<;>first|rfl|(simp[AV.boxable]at ho;done)|exact absurd ⟨_,rfl⟩ hag
theorem QiF {e:TypeId} {s:Site} {i:Nat} {x v:AV} {cx:Value} {h':Heap} (H:HRel c h w) (hx:VRel c w x cx)
  (hm:(aBox s i x).run h=some (v,h')):Sound P c w (Instr.box e cx) v h':=by
 unfold aBox at hm
 split at hm
 ·rename_i hb
  obtain⟨b,g,hlim,hg,hm⟩:=Qde hm
  simp only[HM.run,Option.some.injEq,Prod.mk.injEq]at hm
  obtain⟨rfl,rfl⟩:=hm
  obtain⟨c',hp,hE,hH⟩:=H.newCells hlim hg (C:=cx.cells) (e:=e) (Qa0 (VRel_cells' hx hb))
  refine⟨.pointer (some ⟨w.heap.size,0,none⟩),c',_,?_,hE,hH,?_⟩
  ·simp[Instr.box,newVar,newRow]
  simp_all [VRel]
 grind [HM.run]
mutual
def cOK:AV->Value->Bool
 | .any,_=>true
 | .bool b,.bool b'=>b==b'
 | .int k n,.int k' n'=>k==k'&&n==n'
 | .str s,.string bs=>s==bs.data.toList
 | .nilptr,.pointer none=>true
 | .nilsl,.slice none 0 0=>true
 | .nilmap,.map none=>true
 | .nilfn,.nilFunc=>true
 | .nilif,.nilIface=>true
 | .agg cs,.agg vs=>cOKs cs vs.toList
 | .tup cs,.tuple vs=>cOKs cs vs.toList
 |_,_=>false
termination_by structural x=>x
def cOKs:List AV->List Value->Bool
 |[],[]=>true
 |x::xs,v::vs=>cOK x v&&cOKs xs vs
 |_,_=>false
termination_by structural x=>x
end
mutual
theorem QdJ:∀(x:AV) (v:Value),cOK x v=true->VRel c w x v
 | .any,_,_=>by simp[VRel]
 | .bool b,v,hh=>by cases v<;>simp_all [cOK,VRel]
 | .int k n,v,hh=>by cases v<;>simp_all [cOK,VRel]
 | .str s,v,hh=>by
  cases v<;>simp_all [cOK,VRel]
 | .agg cs,v,hh=>by
  cases v<;>simp only[cOK,Bool.false_eq_true]at hh
  simp only[VRel]
  exact⟨_,rfl,Qca cs _ hh⟩
 | .tup cs,v,hh=>by
  cases v<;>simp only[cOK,Bool.false_eq_true]at hh
  simp only[VRel]
  exact⟨_,rfl,Qca cs _ hh⟩
 | .nilptr,v,hh=>by
  grind [cOK,VRel]
 | .nilsl,v,hh=>by
  grind [cOK,VRel]
 | .nilmap,v,hh=>by
  grind [cOK,VRel]
 | .nilfn,v,hh=>by
  grind [cOK,VRel]
 | .nilif,v,hh=>by
  grind [cOK,VRel]
 | .ptr _ _ _,v,hh=>by simp[cOK]at hh
 | .fptr _,v,hh=>by simp[cOK]at hh
 | .sl _ _ _ _ _,v,hh=>by simp[cOK]at hh
 | .fsl _ _ _,v,hh=>by simp[cOK]at hh
 | .esl,v,hh=>by simp[cOK]at hh
 | .nsl,v,hh=>by simp[cOK]at hh
 | .map _ _,v,hh=>by simp[cOK]at hh
 | .fmap _ _,v,hh=>by simp[cOK]at hh
 | .fn _ _ _,v,hh=>by simp[cOK]at hh
 | .ifc _ _,v,hh=>by simp[cOK]at hh
theorem Qca:∀(xs:List AV) (vs:List Value),cOKs xs vs=true->VRels c w xs vs
 |[],vs,hh=>by grind [cOKs,VRels]
 |x::xs,[],hh=>by simp[cOKs]at hh
 |x::xs,v::vs,hh=>by
  simp only[cOKs,Bool.and_eq_true]at hh
  simp only[VRels]
  exact⟨v,vs,rfl,QdJ x v hh.1,Qca xs vs hh.2⟩
end
theorem QlK {t:TypeId} {s:Site} {i:Nat} {z v:AV} {ti:TypeInfo} {zv:Value} {h':Heap} (H:HRel c h w) (hi:P.info? t=some ti) (hz:ti.zero=some zv)
  (hc:cOK z zv=true) (hm:(aBox s i z).run h=some (v,h')):Sound P c w (Instr.alloc t true (.tuple #[])) v h':=by
 have:=QiF (P:=P) (e:=t) H (QdJ (c:=c) (w:=w) z zv hc) hm
 obtain⟨cv,c',w',hr,h1⟩:=this
 refine⟨cv,c',w',?_,h1⟩
 simp_all [Instr.alloc,Instr.box,zeroValue,typeInfo]
theorem QiG (off:Nat):∀(l:List Value) (k:Nat) (cells:Array Value),off+k+l.length<=cells.size->
  ((l.zipIdx k).foldl (fun(cs:Array Value) (p:Value×Nat)=>cs.setIfInBounds (off+p.2) p.1) cells).toList=putL cells.toList (off+k) l
 |[],k,cells,_=>by simp[Qg1]
 |v::l,k,cells,hl=>by
  simp only[List.length_cons]at hl
  simp only[List.zipIdx_cons,List.foldl_cons]
  rw[QiG off l (k+1) _ (by simp;omega),Array.toList_setIfInBounds,<-Nat.add_assoc,QiE (by simp;omega)]
theorem QnM {cs vs:List AV} {C us:List Value} {off:Nat} (hp:VRels c w cs C) (hv:VRels c w vs us) (hl:off+vs.length<=cs.length):
  VRels c w (putR cs off vs) (putL C off us):=by
 have h1:=QjZ (base:=0) (by simpa using Qa0 hp) hv hl
 have h2:=Qee h1
 have hlen:=QaC hp
 have hlen':=QaC hv
 simp_all [QlI,List.take_of_length_le,Qep]
def PartsRel (c:Ctx ok) (w:World) (place:Nat->Option (Nat×Nat)):List (Nat×Nat×AV)->List (Nat×Value)->Prop
 |[],ps=>ps=[]
 |(off,size,x)::r,ps=>∃i v ps',ps=(i,v)::ps'/\place i=some (off,size)/\VRel c w x v/\PartsRel c w place r ps'
theorem QeL {place:Nat->Option (Nat×Nat)}:∀(parts:List (Nat×Nat×AV)) (ps:List (Nat×Value)) (cs cs':List AV) (cells:Array Value),PartsRel c w place parts ps->
  VRels c w cs cells.toList->fillA cs parts=some cs'->∃cells',Instr.fill place cells ps=some cells'/\VRels c w cs' cells'.toList
 |[],ps,cs,cs',cells,hp,hc,hf=>by
  simp only[PartsRel]at hp
  subst hp
  simp only[fillA,Option.some.injEq]at hf
  subst hf
  exact⟨cells,rfl,hc⟩
 | (off, size, x) :: r, ps, cs, cs', cells, hp, hc, hf => by
  simp only[PartsRel]at hp
  obtain⟨i,v,ps',rfl,hpl,hv,hr⟩:=hp
  simp only[fillA]at hf
  split at hf
  ·rename_i hcond
   obtain⟨k1,k2,k3⟩:=hcond
   have hvs:=VRel_cells' hv k3
   have hlen:=QaC hvs
   have hcl:=QaC hc
   simp at hlen hcl
   have hfold:=QiG off v.cells.toList 0 cells (by simp;omega)
   have hput:=QnM (off:=off) hc hvs (by omega)
   obtain⟨cells',e1,e2⟩:=QeL r ps' _ cs' (v.cells.zipIdx.foldl (fun cs (p:Value×Nat)=>cs.setIfInBounds (off+p.2) p.1) cells) hr (by
    grind [Array.toList_zipIdx]) hf
   simp_all [Instr.fill]
  ·cases hf
def placeOf (P:Program) (t:TypeId) (i:Nat):Option (Nat×Nat):=
 match P.underlying t with
 |some (.array _ e)=>match P.info? e with
  |some ie=>some (i*ie.size,ie.size)
  |none=>none
 |some (.struct fields)=>
  match fields.toList.mapM (fun f=>(P.info? f.type).map fun i=>(f.offset,i.size))with
  |some places=>places[i]?
  |none=>none
 |_=>none
def zeroOf (P:Program) (t:TypeId):Option Value:=(P.info? t).bind (·.zero)
theorem QlL {t:TypeId} {zero:List AV} {parts:List (Nat×Nat×AV)} {ps:Array (Nat×Value)} {v:AV} {zv:Value} (H:HRel c h w)
  (hz:zeroOf P t=some zv) (hc:cOKs zero zv.cells.toList=true) (hok:(∃n e ie,P.underlying t=some (.array n e)/\P.info? e=some ie)\/(∃fields places,P.underlying t=some (.struct fields)/\fields.toList.mapM (fun f=>(P.info? f.type).map fun i=>(f.offset,i.size))=some places))
  (hp:PartsRel c w (placeOf P t) parts ps.toList)
  (hm:aBuild zero parts=some v):Sound P c w (Instr.build t ps) v h:=by
 unfold aBuild at hm
 cases hf:fillA zero parts with
 |none=>simp[hf]at hm
 | some cs =>
  simp only[hf,Option.some.injEq]at hm
  subst hm
  obtain⟨cells',h1,h2⟩:=QeL (place:=placeOf P t) parts ps.toList zero cs zv.cells hp (Qca _ _ hc) hf
  refine .here H (cv:= .agg cells') (run_build w t ps cells' ?_) (by simp only[VRel];simp_all)
  unfold zeroOf at hz
  cases hi:P.info? t with
  |none=>simp[hi]at hz
  | some it =>
   simp only[hi,Option.bind_some]at hz
   unfold Program.built
   rcases hok with⟨n,e,ie,hu,hie⟩|⟨fields,places,hu,hpl⟩
   ·simp only [hi, hu, hz, hie]
    have e1:placeOf P t=fun i=>some (i*ie.size,ie.size):=by grind [placeOf]
    simp_all
   ·simp only [hi, hu, hz, hpl]
    have e1:placeOf P t=fun i=>places.toArray[i]?:=by grind [placeOf]
    simp_all
theorem Qew (H:HRel c h w) {s:Site} {i:Nat} {cs:List AV} {C:Array Value} {e:TypeId} {len cap sz:Nat} {v:AV} {h':Heap} {run:Sem Value}
  (hpre:VPre c w cs C.toList) (hlc:len<=cap) (hcap:cap=0\/cap*sz<=C.size)
  (hr:run.run P w= .ok (.slice (some ⟨w.heap.size,0,none⟩) len cap) (w.alloc (.cells C e)))
  (hm:(HM.new s i (fun g=> .cells g cs) fun b g=> .ret (.sl b g 0 len sz)).run h=some (v,h')):Sound P c w run v h':=by
 obtain⟨b,g,hlim,hg,hm⟩:=Qde hm
 simp only[HM.run,Option.some.injEq,Prod.mk.injEq]at hm
 obtain⟨rfl,rfl⟩:=hm
 obtain⟨c',hp,hE,hH⟩:=H.newCells hlim hg (C:=C) (e:=e) hpre
 refine⟨_,c',_,hr,hE,hH,?_⟩
 simp only[VRel]
 refine .inr ⟨_,0,0,cap,C,e,(0,0),hp,rfl,hlc,?_,hcap.imp id (fun hh=>⟨by simp,by simpa using hh⟩)⟩
 show(w.heap.push _)[w.heap.size]?=_
 simp
theorem Qhu (H:HRel c h w) {cs:List AV} {C:Array Value} {e:TypeId} {len cap sz:Nat} {run:Sem Value}
  (hpre:VPre c w cs C.toList) (hlc:len<=cap) (hl:cs.length=len*sz)
  (hr:run.run P w= .ok (.slice (some ⟨w.heap.size,0,none⟩) len cap) (w.alloc (.cells C e))):Sound P c w run (.fsl cs len sz) h:=by
 obtain⟨E,H1⟩:=H.grow (w':=w.alloc (.cells C e)) rfl rfl rfl (by simp) (fun k hk=>Go.RowKit.Below.heap_alloc w _ k hk)
 have H2:=H1.frozen (fun k=>c.F k\/k=w.heap.size) (fun k hk=> .inl hk) (fun k hk=>by
  rcases hk with hk|hk
  ·exact⟨H.disj k hk,by have:=H.inF k hk;simp;omega⟩
  ·subst hk;exact⟨fun hO=>by have:=H.inO _ hO;omega,by simp⟩)
 have E2 : Evo c w { c with F := fun k => c.F k \/ k = w.heap.size } (w.alloc (.cells C e)) :=
  ⟨E.os,E.tape,E.output,E.size,E.shape,E.keep,E.rho,fun k hk=> .inl hk,fun k hk=>hk.imp id (fun h=> .inr (Nat.le_of_eq h.symm)),E.own,rfl⟩
 refine⟨_,_,_,hr,E2,H2,?_⟩
 simp only[VRel]
 refine .inr ⟨_,0,cap,C,e,(0,0),rfl,hlc,hl,.inr rfl,?_,?_⟩
 ·show (w.heap.push _)[w.heap.size]? = _
  simp
 ·simpa using VPre.mono (E2.ext H.disj) _ _ hpre
def zeroRow (z:Array Value) (n:Nat):Array Value:=(Array.range n).map (z[· % z.size]!)
theorem run_buildSlice' (w:World) (t e:TypeId) (len:Nat) (parts:Array (Nat×Value)) (cells:Array Value) (ie:TypeInfo) (z:Value)
  (hu:P.underlying t=some (.slice e)) (hie:P.info? e=some ie) (hz:ie.zero=some z) (hsmall:len*ie.size<=16777216)
  (hf:Instr.fill (fun i=>some (i*ie.size,ie.size)) (zeroRow z.cells (len*ie.size)) parts.toList=some cells):
  (Instr.buildSlice t len parts).run P w= .ok (.slice (some ⟨w.heap.size,0,none⟩) len len) (w.alloc (.cells cells e)):=by
 have hs:¬16777216<len*ie.size:=by omega
 by_cases h0:len*ie.size=0
 ·rw [h0] at hf
  have:zeroRow z.cells 0= #[]:=by simp[zeroRow]
  rw[this]at hf
  simp only[Instr.buildSlice,Sem.run_bind,run_underlying hu,Result.andThen_ok,QaJ hie]
  simp only[h0]
  simp_all [Array.range,newRow]
 ·unfold zeroRow at hf
  simp[Instr.buildSlice,run_underlying hu,sizeOf,typeInfo,zeroValue,hie,hz,hs,h0,hf,newRow]
theorem Qg2 {t e:TypeId} {frozen:Bool} {s:Site} {i sz len:Nat} {zero:List AV} {parts:List (Nat×Nat×AV)} {ps:Array (Nat×Value)} {v:AV} {ie:TypeInfo} {z:Value} {h':Heap}
  (H:HRel c h w) (hu:P.underlying t=some (.slice e)) (hie:P.info? e=some ie) (hsz:ie.size=sz) (hz:ie.zero=some z) (hsmall:len*sz<=16777216)
  (hc:cOKs zero (zeroRow z.cells (len*sz)).toList=true) (hp:PartsRel c w (fun i=>some (i*sz,sz)) parts ps.toList)
  (hm:(aBuildSlice frozen s i sz len zero parts).run h=some (v,h')):Sound P c w (Instr.buildSlice t len ps) v h':=by
 subst hsz
 unfold aBuildSlice at hm
 cases hf:fillA zero parts with
 |none=>simp[hf,HM.run]at hm
 | some cs =>
  simp only[hf]at hm
  split at hm
  ·rename_i hl
   obtain⟨cells',h1,h2⟩:=QeL parts ps.toList zero cs (zeroRow z.cells (len*ie.size)) hp (Qca _ _ hc) hf
   have hlen:=QaC h2
   simp at hlen
   have hr:=run_buildSlice' (P:=P) w t e len ps cells' ie z hu hie hz hsmall h1
   split at hm
   ·split at hm
    ·simp only [HM.run, Option.some.injEq, Prod.mk.injEq] at hm
     obtain⟨rfl,rfl⟩:=hm
     exact Qhu H (Qa0 h2) (Nat.le_refl _) hl hr
    grind [HM.run]
   ·exact Qew H (Qa0 h2) (Nat.le_refl _) (.inr (by omega)) hr hm
  ·simp[HM.run]at hm
theorem QlM (s k:Nat) (f:Nat->Value) (hf:∀i,f (i+s)=f i):(List.range (s+k)).map f=(List.range s).map f++(List.range k).map f:=by
 simp_all [List.range_add,Nat.add_comm]
theorem QcE {zero:List AV} {z:Array Value} (hz:VRels c w zero z.toList):∀k,VRels c w (List.replicate k zero).flatten (zeroRow z (k*z.size)).toList
 |0=>by simp[zeroRow,VRels]
 | k + 1 => by
  have ih:=QcE hz k
  have e:(zeroRow z ((k+1)*z.size)).toList=z.toList++(zeroRow z (k*z.size)).toList:=by
   simp only[zeroRow,Array.toList_map,Array.toList_range]
   rw[show(k+1)*z.size=z.size+k*z.size by rw[Nat.succ_mul];omega]
   rw[QlM z.size _ (fun i=>z[i % z.size]!) (fun i=>by simp)]
   congr 1
   apply List.ext_getElem?
   grind [Nat.mod_eq_of_lt]
  simp_all [List.replicate_succ,Qbx]
theorem Qhv {t e : TypeId} {s : Site} {i sz bytes : Nat} {zero : List AV} {l n v : AV} {cl cn : Value} {ie : TypeInfo} {z : Value} {h' : Heap}
    (H:HRel c h w) (hl:VRel c w l cl) (hn:VRel c w n cn) (hu:P.underlying t=some (.slice e)) (hie:P.info? e=some ie) (hsz:ie.size=sz) (hby:ie.bytes=bytes) (hz:ie.zero=some z)
    (hzs:z.cells.size=sz) (hc:cOKs zero z.cells.toList=true)
    (hm:(aMakeSlice s i sz bytes zero l n).run h=some (v,h')):Sound P c w (Instr.makeSlice t cl cn) v h':=by
  subst hsz;subst hby
  unfold aMakeSlice at hm
  split at hm
  · rename_i k1 ln k2 cn'
    split at hm
    · rename_i hcond
      obtain⟨h1,h2,h3,h4⟩:=hcond
      simp only[VRel]at hl hn
      subst hl;subst hn
      have w1:IntKind.i64.wrap ln=ln:=by rw[<-wr_eq];grind [wr_of,lo,hi]
      have w2:IntKind.i64.wrap cn'=cn':=by rw[<-wr_eq];grind [wr_of,lo,hi]
      have hrow:VRels c w (List.replicate cn'.toNat zero).flatten (zeroRow z.cells (cn'.toNat*ie.size)).toList:=by
        grind [QcE,Qca]
      refine Qew H (cap:=cn'.toNat) (C:=zeroRow z.cells (cn'.toNat*ie.size)) (e:=e) (Qa0 hrow) (by omega) (.inr (by simp[zeroRow])) ?_ hm
      have b1:¬cn'<0:=by omega
      have b2:¬281474976710656<(ie.bytes:Int)*cn':=by omega
      have b3:¬ln<0:=by omega
      have b4:¬cn'<ln:=by omega
      by_cases h0:cn'.toNat*ie.size=0
      · have e0 : zeroRow z.cells 0 = #[] := by simp [zeroRow]
        simp only[Instr.makeSlice,Sem.run_bind,run_underlying hu,Result.andThen_ok,asInt,asIntOf,Sem.run_pure,typeInfo,run_program,hie,w1,w2,QaJ hie]
        simp only[b1,b2,b3,b4,h0,gt_iff_lt,decide_false,Bool.or_self,Bool.false_eq_true,if_false,Sem.run_bind,Sem.run_pure,run_askRoom,Result.andThen_ok,Nat.reducePow,Int.reducePow,e0]
        simp[newRow,QaJ hie,h0,Array.range_zero']
      · simp only [Instr.makeSlice, Sem.run_bind, run_underlying hu, Result.andThen_ok, asInt, asIntOf, Sem.run_pure, typeInfo, run_program, hie, w1, w2, QaJ hie]
        simp only[b1,b2,b3,b4,h0,gt_iff_lt,decide_false,Bool.or_self,Bool.false_eq_true,if_false,Sem.run_bind,Sem.run_pure,run_askRoom,Result.andThen_ok,Nat.reducePow,Int.reducePow,zeroValue,typeInfo,run_program,hie,hz]
        simp_all [newRow,zeroRow,QaJ]
    grind [HM.run]
  grind [HM.run]
end Go.AM
namespace Go.AM
variable {P:Program} {ok:Okc} {c:Ctx ok} {w:World} {h:Heap}
theorem HRel.drew (H:HRel c h w):Evo c w c w.drew/\HRel c h w.drew:=
 H.grow rfl rfl rfl (Nat.le_refl _) (fun _ _=>rfl)
theorem QnN {C us:List Value} {base off:Nat} (hl:base+off<=C.length):(putL C (base+off) us).drop base=((C.drop base).take off++us)++(C.drop base).drop (off+us.length):=by
 unfold putL
 rw[List.append_assoc,List.drop_append,List.append_assoc]
 grind [List.drop_drop]
theorem HRel.putNil (H:HRel c h w) {b g:Nat} (hb:b<lim) (hlater:∀y,g<y->c.ρ b y=none) (hat:c.ρ b g=none\/c.ρ b g=some .nil):
  Evo c w (c.with b g .nil none) w/\HRel (c.with b g .nil none) (h.set b (.cells g [])) w:=by
 have E:Evo c w (c.with b g .nil none) w:=by
  refine⟨rfl,rfl,rfl,Nat.le_refl _,fun _ C _ fr h=>⟨C,fr,h,rfl⟩,fun _ _ _=>rfl,?_,fun _ h=>h,fun _ h=> .inl h,?_,rfl⟩
  ·intro x1 y p hp
   show(if x1=b/\y=g then some Place.nil else c.ρ x1 y)=some p
   grind
  ·intro k hk
   rcases hk with hk|hk
   ·exact .inl hk
   ·cases hk
 have hO:∀k,(c.with b g .nil none).O k->c.O k:=fun k hk=>hk.elim id (fun e=>by cases e)
 refine⟨E,?_,?_,?_,?_,fun k hF hO'=>H.disj k hF (hO k hO'),H.inF,fun k hk=>H.inO k (hO k hk)⟩
 ·intro b2 hg y
  rw[Tr.Qa2 h hb]at hg
  split at hg
  ·cases hg
  ·rename_i hne
   show(if b2=b/\y=g then some Place.nil else c.ρ b2 y)=none
   rw[if_neg (fun e=>hne e.1)]
   exact H.fresh b2 hg y
 ·intro b2 x2 hg y hy
  rw[Tr.Qa2 h hb]at hg
  show(if b2=b/\y=g then some Place.nil else c.ρ b2 y)=none
  split at hg
  ·grind [Blk.gen]
  ·rename_i hne
   rw[if_neg (fun e=>hne e.1)]
   exact H.later b2 x2 hg y hy
 ·intro b2 x2 hg
  rw[Tr.Qa2 h hb]at hg
  split at hg
  ·rename_i e1; subst e1; cases hg
   exact .inl ⟨Qa6,rfl⟩
  ·rename_i hne
   refine BRel.mono (E.ext H.disj) ?_ (H.blk b2 x2 hg)
   intro cb2 base2 hd2 hp
   exact⟨.inl (H.owned ⟨x2,hg,rfl,hd2⟩ hp),rfl⟩
 ·intro b1 g1 b2 g2 cb2 base1 base2 l1 l2 p1 p2
  obtain⟨x1,hg1,rfl,hd1⟩:=l1
  obtain⟨x2,hg2,rfl,hd2⟩:=l2
  rw[Tr.Qa2 h hb]at hg1 hg2
  simp only[Ctx.with]at p1 p2
  by_cases e1:b1=b
  ·rw [if_pos e1] at hg1; cases hg1
   rw[if_pos ⟨e1,rfl⟩]at p1;cases p1
  ·rw [if_neg e1] at hg1
   rw[if_neg (fun e=>e1 e.1)]at p1
   by_cases e2:b2=b
   ·rw [if_pos e2] at hg2; cases hg2
    rw[if_pos ⟨e2,rfl⟩]at p2;cases p2
   ·rw [if_neg e2] at hg2
    rw[if_neg (fun e=>e2 e.1)]at p2
    exact H.inj _ _ _ _ _ _ _ ⟨x1,hg1,rfl,hd1⟩ ⟨x2,hg2,rfl,hd2⟩ p1 p2
structure SrcRel (P:Program) (c:Ctx ok) (w:World) (sz:Nat) (cy:Value) (ys:List AV) (n:Nat) (us:List Value):Prop where
 rels:VRels c w ys us
 len:ys.length=n*sz
 lenOf:∀w1,(Builtin.lenOf cy).run P w1= .ok n w1
 firstm:∀w1 m,m<=n->w1.heap=w.heap->(Builtin.firstCells sz m cy).run P w1= .ok (us.take (m*sz)).toArray w1
theorem SrcRel.first {P:Program} {c:Ctx ok} {w:World} {sz:Nat} {cy:Value} {ys:List AV} {n:Nat} {us:List Value} (S:SrcRel P c w sz cy ys n us):
  ∀w1,w1.heap=w.heap->(Builtin.firstCells sz n cy).run P w1= .ok us.toArray w1:=by
 intro w1 hw
 have h1:=S.firstm w1 n (Nat.le_refl _) hw
 have h2:=QaC S.rels
 have h3:=S.len
 simp_all
theorem Qeq {b g off len sz : Nat} {cs : List AV} {cy : Value} (H : HRel c h w) (hy : VRel c w (.sl b g off len sz) cy) (hb : h.get b = some (.cells g cs)) (hl : off + len * sz <= cs.length) :
    ∃us,SrcRel P c w sz cy ((cs.drop off).take (len*sz)) len us:=by
  simp only[VRel]at hy
  rcases hy with⟨hp,rfl,rfl,rfl⟩|⟨cb,base,o,cap,C,e,fr,hp,rfl,hlc,hC,hcap⟩
  · refine⟨[],⟨by simp[VRels],by simp,fun w1=>by simp[Builtin.lenOf],fun w1 m _ _=>by simp[Builtin.firstCells]⟩⟩
  · obtain ⟨C', e', fr', hO, hC', hfr, hbs, hpre⟩ := H.here hb hp
    rw[hC]at hC';cases hC'
    by_cases h0:len*sz=0
    · refine ⟨[], ⟨by simp [h0, VRels], by simp [h0], fun w1 => by simp [Builtin.lenOf], fun w1 m hm _ => ?_⟩⟩
      have h0':m*sz=0:=by
        grind [Nat.mul_eq_zero]
      simp[Builtin.firstCells,h0',loadCells,loadCellsFrom]
    · have hcl := Qbk hpre
      simp at hcl
      have hc1:cap≠0:=by grind
      obtain⟨rfl,hb2⟩:=hcap.resolve_left hc1
      refine⟨(C.toList.drop (base+off)).take (len*sz),⟨?_,by simp;omega,fun w1=>by simp[Builtin.lenOf],fun w1 m hm hw1=>?_⟩⟩
      · have := QaF hpre off (len * sz) hl
        simp_all
      grind [Nat.mul_le_mul_right,QbB,Builtin.firstCells]
theorem QcP {sz : Nat} {y : AV} {cy : Value} {k : List AV -> Nat -> HM AV} {r : AV × Heap} (H : HRel c h w) (hy : VRel c w y cy) (hm : (aSrc sz y k).run h = some r) :
    ∃ys n us,SrcRel P c w sz cy ys n us/\(k ys n).run h=some r:=by
  cases y<;>simp only[aSrc]at hm<;>try (cases hm;done)
  case sl b g off len s=>
    split at hm
    · rename_i e; subst e
      obtain⟨cs,hb,hm⟩:=Qbg hm
      split at hm
      · rename_i hl
        obtain⟨us,hs⟩:=Qeq (P:=P) H hy hb hl
        grind
      grind [HM.run]
    grind [HM.run]
  case fsl cs len s=>
    split at hm
    · rename_i e; subst e
      simp only[VRel]at hy
      rcases hy with⟨⟨a,rfl⟩,rfl,rfl⟩|⟨cb,off,cap,C,e,fr,rfl,hlc,hlen,hF,hC,hpre⟩
      · refine ⟨[], 0, [], ⟨by simp [VRels], by simp, fun w1 => by simp [Builtin.lenOf], fun w1 m hm' _ => ?_⟩, hm⟩
        obtain rfl:m=0:=by omega
        cases a<;>simp[Builtin.firstCells,loadCells,loadCellsFrom]
      · have hcl := Qbk hpre
        simp at hcl
        refine⟨cs,len,(C.toList.drop off).take cs.length,⟨Qee hpre,hlen,fun w1=>by simp[Builtin.lenOf],fun w1 m hm' hw1=>?_⟩,hm⟩
        grind [Nat.mul_le_mul_right,QbB,Builtin.firstCells]
    grind [HM.run]
  case nilsl=>
    simp only[VRel]at hy
    subst hy
    exact⟨[],0,[],⟨by simp[VRels],by simp,fun w1=>by simp[Builtin.lenOf],fun w1 m _ _=>by simp[Builtin.firstCells]⟩,hm⟩
  case esl=>
    simp only[VRel]at hy
    obtain⟨a,rfl⟩:=hy
    refine⟨[],0,[],⟨by simp[VRels],by simp,fun w1=>by simp[Builtin.lenOf],fun w1 m hm' _=>?_⟩,hm⟩
    obtain rfl:m=0:=by omega
    cases a<;>simp[Builtin.firstCells,loadCells,loadCellsFrom]
  case nsl=>
    simp only[VRel]at hy
    obtain⟨a,k,rfl⟩:=hy
    refine⟨[],0,[],⟨by simp[VRels],by simp,fun w1=>by simp[Builtin.lenOf],fun w1 m hm' _=>?_⟩,hm⟩
    obtain rfl:m=0:=by omega
    simp[Builtin.firstCells,loadCells,loadCellsFrom]
  case str s=>
    split at hm
    · rename_i e; subst e
      simp only[VRel]at hy
      subst hy
      refine⟨_,_,s.map fun b=>Value.int .u8 b.toNat,⟨?_,by simp,fun w1=>by simp[Builtin.lenOf,ByteArray.size],fun w1 m hm' _=>?_⟩,hm⟩
      · have : ∀ l : List UInt8, VRels c w (l.map fun b => AV.int .u8 b.toNat) (l.map fun b => Value.int .u8 b.toNat) := by
          intro l
          induction l with
          |nil=>simp[VRels]
          |cons a l ih=>simp only[List.map_cons,VRels];exact⟨_,_,rfl,by simp[VRel],ih⟩
        exact this s
      simp_all [Builtin.firstCells]
    grind [HM.run]
theorem Qhw {need old bytes:Nat} (hlt:old<need) (hb:need*bytes<=140737488355328):Builtin.nextslicecap need old*bytes<=281474976710656:=by
 have:=nextslicecap_le hlt
 have h2:Builtin.nextslicecap need old*bytes<=2*need*bytes:=Nat.mul_le_mul_right _ this
 grind
theorem Qcb {t t2 ty e:TypeId} {i:TypeInfo} {z:Value} {d2:TypeDesc} {n dlen dcap:Nat} {base:Option Addr} {cy:Value} {olds us:List Value} (ht:P.underlying t=some (.slice e)) (ht2:P.underlying t2=some d2) (hd2:∀k,d2≠ .int k)
  (hi:P.info? e=some i) (hz:i.zero=some z)
  (hlen:∀w1,(Builtin.lenOf cy).run P w1= .ok n w1) (hfirst:∀w1,w1.heap=w.heap->(Builtin.firstCells i.size n cy).run P w1= .ok us.toArray w1)
  (hold:∀w1,w1.heap=w.heap->(Builtin.firstCells i.size dlen (.slice base dlen dcap)).run P w1= .ok olds.toArray w1)
  (hg:dcap<dlen+n) (hb:(dlen+n)*i.bytes<=140737488355328) (h63:dlen+n<=9223372036854775807):
  (Builtin.append_ #[t, t2] ty #[.slice base dlen dcap, cy]).run P w =
   .ok (.slice (some ⟨w.heap.size,0,none⟩) (dlen+n) (grownCap w (dlen+n) dcap e))
    (w.drew.alloc (.cells (olds++us++(Builtin.zeroCells z.cells (grownCap w (dlen+n) dcap e-(dlen+n))).toList).toArray e)):=by
 have hn:¬(dlen+n<=dcap):=by omega
 have h63':¬(9223372036854775807<((dlen:Int)+(n:Int))):=by omega
 have h48':¬(281474976710656<Builtin.nextslicecap (dlen+n) dcap*i.bytes):=by
  simp_all [Qhw]
 have hf:=hfirst w.drew rfl
 have hfo:=hold w.drew rfl
 have hm:(d2 matches .int _)=false:=by cases d2<;>first|rfl|exact absurd rfl (hd2 _)
 simp only[Builtin.append_,Array.getElem?_toList,List.getElem?_toArray,List.getElem?_cons_zero,List.getElem?_cons_succ,Sem.run_bind,run_underlying ht,run_underlying ht2,Result.andThen_ok,QaJ hi,Sem.run_pure,hm]
 simp[typeInfo,zeroValue,hi,hz,hlen,hn,h63',h48',Question.forced,hf,hfo,newRow,grownCap]
 congr 2
 simp_all
theorem Qg3 (w:World) {need old:Nat} (e:TypeId):need<=grownCap w need old e:=by
 unfold grownCap
 exact Nat.le_add_right _ _
theorem Qbn {t t2 ty e:TypeId} {i:TypeInfo} {d2:TypeDesc} {n dlen dcap:Nat} {base:Option Addr} {cy:Value} {us:List Value} (ht:P.underlying t=some (.slice e)) (ht2:P.underlying t2=some d2) (hd2:∀k,d2≠ .int k)
  (hi:P.info? e=some i)
  (hlen:∀w1,(Builtin.lenOf cy).run P w1= .ok n w1) (hfirst:(Builtin.firstCells i.size n cy).run P w= .ok us.toArray w)
  (hg:dlen+n<=dcap):
  (Builtin.append_ #[t, t2] ty #[.slice base dlen dcap, cy]).run P w = (match base with
   |some a=>((storeCells (a.add (dlen*i.size)) us).run P w).andThen fun _ w'=> .ok (.slice base (dlen+n) dcap) w'
   |none=> .ok (.slice base (dlen+n) dcap) w):=by
 have hm:(d2 matches .int _)=false:=by cases d2<;>first|rfl|exact absurd rfl (hd2 _)
 simp only[Builtin.append_,Array.getElem?_toList,List.getElem?_toArray,List.getElem?_cons_zero,List.getElem?_cons_succ,Sem.run_bind,run_underlying ht,run_underlying ht2,Result.andThen_ok,QaJ hi,Sem.run_pure,hm]
 cases base<;>simp[hlen,hg,hfirst]
structure AppT (P:Program) (t t2 e:TypeId) (sz bytes:Nat) (i:TypeInfo) (z:Value):Prop where
 ht:P.underlying t=some (.slice e)
 ht2:∃d2,P.underlying t2=some d2/\∀k,d2≠ .int k
 hi:P.info? e=some i
 hz:i.zero=some z
 hsz:i.size=sz
 hby:i.bytes=bytes
 hzs:z.cells.size=sz
theorem QcA (z:Array Value) (n:Nat):(Builtin.zeroCells z n).size=n*z.size:=by simp[Builtin.zeroCells]
theorem QeM (H:HRel c h w) {b g:Nat} (hlim:b<lim) (hg:h.get b=none/\g=0\/∃z,h.get b=some z/\g=z.gen+1) {cs:List AV} {us:List Value} {rest:List Value} {e:TypeId}
  (hr:VRels c w cs us) {len cap sz:Nat} (hlc:len<=cap) (hcap:cap*sz<=(us++rest).length):
  ∃c',Evo c w c' (w.drew.alloc (.cells (us++rest).toArray e))/\HRel c' (h.set b (.cells g cs)) (w.drew.alloc (.cells (us++rest).toArray e))/\
   VRel c' (w.drew.alloc (.cells (us++rest).toArray e)) (.sl b g 0 len sz) (.slice (some ⟨w.heap.size,0,none⟩) len cap):=by
 obtain⟨E1,H1⟩:=H.drew
 have hr1:=VRels.mono (E1.ext H.disj) _ _ hr
 obtain⟨c',hp,E2,H2⟩:=H1.newCells hlim hg (cs:=cs) (C:=(us++rest).toArray) (e:=e) (by grind [Qg0])
 refine⟨c',E1.trans E2,H2,?_⟩
 simp only[VRel]
 refine .inr ⟨_,0,0,cap,(us++rest).toArray,e,(0,0),hp,rfl,hlc,?_,.inr ⟨by simp,by simp_all⟩⟩
 show(w.heap.push _)[w.heap.size]?=_
 simp
theorem QdP {t t2 ty e : TypeId} {s : Site} {i sz bytes : Nat} {x y v : AV} {cx cy : Value} {ti : TypeInfo} {z : Value} {h' : Heap} (H : HRel c h w) (hx : VRel c w x cx) (hy : VRel c w y cy)
    (T:AppT P t t2 e sz bytes ti z) (hm:(aAppend s i sz bytes x y).run h=some (v,h')):Sound P c w (Builtin.append_ #[t,t2] ty #[cx,cy]) v h':=by
  obtain⟨ht,⟨d2,ht2,hd2⟩,hi,hz,rfl,rfl,hzs⟩:=T
  replace hm:=QcP (P:=P) H hy hm
  obtain⟨ys,n,us,S,hm⟩:=hm
  have hul:=QaC S.rels
  have hyl:=S.len
  by_cases hcond:(slLen x+n)*ti.bytes<=140737488355328/\slLen x+n<=140737488355328/\ys.all AV.one=true
  case pos =>
    rw[if_pos hcond]at hm
    obtain⟨hb,hb2,hone⟩:=hcond
    have hones:∀u∈us,u.oneCell'=true:=by
      intro u hu
      obtain⟨j,hj,rfl⟩:=List.mem_iff_getElem.1 hu
      obtain⟨v',hv',hr⟩:=Qcp j S.rels (List.getElem?_eq_getElem (by omega:j<ys.length))
      rw[List.getElem?_eq_getElem hj]at hv';cases hv'
      have h1:(ys[j]).one=true:=by
        simp_all
      have h2:=QcZ (x:=ys[j]) hr (by cases hh:ys[j]<;>simp_all [AV.one,AV.cells])
      have:(us[j]).cells= #[us[j]]\/∃a,us[j]= .agg a:=by cases us[j]<;>simp[Value.cells]
      rcases this with h3|⟨a,h3⟩
      · simp_all
      · rw [h3] at hr
        exfalso
        cases hh:ys[j]<;>rw[hh]at hr h1<;>simp[AV.one]at h1<;>simp[VRel]at hr
        rcases hr.1 with⟨_,_,_,k1,_⟩|⟨_,_,_,_,k1,_⟩<;>simp_all
    have fresh:∀(base:Option Addr) (hold:∀w1,(Builtin.firstCells ti.size 0 (.slice base 0 0)).run P w1= .ok #[] w1) (b g:Nat),b<lim->(h.get b=none/\g=0\/∃z,h.get b=some z/\g=z.gen+1)->0<n->n*ti.bytes<=140737488355328->n<=9223372036854775807->
        Sound P c w (Builtin.append_ #[t,t2] ty #[.slice base 0 0,cy]) (.sl b g 0 n ti.size) (h.set b (.cells g ys)):=by
      intro base hold b g hlim hg hpos hbn h63
      have hr:=Qcb (P:=P) (w:=w) (ty:=ty) (t:=t) (t2:=t2) (dlen:=0) (dcap:=0) (base:=base) (cy:=cy) (olds:=[]) (us:=us) ht ht2 hd2 hi hz S.lenOf S.first (fun w1 _=>hold w1) (by omega) (by simpa using hbn) (by simpa using h63)
      simp only[Nat.zero_add,List.nil_append]at hr
      have hgl:=Qg3 w (need:=n) (old:=0) e
      obtain⟨c',E',H',V'⟩:=QeM H hlim hg (e:=e) (rest:=(Builtin.zeroCells z.cells (grownCap w n 0 e-n)).toList) S.rels (len:=n) (cap:=grownCap w n 0 e) (sz:=ti.size) hgl (by
        have hz1:=QcA z.cells (grownCap w n 0 e-n)
        rw[hzs]at hz1
        simp only[List.length_append,Array.length_toList,hz1,<-hul,hyl]
        rw[<-Nat.add_mul]
        simp_all)
      exact⟨_,c',_,hr,E',H',V'⟩
    cases x<;>(try simp only at hm)<;>try (simp[HM.run]at hm;done)
    case nilsl=>
      simp only[VRel]at hx
      subst hx
      cases n with
      | zero =>
        simp only[HM.run,Option.some.injEq,Prod.mk.injEq]at hm
        obtain⟨rfl,rfl⟩:=hm
        exact .here H (by simpa using Qbn (P:=P) (ty:=ty) (base:=none) (dlen:=0) (dcap:=0) ht ht2 hd2 hi S.lenOf (S.first w rfl) (by omega)) (by simp[VRel])
      | succ n =>
        obtain⟨b,g,hlim,hg,hm⟩:=Qde hm
        simp only[HM.run,Option.some.injEq,Prod.mk.injEq]at hm
        obtain⟨rfl,rfl⟩:=hm
        simp only[slLen,Nat.zero_add]at hb hb2
        exact fresh none (fun w1=>by simp[Builtin.firstCells]) b g hlim hg (by omega) hb (by omega)
    case esl=>
      simp only[VRel]at hx
      obtain⟨base,rfl⟩:=hx
      have hold:∀w1,(Builtin.firstCells ti.size 0 (.slice base 0 0)).run P w1= .ok #[] w1:=by
        intro w1;cases base<;>simp[Builtin.firstCells,loadCells,loadCellsFrom]
      cases n with
      | zero =>
        simp only[HM.run,Option.some.injEq,Prod.mk.injEq]at hm
        obtain⟨rfl,rfl⟩:=hm
        have hus:us=[]:=by grind
        have:=Qbn (P:=P) (ty:=ty) (base:=base) (dlen:=0) (dcap:=0) ht ht2 hd2 hi S.lenOf (S.first w rfl) (by omega)
        rw[hus]at this
        refine .here H (cv:= .slice base 0 0) ?_ (by simp[VRel])
        rw[this]
        cases base<;>simp[storeCells]
      | succ n =>
        obtain⟨b,g,hlim,hg,hm⟩:=Qde hm
        simp only[HM.run,Option.some.injEq,Prod.mk.injEq]at hm
        obtain⟨rfl,rfl⟩:=hm
        simp only[slLen,Nat.zero_add]at hb hb2
        exact fresh base hold b g hlim hg (by omega) hb (by omega)
    case fsl cs len s'=>
      cases n with
      | zero =>
        simp only[HM.run,Option.some.injEq,Prod.mk.injEq]at hm
        obtain⟨rfl,rfl⟩:=hm
        have hus:us=[]:=by grind
        have hx':=hx
        simp only[VRel]at hx
        rcases hx with⟨⟨a,rfl⟩,_,_⟩|⟨cb,off,cap,C,e',fr,rfl,hlc,_⟩
        · refine .here H (cv := .slice a 0 0) ?_ hx'
          rw[Qbn (P:=P) (ty:=ty) (base:=a) (dlen:=0) (dcap:=0) ht ht2 hd2 hi S.lenOf (S.first w rfl) (by omega),hus]
          cases a<;>simp[storeCells]
        · refine .here H (cv := .slice (some ⟨cb, off, none⟩) len cap) ?_ hx'
          rw[Qbn (P:=P) (ty:=ty) (dlen:=len) (dcap:=cap) ht ht2 hd2 hi S.lenOf (S.first w rfl) (by omega),hus]
          simp[storeCells]
      |succ n=>simp[HM.run]at hm
    case sl b g off len s' =>
      simp only[slLen]at hb hb2
      split at hm
      · rename_i e1; subst e1
        obtain⟨cs,hbk,hm⟩:=Qbg hm
        split at hm
        · rename_i hl
          obtain⟨hlim,hm⟩:=Qa3 hm
          simp only[HM.run,Option.some.injEq,Prod.mk.injEq]at hm
          obtain⟨rfl,rfl⟩:=hm
          have hlater:∀y,g<y->c.ρ b y=none:=fun y hy=>H.later b _ hbk y hy
          have hxx:=hx
          simp only[VRel]at hx
          rcases hx with⟨hp,rfl,rfl,rfl⟩|⟨cb,base,o,cap,C,e',fr,hp,rfl,hlc,hC,hcap⟩
          · -- nil so far
            have hcs:cs=[]:=by
              rcases H.blk b _ hbk with⟨_,h2⟩|⟨_,_,_,_,_,h1,_⟩
              · exact h2
              simp_all
            subst hcs
            simp only[Nat.zero_add,Nat.zero_mul,List.drop_nil,List.take_nil,List.nil_append]
            by_cases hn:n=0
            · subst hn
              have hys:ys=[]:=by grind
              have hus:us=[]:=by grind
              subst hys
              obtain⟨E,H'⟩:=H.putNil (b:=b) (g:=g+1) hlim (fun y hy=>hlater y (by omega)) (.inl (hlater _ (by omega)))
              refine⟨.slice none 0 0,_,w,?_,E,H',?_⟩
              · rw[Qbn (P:=P) (ty:=ty) (base:=none) (dlen:=0) (dcap:=0) ht ht2 hd2 hi S.lenOf (S.first w rfl) (by omega)]
              simp_all [VRel,Qa6]
            · exact fresh none (fun w1=>by simp[Builtin.firstCells]) b (g+1) hlim (.inr ⟨_,hbk,rfl⟩) (by omega) (by simpa using hb) (by omega)
          · obtain ⟨C', e2, fr', hO, hC', hfr, hbs, hpre⟩ := H.here hbk hp
            rw[hC]at hC';cases hC'
            have hlt:=Qbd hC
            have hcl:=Qbk hpre
            simp at hcl
            have htake:=QaF hpre off (len*ti.size) hl
            rw[List.drop_drop]at htake
            by_cases hroom:len+n<=cap
            · -- in place
              have hrun:=Qbn (P:=P) (w:=w) (ty:=ty) (base:=some ⟨cb,o,none⟩) (dlen:=len) (dcap:=cap) ht ht2 hd2 hi S.lenOf (S.first w rfl) hroom
              simp only[QbQ]at hrun
              by_cases hc0:cap=0
              · have hl0 : len = 0 := by omega
                have hn0:n=0:=by omega
                subst hl0;subst hn0;subst hc0
                have hys:ys=[]:=by grind
                have hus:us=[]:=by grind
                subst hys;subst hus
                simp only[Nat.zero_mul,List.take_zero,List.nil_append,storeCells,Sem.run_pure,Result.andThen_ok]at hrun⊢
                have:=H.put (b:=b) (cb:=cb) (base:=base) (x:= .cells (g+1) []) (w':=w) hlim (fun y hy=>hlater y (by grind [Blk.gen])) (.inl (hlater _ (by simp[Blk.gen]))) (.inr ⟨g,base,⟨_,hbk,rfl,fun k=>by simp⟩,hp⟩) rfl rfl rfl (Nat.le_refl _) hlt (fun _ _ _=>rfl) (fun C2 e2 fr2 h2=>⟨C2,fr2,h2,rfl⟩)
                  (fun E=> .inr ⟨cb,base,C,e',fr,Qa6,.inr rfl,hC,hfr,hbs,by simp[VPre]⟩)
                refine⟨_,_,_,hrun,this.1,this.2,?_⟩
                simp only[VRel]
                exact .inr ⟨cb,base,o,0,C,e',fr,Qa6,rfl,by omega,hC,.inl rfl⟩
              · obtain ⟨rfl, hbnd⟩ := hcap.resolve_left hc0
                have hmul:(len+n)*ti.size<=cap*ti.size:=Nat.mul_le_mul_right _ hroom
                rw[Nat.add_mul]at hmul
                have hst:=Qdc (P:=P) (cb:=cb) (o:=base+off+len*ti.size) us 0 w C hC hfr (by omega) hones
                simp only[Nat.add_zero]at hst
                rw[hst]at hrun
                simp only[Result.andThen_ok]at hrun
                have hpl:(putL C.toList (base+off+len*ti.size) us).length=C.size:=by
                  grind [Qep]
                have:=H.put (b:=b) (cb:=cb) (base:=base+off) (x:= .cells (g+1) (List.take (len*ti.size) (List.drop off cs)++ys)) (w':=upd w cb (.cells (putL C.toList (base+off+len*ti.size) us).toArray e' fr)) hlim
                  (fun y hy=>hlater y (by grind [Blk.gen])) (.inl (hlater _ (by simp[Blk.gen]))) (.inr ⟨g,base,⟨_,hbk,rfl,fun k=>by simp⟩,hp⟩) rfl rfl rfl (by simp[upd]) (by simp_all [upd]) (fun k _ hne=>Qfm hne)
                  (fun C2 e2 fr2 h2=>by
                    simp_all [Qdb])
                  (fun E=> .inr ⟨cb,base+off,_,e',fr,Qa6,.inr rfl,Qdb hlt,by simp_all,by grind,by
                    have e5:=QnN (C:=C.toList) (us:=us) (base:=base+off) (off:=len*ti.size) (by simp;omega)
                    rw[List.toList_toArray,e5]
                    exact Qg0 (Qbx (VRels.mono (E.ext H.disj) _ _ htake) (VRels.mono (E.ext H.disj) _ _ S.rels))⟩)
                refine⟨_,_,_,hrun,this.1,this.2,?_⟩
                simp only[VRel]
                exact .inr ⟨cb,base+off,base+off,cap,_,e',fr,Qa6,rfl,hroom,Qdb hlt,.inr ⟨by omega,by simp_all⟩⟩
            · -- it grows
              obtain⟨olds,So⟩:=Qeq (P:=P) H hxx hbk hl
              have hrun:=Qcb (P:=P) (w:=w) (ty:=ty) (t:=t) (t2:=t2) (dlen:=len) (dcap:=cap) (base:=some ⟨cb,o,none⟩) (cy:=cy) (olds:=olds) (us:=us) ht ht2 hd2 hi hz S.lenOf S.first So.first (by omega) hb (by omega)
              have hgl:=Qg3 w (need:=len+n) (old:=cap) e
              have hol:=QaC So.rels
              have hol2:=So.len
              obtain⟨c',E',H',V'⟩:=QeM H hlim (.inr ⟨_,hbk,rfl⟩:h.get b=none/\g+1=0\/∃z,h.get b=some z/\g+1=z.gen+1) (e:=e) (rest:=(Builtin.zeroCells z.cells (grownCap w (len+n) cap e-(len+n))).toList) (Qbx So.rels S.rels) (len:=len+n) (cap:=grownCap w (len+n) cap e) (sz:=ti.size) hgl (by
                have hz1:=QcA z.cells (grownCap w (len+n) cap e-(len+n))
                rw[hzs]at hz1
                simp only[List.length_append,Array.length_toList,hz1,<-hul,hyl,<-hol,hol2]
                rw[<-Nat.add_mul,<-Nat.add_mul]
                simp_all)
              exact⟨_,c',_,hrun,E',H',V'⟩
        grind [HM.run]
      grind [HM.run]
    case typed tt mm y=>
      cases mm with
      |zero=>simp[HM.run]at hm
      | succ m =>
        cases y<;>try (simp[HM.run]at hm;done)
        rename_i b g off len s'
        dsimp only at hm
        split at hm
        · rename_i hc
          obtain⟨rfl,hpos,hroom⟩:=hc
          obtain⟨cs,hbk,hm⟩:=Qbg hm
          split at hm
          · rename_i hl
            obtain⟨hlim,hm⟩:=Qa3 hm
            simp only[HM.run,Option.some.injEq,Prod.mk.injEq]at hm
            obtain⟨rfl,rfl⟩:=hm
            simp only[VRel]at hx
            obtain⟨hty,hx⟩:=hx
            rcases hx with⟨hp,rfl,rfl,rfl⟩|⟨cb,base,o,cap,C,e',fr,hp,rfl,hlc,hC,hcap⟩
            · have := hty.room
              omega
            · have hcm := hty.room
              obtain⟨rfl,hbd⟩:=hcap.resolve_left (by omega)
              have hrun:=Qbn (P:=P) (ty:=ty) (base:=some ⟨cb,base+off,none⟩) (dlen:=len) (dcap:=cap) ht ht2 hd2 hi S.lenOf (S.first w rfl) (by omega)
              simp only[QbQ,Nat.add_assoc]at hrun
              obtain⟨c',w',hst,E,H'⟩:=Qdd (P:=P) (off:=off+len*ti.size) H hbk hlim hp (by rw[hyl,Nat.add_assoc,<-Nat.add_mul];exact hl) S.rels hones
              rw[hst]at hrun
              simp only[Result.andThen_ok]at hrun
              obtain⟨C',fr',hC',hsz⟩:=E.shape _ _ _ _ hC
              refine⟨_,c',w',hrun,E,H',?_⟩
              simp only[VRel]
              exact⟨.inr ⟨by omega,_,_,_,rfl,by omega⟩,.inr ⟨cb,base,_,cap,C',e',fr',E.rho _ _ _ hp,rfl,by omega,hC',.inr ⟨rfl,by omega⟩⟩⟩
          · simp[HM.run]at hm
        · simp[HM.run]at hm
  simp_all [if_neg,HM.run]
end Go.AM
