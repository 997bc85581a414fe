/- A part of the proof of CellPlantsCardSaid: lemmas on the way (AmT, AmNa). Conditions: none of ours. -/
import Derived.Laws.IdiomRangeMap
import Derived.Test.YtmoanlnleppcpaaGreatDoorAmZ7
set_option linter.unusedSectionVars false
set_option maxHeartbeats 32000000
set_option maxRecDepth 100000
set_option linter.unusedVariables false
set_option linter.unusedSimpArgs false
namespace Go.AM
variable {P:Program} {ok':Okc} {c:Ctx ok'} {w:World} {h:Heap}
def upo (w:World) (r:Nat) (o:Obj):World:={w with heap:=w.heap.setIfInBounds r o}
theorem Qnd {r:Nat} {o:Obj} (hr:r<w.heap.size):(upo w r o).heap[r]?=some o:=by
 simp[upo,hr]
theorem QbN {r k:Nat} {o:Obj} (hk:k≠r):(upo w r o).heap[k]?=w.heap[k]?:=by
 simp[upo,Array.getElem?_setIfInBounds_ne (Ne.symm hk)]
theorem Qde {r:Nat} {o:Obj}:(upo w r o).heap.size=w.heap.size:=by simp[upo]
theorem HRel.other (H:HRel c h w) {r:Nat} {o o':Obj} (hr:w.heap[r]?=some o) (hc:∀C e fr,o≠ .cells C e fr) (hO:¬c.O r) (hF:¬c.F r):
  Ext c w c (upo w r o')/\HRel c h (upo w r o'):=by
 have E:Ext c w c (upo w r o'):=by
  refine⟨fun _ _ _ h=>h,fun _ h=>h,fun cb ob hf hb=>?_,fun cb C e fr hb=>?_⟩
  ·rw[QbN (by intro e;subst e;exact hF hf)];exact hb
  ·refine ⟨C, fr, ?_, rfl⟩
   rw[QbN (fun e2=>by subst e2;rw[hr]at hb;cases hb;exact hc _ _ _ rfl)];exact hb
 refine⟨E,H.fresh,H.later,fun b x hg=>?_,H.inj,H.disj,fun k hk=>by rw[Qde];exact H.inF k hk,fun k hk=>by rw[Qde];exact H.inO k hk⟩
 refine BRel.mono E (fun cb base hd hp=>?_) (H.blk b x hg)
 have hOc:=H.owned ⟨x,hg,rfl,hd⟩ hp
 exact⟨hOc,QbN (by intro e;subst e;exact hO hOc)⟩
def Ctx.name {ok':Okc} (c:Ctx ok') (b r:Nat):Ctx ok':={c with ρ:=fun x y=>if x=b/\y=0 then some (.loc r 0)else c.ρ x y}
theorem HRel.name (H:HRel c h w) {b r:Nat} (hb:h.get b=none) (hl:b<lim):Evo c w (c.name b r) w/\HRel (c.name b r) (h.set b (.dead 0)) w:=by
 have E:Evo c w (c.name b r) w:=by
  refine⟨rfl,rfl,rfl,Nat.le_refl _,fun _ C _ fr h=>⟨C,fr,h,rfl⟩,fun _ _ _=>rfl,?_,fun _ h=>h,fun _ h=> .inl h,fun _ h=> .inl h,rfl⟩
  intro x y p hp
  show(if x=b/\y=0 then some (Place.loc r 0)else c.ρ x y)=some p
  by_cases e:x=b/\y=0
  ·obtain ⟨rfl, rfl⟩ := e
   rw[H.fresh _ hb]at hp;cases hp
  ·rw[if_neg e];exact hp
 have hne:∀{x y:Nat},x≠b->(c.name b r).ρ x y=c.ρ x y:=by
  intro x y hx
  show(if x=b/\y=0 then some (Place.loc r 0)else c.ρ x y)=_
  rw[if_neg (fun e=>hx e.1)]
 refine⟨E,?_,?_,?_,?_,H.disj,H.inF,H.inO⟩
 ·intro x hx g
  rw[Tr.QaB _ hl]at hx
  by_cases e:x=b
  ·rw[if_pos e]at hx;cases hx
  ·rw[if_neg e]at hx;rw[hne e];exact H.fresh x hx g
 ·intro x z hx g hg
  rw[Tr.QaB _ hl]at hx
  by_cases e:x=b
  ·rw [if_pos e] at hx; cases hx
   subst e
   show(if x=x/\g=0 then some (Place.loc r 0)else c.ρ x g)=none
   rw[if_neg (by simp only[Blk.gen]at hg;omega)]
   exact H.fresh _ hb g
  ·rw[if_neg e]at hx;rw[hne e];exact H.later x z hx g hg
 ·intro x z hx
  rw[Tr.QaB _ hl]at hx
  by_cases e:x=b
  ·rw[if_pos e]at hx;cases hx;trivial
  ·rw [if_neg e] at hx
   refine BRel.mono (E.ext H.disj) (fun cb base hd hp=>?_) (H.blk x z hx)
   exact⟨H.owned ⟨z,hx,rfl,hd⟩ hp,rfl⟩
 ·intro x g x' g' cb base base' l l' p p'
  have live:∀{x g:Nat},Live (h.set b (.dead 0)) x g->x≠b/\Live h x g:=by
   rintro x g ⟨z,hz,hg,hd⟩
   rw[Tr.QaB _ hl]at hz
   by_cases e:x=b
   ·rw[if_pos e]at hz;cases hz;exact absurd rfl (hd 0)
   ·rw[if_neg e]at hz;exact⟨e,z,hz,hg,hd⟩
  obtain⟨n1,l1⟩:=live l
  obtain⟨n2,l2⟩:=live l'
  rw[hne n1]at p
  rw[hne n2]at p'
  exact H.inj _ _ _ _ _ _ _ l1 l2 p p'
theorem Qhi:∀{xs:List (AV×AV)} {es:List MapEntry} {n k:Nat},MRel c w xs es n->k+xs.length=n->∀(i:Nat) (e:MapEntry),es[i]?=some e->e.born=k+i/\i<xs.length
 |[],es,n,k,hm,hk,i,e,hi=>by simp only[MRel]at hm;subst hm;simp at hi
 | (x, y) :: xs, es, n, k, hm, hk, i, e, hi => by
  simp only[MRel]at hm
  obtain⟨e0,es',rfl,_,_,_,h4,h5⟩:=hm
  simp only[List.length_cons]at hk
  cases i with
  |zero=>simp at hi;subst hi;exact⟨by omega,by simp⟩
  |succ i=>
   simp at hi
   obtain⟨h6,h7⟩:=Qhi h5 (k:=k+1) (by omega) i e hi
   exact⟨by omega,by simp;omega⟩
theorem QjS {ty:TypeId} {r bm since c0 clock:Nat} {seen:Array Nat} {es:Array MapEntry} (hr:w.heap[r]?=some (.mapIter (some bm) since seen c0)) (hb:w.heap[bm]?=some (.map es clock))
    (hold:∀x∈es.toList,x.born<since) (hsc:since<=c0):
    ((leftOf es seen).size=0/\(Instr.next (.pointer (some ⟨r,0,none⟩)) false ty).run P w= .ok (.tuple #[.bool false]) w)\/
    ∃e∈(leftOf es seen).toList,∃w1:World,(w1=w\/w1=w.drew)/\(Instr.next (.pointer (some ⟨r,0,none⟩)) false ty).run P w= .ok (.tuple #[.bool true,e.key,e.val]) (upo w1 r (.mapIter (some bm) since (seen.push e.born) clock)):=by
  simp only[Instr.next,getObj,Sem.run_bind,Sem.run,hr,hb,Result.andThen,next_test_false seen es since c0 hold hsc,Bool.false_eq_true,if_false]
  unfold leftOf
  have hmem:∀x∈(Array.filter (fun e=> !seen.contains e.born) es).toList,x.born<since:=fun x hx=>hold x (by simp at hx⊢;exact hx.1)
  generalize Array.filter (fun e=> !seen.contains e.born) es=L at hmem⊢
  have e1:L.filter (fun x=>decide (x.born<since))=L:=Array.filter_eq_self.2 (fun x hx=>by simpa using hmem x (by simpa using hx))
  have e2:L.filter (fun x=>decide (x.born≥since))= #[]:=by
    rw[Array.filter_eq_empty_iff]
    intro x hx
    have:=hmem x (by simpa using hx)
    simp
    omega
  simp only[e1,e2,Array.append_empty]
  by_cases h0:L.size=0
  · left
    have:L= #[]:=Array.eq_empty_of_size_eq_zero h0
    subst this
    refine⟨rfl,?_⟩
    simp[choose,Sem.run,Question.forced]
  · right
    have hne:L.isEmpty=false:=by simp[Array.isEmpty,h0]
    simp only[hne,Bool.false_eq_true,if_false,Array.empty_append,Array.size_map]
    have hch:∃(j:Nat) (w1:World),j<L.size/\(w1=w\/w1=w.drew)/\(choose (Question.mapNext L.size)).run P w= .ok j w1:=by
      by_cases hf:L.size<=1
      · exact⟨0,w,by omega,.inl rfl,by simp[choose,Sem.run,Question.forced,hf]⟩
      · exact⟨_,w.drew,Nat.mod_lt _ (by omega),.inr rfl,by
          simp only[choose,Sem.run,Question.forced,decide_eq_true_eq,hf,if_false,Question.cut]
          rfl⟩
    obtain⟨j,w1,hj,hal,hrun⟩:=hch
    refine⟨L[j],by simp,w1,hal,?_⟩
    have hr1:w1.heap[r]?=some (.mapIter (some bm) since seen c0):=by rcases hal with rfl|rfl<;>exact hr
    have hset:∀(o':Obj),(setObj r o').run P w1= .ok () (upo w1 r o'):=fun o'=>by
      simp[setObj,Sem.run,hr1,upo]
    simp only[hrun,Array.getElem?_map,Array.getElem?_eq_getElem hj,Option.map_some,Sem.run_bind,hset,Result.andThen]
    rfl
theorem Qiu {r bm since clock:Nat} {seen:Array Nat} {es:Array MapEntry} {e:MapEntry} (hr:w.heap[r]?=some (.mapIter (some bm) since (seen.push e.born) clock)) (hb:w.heap[bm]?=some (.map es clock))
  (he:e∈es.toList) (hn:(es.toList.map (·.born)).Nodup):(Instr.entry (.pointer (some ⟨r,0,none⟩))).run P w= .ok (.tuple #[e.key,e.val]) w:=by
 have hf:es.find? (·.born==e.born)=some e:=by rw[<-Array.find?_toList];exact find_born e es.toList hn he
 simp only[Instr.entry,getObj,Sem.run_bind,Sem.run,hr,hb,Result.andThen,Array.back?_push,bne_self_eq_false,Bool.false_eq_true,if_false,hf]
 rfl
theorem QbV {ops:Array Oper} {o:Oper} {i:Nat} {Q:Exit->Act->World->Prop} {K:Act->World->Prop} {a:Act} {w':World} {cv:Value} (ho:ops[i]?=some o) (hg:o.guard=none)
  (hr:(execOp a.eval o).run P w= .ok (.value cv) w') (hK:K (a.put o.dst cv) w'):wpOpIn (FW none) 0 P ops Q i K a w:=by
 unfold wpOpIn
 rw[ho]
 have:Region.wanted o (yielded ops a.tmps)=true:=by simp[Region.wanted,hg]
 simp only[this,if_true]
 refine⟨fun _ _=>trivial,?_⟩
 show o.uponIn (FW none) 0 P a K Q ((o.semAt none a.eval).run P w)
 rw[Oper.semAt_none,hr]
 exact hK
theorem QgK {N base:Nat} {ops:Array Oper} {Q:Exit->Act->World->Prop} {C:St} {c0:Ctx (okc P)} {w0:World} {tl:List Nat}
  (hQ:∀c a w,SRel N c C a w->Evo c0 w0 c w->wpOpsIn (FW none) 0 P ops Q tl a w):
  ∀(l:List SOper) (i j:Nat) (fs:List FP) (A:St) (c:Ctx (okc P)) (a:Act) (w:World),(∀k s,l[k]?=some s->∃o,ops[i+k]?=some o/\okOper P N ops o s=true)->RunF P base j l fs A C->SRel N c A a w->Evo c0 w0 c w->
   wpOpsIn (FW none) 0 P ops Q (List.range' i l.length++tl) a w
 |[],i,j,fs,A,c,a,w,hok,hr,S,E=>by
  obtain⟨_,rfl⟩:=hr
  simpa using hQ c a w S E
 |s::l,i,j,fs,A,c,a,w,hok,hr,S,E=>by
  obtain⟨f,fs',v,h1,_,hs,hr⟩:=hr
  rw[List.length_cons,List.range'_succ,List.cons_append,wpOpsIn_cons]
  obtain⟨o,ho,hk⟩:=hok 0 s rfl
  rw[Nat.add_zero]at ho
  refine Qd6 S ho hk hs fun c' a' w' S' E'=>?_
  refine QgK hQ l (i+1) (j+1) fs' _ c' a' w' ?_ hr S' (E.trans E')
  intro k s' hk'
  obtain⟨o',ho',hok'⟩:=hok (k+1) s' (by simpa using hk')
  exact⟨o',by rw[<-ho'];congr 1;omega,hok'⟩
theorem Qld {code:Code} {p:MLParts} (h:mlParts code=some p):∃i6 i7 i8,code= .seq (.region i6 p.ops6 false) (.block p.b (.loop (.seq (.region i7 p.ops7 false) (.seq (.cond (.tmp p.c) .skip (.exit p.b')) (.block p.b3 (.seq (.region i8 p.ops8 false) p.body)))))):=by
 unfold mlParts at h
 split at h
 ·cases h;exact⟨_,_,_,rfl⟩
 ·cases h
theorem QlR {b r:Nat}:VRel (c.name b r) w (.ptr b 0 0) (.pointer (some ⟨r,0,none⟩)):=by
 simp only[VRel]
 exact⟨r,0,by show(if b=b/\0=0 then some (Place.loc r 0)else _)=_;simp,by simp⟩
structure IterAt {ok':Okc} (c:Ctx ok') (w:World) (b r mb mg n:Nat) (vis:List Nat) (m:Nat) (seen:Array Nat):Prop where
 name:c.ρ b 0=some (.loc r 0)
 free:¬c.O r/\¬c.F r/\r<w.heap.size
 obj:w.heap[r]?=some (.mapIter (some m) n seen n)
 place:c.ρ mb mg=some (.loc m 0)
 seen:∀i,i<n->(seen.contains i=true↔i∈vis)
theorem IterAt.evo {b r mb mg n m:Nat} {vis:List Nat} {seen:Array Nat} {c':Ctx ok'} {w':World} (I:IterAt c w b r mb mg n vis m seen) (E:Evo c w c' w'):IterAt c' w' b r mb mg n vis m seen:=
  ⟨E.rho _ _ _ I.name,⟨fun h=>(E.own r h).elim I.free.1 (fun h=>absurd I.free.2.2 (by omega)),fun h=>(E.frzNew r h).elim I.free.2.1 (fun h=>h.elim I.free.1 (fun h=>absurd I.free.2.2 (by omega))),Nat.lt_of_lt_of_le I.free.2.2 E.size⟩,
    by rw[E.keep r I.free.2.2 I.free.1];exact I.obj,E.rho _ _ _ I.place,I.seen⟩
theorem QdO {N:Nat} {A:St} {a:Act} {d:Nat} {v:AV} {cv:Value} (S:SRel N c A a w) (hd:d<N) (V:VRel c w v cv):SRel N c ⟨up A.T d v,A.h⟩ (a.put (some d) cv) w:=by
 have:=S.put (dst:=some d) (.refl c w) S.heap (fun e he=>by cases he;exact hd) V
 exact this
theorem Marks.turn {r:Nat} {o o':Obj} (hr:w.heap[r]?=some o) (hn:o≠ .deferred (some [])):∀{ds:List Deferred},Marks c w ds->Marks c (upo w r o') ds
 |[],h=>by show c.base<=_;rw[Qde];exact h
 |d::ds,⟨⟨D,h1,h2,h3,h4,h5,h6⟩,hm⟩=>
  ⟨⟨D,h1,h2,h3,h4,by rw[QbN (fun e=>by subst e;rw[hr]at h5;cases h5;exact hn rfl)];exact h5,h6⟩,Marks.turn hr hn hm⟩
theorem SRel.turn {N:Nat} {A:St} {a:Act} {r:Nat} {o o':Obj} (S:SRel N c A a w) (hr:w.heap[r]?=some o) (hc:∀C e fr,o≠ .cells C e fr) (hO:¬c.O r) (hF:¬c.F r) (hn:o≠ .deferred (some [])):SRel N c A a (upo w r o'):=by
 obtain⟨E,H⟩:=S.heap.other (o':=o') hr hc hO hF
 exact⟨H,fun i=>VRel.mono E _ _ (S.tmps i),S.size,S.defers.turn hr hn⟩
theorem Evo.turn {c0:Ctx ok'} {w0:World} (E:Evo c0 w0 c w) {r:Nat} {o':Obj} (hr:w0.heap.size<=r):Evo c0 w0 c (upo w r o'):=
  ⟨E.os,E.tape,E.output,by rw[Qde];exact E.size,
    fun cb C e fr hb=>by
      obtain⟨C',fr',h1,h2⟩:=E.shape cb C e fr hb
      exact⟨C',fr',by rw[QbN (by have:=QaE hb;omega)];exact h1,h2⟩,
    fun cb hlt hO=>by rw[QbN (by omega)];exact E.keep cb hlt hO,E.rho,E.frz,E.frzNew,E.own,E.base⟩
theorem QeE {i:Nat}:∀(L:List Nat),i∈L->(L.filter fun j=>j≠i).length<L.length
 |[],h=>by cases h
 | y :: L, hmem => by
  rcases List.mem_cons.1 hmem with h|h
  ·subst h
   simp only[List.filter_cons,ne_eq,not_true_eq_false,decide_false,Bool.false_eq_true,if_false,List.length_cons]
   have:=List.length_filter_le (fun j=>decide (j≠i)) L
   simp only[ne_eq]at this
   omega
  ·have := QeE L h
   rw[List.filter_cons]
   split
   ·simp only[List.length_cons];omega
   ·simp only[List.length_cons];omega
theorem W.mloop {N n : Nat} {Q : SX -> St -> Prop} {A B0 : St} {pre rest : List SOper} {x : Opd} {it nx ok en b1 b2 : Nat} {body : SCode} (base : Nat) (fs : List FP) (hr : RunF P base 0 pre fs A B0)
  {mb mg:Nat} {es:List (AV×AV)} (hx:ev B0.T x= .map mb mg) (hm:B0.h.get mb=some (.map mg es)) (hn:B0.h.get n=none) (hnl:n<lim)
  (I:List Nat->St->Prop) (hI:∀vis B,I vis B->lk B.T it= .ptr n 0 0/\∃es',B.h.get mb=some (.map mg es')/\es'.length=es.length)
  (h0:I [] ⟨up B0.T it (.ptr n 0 0),B0.h.set n (.dead 0)⟩)
  (round : ∀ vis B i k v es', I vis B -> i ∉ vis -> B.h.get mb = some (.map mg es') -> es'[i]? = some (k, v) -> ∃ bs fs C, RunF P bs 0 rest fs ⟨up (up (up B.T nx .any) ok (.bool true)) en (.tup [k, v]), B.h⟩ C /\
   W P N body (fun e D=>match e with
    | .normal=>I (i::vis) D
    | .exit j=>if j=b2 then I (i::vis) D else if j=b1 then Q .normal D else Q (.exit j) D
    | .ret=>Q .ret D) C)
  (done:∀vis B,I vis B->(∀i,i<es.length->i∈vis)->Q .normal ⟨up (up B.T nx .any) ok (.bool false),B.h⟩):W P N (.mloop pre x it nx ok en b1 b2 rest body) Q A:=by
 intro code hok c0 a0 w0 S0 ro hro Q' hQ
 have:=hro rfl
 subst this
 simp only[okCode]at hok
 split at hok
 ·rename_i p hp
  simp only[Bool.and_eq_true,beq_iff_eq]at hok
  obtain⟨⟨⟨⟨⟨⟨⟨o6,ob⟩,o7⟩,oc⟩,ob'⟩,ob3⟩,o8⟩,obd⟩:=hok
  obtain⟨i6,i7,i8,rfl⟩:=Qld hp
  rw[ob,oc,ob',ob3]
  unfold okRange at o6
  split at o6
  ·rename_i o ho
   simp only[Bool.and_eq_true,beq_iff_eq,decide_eq_true_eq,Option.isNone_iff_eq_none]at o6
   obtain⟨⟨⟨⟨⟨g1,g2⟩,g3⟩,g4⟩,g5⟩,g6⟩:=o6
   obtain⟨k1,k2⟩:=QcJ g6
   have hpre:∀k s,pre[k]?=some s->∃o,p.ops6[0+k]?=some o/\okOper P N p.ops6 o s=true:=by
    intro k s hs
    have hlt:k<pre.length:=(List.getElem?_eq_some_iff.1 hs).1
    have hlt6:k<p.ops6.size:=by omega
    have e1:(p.ops6.toList.take pre.length)[k]?=some p.ops6[k]:=by
     rw[List.getElem?_take,if_pos hlt];simp[hlt6]
    obtain⟨s',hs',hk⟩:=k2 k _ e1
    rw[hs]at hs';cases hs'
    exact⟨p.ops6[k],by simp[hlt6],hk⟩
   refine wpIn_seq (wpIn_region ?_)
   rw[g5,show List.range (pre.length+1)=List.range' 0 pre.length++[pre.length] by rw[List.range_succ,List.range_eq_range']]
   refine QgK (c0:=c0) (w0:=w0) ?_ pre 0 0 fs A c0 a0 w0 hpre hr S0 (.refl _ _)
   intro c a w S E
   rw[wpOpsIn_cons]
   split at g4
   ·rename_i t y hop
    simp only[Bool.and_eq_true]at g4
    obtain⟨gt,gx⟩:=g4
    have hxr:=Qaf S.tmps gx
    rw[hx]at hxr
    simp only[VRel]at hxr
    obtain⟨m,hpm,hym⟩:=hxr
    obtain⟨ms,clock,hOm,hCm,hRm,hcl⟩:=S.heap.atMap hm hpm
    obtain⟨kt,et,hu⟩:∃kt et,P.underlying t=some (.map kt et):=by
     unfold isMapT at gt
     split at gt
     ·rename_i kt et hu;exact⟨kt,et,hu⟩
     ·cases gt
    have hrun:(execOp a.eval o).run P w= .ok (.value (.pointer (some ⟨w.heap.size,0,none⟩))) (w.alloc (.mapIter (some m) clock #[] clock)):=by
     have e1:execOp a.eval o=(do pure (.value (<-Instr.range t (a.eval y)))):=by
      cases o;simp only at hop;subst hop;rfl
     rw[e1,hym]
     simp[run_range_map w t kt et m ms clock hu hCm]
    refine QbV ho g3 hrun ?_
    show Exit.then _ _ .normal _ _
    rw[g1]
    obtain⟨E1,H1⟩:=S.heap.grow (w':=w.alloc (.mapIter (some m) clock #[] clock)) rfl rfl rfl (by simp) (fun k hk=>by first|exact heap_alloc_old w _ hk|exact heap_alloc_old w _ k hk)
    obtain⟨E2,H2⟩:=H1.name (b:=n) (r:=w.heap.size) hn hnl
    have E02:Evo c0 w0 (c.name n w.heap.size) (w.alloc (.mapIter (some m) clock #[] clock)):=(E.trans E1).trans E2
    have S2:SRel N (c.name n w.heap.size) ⟨up B0.T it (.ptr n 0 0),B0.h.set n (.dead 0)⟩ (a.put (some it) (.pointer (some ⟨w.heap.size,0,none⟩))) (w.alloc (.mapIter (some m) clock #[] clock)):=
     S.put (dst:=some it) (E1.trans E2) H2 (fun d hd=>by cases hd;exact g2) QlR
    have hsz:w.heap.size<(w.alloc (.mapIter (some m) clock #[] clock)).heap.size:=by simp
    have J2:IterAt (c.name n w.heap.size) (w.alloc (.mapIter (some m) clock #[] clock)) n w.heap.size mb mg es.length [] m #[]:=by
     refine⟨?_,⟨fun hO=>absurd (S.heap.inO _ hO) (Nat.lt_irrefl _),fun hF=>absurd (S.heap.inF _ hF) (Nat.lt_irrefl _),hsz⟩,?_,E2.rho _ _ _ hpm,fun i _=>by simp⟩
     ·show(if n=n/\0=0 then some (Place.loc w.heap.size 0)else _)=_;simp
     ·rw[heap_alloc_new,hcl]
    have hr0':w0.heap.size<=w.heap.size:=E.size
    generalize w.heap.size=r at*
    generalize w.alloc (.mapIter (some m) clock #[] clock)=w2 at*
    generalize a.put (some it) (.pointer (some ⟨r,0,none⟩))=a2 at*
    generalize hB2:(⟨up B0.T it (.ptr n 0 0),B0.h.set n (.dead 0)⟩:St)=B2 at*
    generalize c.name n r=c2 at*
    refine wpIn_block ?_
    have key : ∀ (left : Nat) (vis : List Nat) (B : St) (c : Ctx (okc P)) (a : Act) (w : World) (m : Nat) (seen : Array Nat), ((List.range es.length).filter fun i => i ∉ vis).length = left -> I vis B -> SRel N c B a w -> Evo c0 w0 c w -> IterAt c w n r mb mg es.length vis m seen ->
      Lp none P (.seq (.region i7 p.ops7 false) (.seq (.cond (.tmp ok) .skip (.exit b1)) (.block b2 (.seq (.region i8 p.ops8 false) p.body)))) (fun e a' w'=>match e with| .exit j=>if j=b1 then Q' .normal a' w' else Q' (.exit j) a' w'|e=>Q' e a' w') a w:=by
     intro left
     induction left using Nat.strongRecOn with
     | _ left ih =>
      intro vis B c a w m seen hleft hIB S E J
      obtain⟨hit,es',hmapB,hel⟩:=hI vis B hIB
      have hv:=S.tmps it
      rw[hit]at hv
      simp only[VRel]at hv
      obtain⟨cb,bs,hp1,hv⟩:=hv
      rw[J.name]at hp1;cases hp1
      obtain⟨ms,clock,hOm,hCm,hRm,hcl⟩:=S.heap.atMap hmapB J.place
      have hlen:=Qbp hRm
      have hborn:∀(i:Nat) (e:MapEntry),ms.toList[i]?=some e->e.born=i/\i<es.length:=by
       intro i e hi
       have:=Qhi hRm (k:=0) (by omega) i e hi
       rw[hel]at this
       simpa using this
      have hold:∀y∈ms.toList,y.born<es.length:=by
       intro y hy
       obtain⟨i,hi⟩:=List.mem_iff_getElem?.1 hy
       obtain⟨h1,h2⟩:=hborn i y hi
       omega
      unfold okNext at o7
      split at o7
      ·rename_i oa ob7 h7
       simp only[Bool.and_eq_true,beq_iff_eq,decide_eq_true_eq,Option.isNone_iff_eq_none,Bool.not_eq_true',beq_eq_false_iff_ne]at o7
       obtain⟨⟨⟨⟨⟨⟨⟨⟨⟨q1,q2⟩,q3⟩,q4⟩,q5⟩,q6⟩,q7⟩,q8⟩,q9⟩,q10⟩:=o7
       have h7':p.ops7= #[oa,ob7]:=by apply Array.ext';simpa using h7
       have hround : (Code.seq (.region i7 p.ops7 false) (.seq (.cond (.tmp ok) .skip (.exit b1)) (.block b2 (.seq (.region i8 p.ops8 false) p.body)))).wpIn (FW none) 0 P (fun e a' w' => match e with
         | .normal=>∃left' vis' B' c' m' seen',left'<left/\((List.range es.length).filter fun i=>i∉vis').length=left'/\I vis' B'/\SRel N c' B' a' w'/\Evo c0 w0 c' w'/\IterAt c' w' n r mb mg es.length vis' m' seen'
         | .exit j=>if j=b1 then Q' .normal a' w' else Q' (.exit j) a' w'
         |e=>Q' e a' w') a w:=by
        refine wpIn_seq (wpIn_region ?_)
        rw[h7']
        show wpOpsIn (FW none) 0 P _ _ [0,1] a w
        rw[wpOpsIn_cons]
        split at q4
        ·rename_i j hopa
         have hji:j=it:=by simpa using q4
         subst hji
         split at q8
         ·rename_i j2 hopb
          have hj2:j2=nx:=by simpa using q8
          subst hj2
          have hevi:a.eval (.tmp j)= .pointer (some ⟨r,0,none⟩):=by simpa[Act.eval]using hv
          have eA:execOp a.eval oa=(do pure (.value (<-Instr.next (a.eval (.tmp j)) false oa.type))):=by
           cases oa;simp only at hopa;subst hopa;rfl
          have eB:∀(a:Act),execOp a.eval ob7=(do pure (.value (<-Instr.extract (a.eval (.tmp j2)) 0))):=by
           intro a
           cases ob7;simp only at hopb;subst hopb;rfl
          rcases QjS (P:=P) (ty:=oa.type) J.obj hCm hold (Nat.le_refl _)with⟨h1,h2⟩|⟨e,he,w1,hw1,h2⟩
          ·-- nothing is left
           refine QbV (by simp) q3 (cv:= .tuple #[.bool false]) (w':=w) (by rw[eA,hevi];simp[h2]) ?_
           rw[q1]
           have S1:SRel N c ⟨up B.T j2 .any,B.h⟩ (a.put (some j2) (.tuple #[.bool false])) w:=QdO S q2 (by simp[VRel])
           have hl1:j2<(a.put (some j2) (.tuple #[.bool false])).tmps.size:=by rw[S1.size];exact q2
           have hev1:(a.put (some j2) (.tuple #[.bool false])).eval (.tmp j2)= .tuple #[.bool false]:=by
            have hl0:j2<a.tmps.size:=by rw[S.size];exact q2
            simp[Act.eval,Act.put,hl0]
           rw[wpOpsIn_cons]
           refine QbV (by simp) q7 (cv:= .bool false) (w':=w) (by rw[eB,hev1];simp[Instr.extract]) ?_
           rw[q5]
           have S2:SRel N c ⟨up (up B.T j2 .any) ok (.bool false),B.h⟩ ((a.put (some j2) (.tuple #[.bool false])).put (some ok) (.bool false)) w:=QdO S1 q6 (by simp[VRel])
           show Exit.then _ _ .normal _ _
           refine wpIn_seq ?_
           have hc2:((a.put (some j2) (.tuple #[.bool false])).put (some ok) (.bool false)).eval (.tmp ok)= .bool false:=by
            have:=S2.tmps ok
            simp only[lk_up,if_true,VRel]at this
            simpa[Act.eval]using this
           refine wpIn_cond hc2 ?_
           refine wpIn_exit ?_
           show(if b1=b1 then Q' .normal _ _ else _)
           rw[if_pos rfl]
           refine hQ .normal _ c _ w (done vis B hIB ?_) S2 E
           intro i hi
           have hmi:i<ms.toList.length:=by omega
           have hbi:=hborn i ms.toList[i] (List.getElem?_eq_getElem hmi)
           refine(J.seen i hi).1 ?_
           cases hcs:seen.contains i with
           |true=>rfl
           | false =>
            exfalso
            have hmem:ms.toList[i]∈(leftOf ms seen).toList:=by
             unfold leftOf
             rw[Array.toList_filter]
             refine List.mem_filter.2 ⟨List.getElem_mem hmi,?_⟩
             rw[hbi.1,hcs];rfl
            have:(leftOf ms seen).toList.length=0:=by simpa using h1
            rw[List.length_eq_zero_iff.1 this]at hmem
            cases hmem
          ·-- an entry
           have hem:e∈ms.toList/\seen.contains e.born=false:=by
            unfold leftOf at he
            rw[Array.toList_filter]at he
            obtain⟨h3,h4⟩:=List.mem_filter.1 he
            exact⟨h3,by simpa using h4⟩
           obtain⟨i,hi⟩:=List.mem_iff_getElem?.1 hem.1
           obtain⟨hb1,hilt⟩:=hborn i e hi
           have hnv:i∉vis:=by
            intro hiv
            have:=(J.seen i hilt).2 hiv
            rw[<-hb1,hem.2]at this;cases this
           have hilt':i<es'.length:=by omega
           have hesi:es'[i]?=some es'[i]:=List.getElem?_eq_getElem hilt'
           obtain⟨e',he',hk1,hk2⟩:=Qda i hRm hesi
           rw[hi]at he';cases he'
           obtain⟨E1,H1⟩:=S.heap.drew
           have Sd:SRel N c B a w1/\Evo c w c w1:=by
            rcases hw1 with rfl|rfl
            ·exact⟨S,.refl _ _⟩
            ·exact⟨⟨H1,fun i=>VRel.mono (E1.ext S.heap.disj) _ _ (S.tmps i),S.size,S.defers.mono E1⟩,E1⟩
           have hr1:w1.heap[r]?=some (.mapIter (some m) es.length seen es.length):=by rcases hw1 with rfl|rfl<;>exact J.obj
           have hC1:w1.heap[m]?=some (.map ms clock):=by rcases hw1 with rfl|rfl<;>exact hCm
           have hmr:m≠r:=by intro e;subst e;have h9:=J.obj;rw[hCm]at h9;cases h9
           have S1:=Sd.1.turn (o':= .mapIter (some m) es.length (seen.push e.born) clock) hr1 (by intro _ _ _ h;cases h) J.free.1 J.free.2.1 (by intro h;cases h)
           have E1':Evo c0 w0 c (upo w1 r (.mapIter (some m) es.length (seen.push e.born) clock)):=(E.trans Sd.2).turn hr0'
           have hsz1:r<w1.heap.size:=by rcases hw1 with rfl|rfl<;>exact J.free.2.2
           have J1:IterAt c (upo w1 r (.mapIter (some m) es.length (seen.push e.born) clock)) n r mb mg es.length (i::vis) m (seen.push e.born):=by
            refine⟨J.name,⟨J.free.1,J.free.2.1,by rw[Qde];exact hsz1⟩,by rw[Qnd hsz1,hcl,hel],J.place,?_⟩
            intro j hj
            rw[Array.contains_push,List.mem_cons,hb1]
            by_cases hji:j=i
            ·simp[hji]
            ·have : (j == i) = false := by simpa using hji
             simp only[this,Bool.or_false,hji,false_or]
             exact J.seen j hj
           have hC2:(upo w1 r (.mapIter (some m) es.length (seen.push e.born) clock)).heap[m]?=some (.map ms clock):=by rw[QbN hmr];exact hC1
           generalize hw2:upo w1 r (.mapIter (some m) es.length (seen.push e.born) clock)=w2' at*
           refine QbV (by simp) q3 (cv:= .tuple #[.bool true,e.key,e.val]) (w':=w2') (by rw[eA,hevi];simp[h2]) ?_
           rw[q1]
           have S2:SRel N c ⟨up B.T j2 .any,B.h⟩ (a.put (some j2) (.tuple #[.bool true,e.key,e.val])) w2':=QdO S1 q2 (by simp[VRel])
           have hev1:(a.put (some j2) (.tuple #[.bool true,e.key,e.val])).eval (.tmp j2)= .tuple #[.bool true,e.key,e.val]:=by
            have hl0:j2<a.tmps.size:=by rw[S.size];exact q2
            simp[Act.eval,Act.put,hl0]
           rw[wpOpsIn_cons]
           refine QbV (by simp) q7 (cv:= .bool true) (w':=w2') (by rw[eB,hev1];simp[Instr.extract]) ?_
           rw[q5]
           have S3:SRel N c ⟨up (up B.T j2 .any) ok (.bool true),B.h⟩ ((a.put (some j2) (.tuple #[.bool true,e.key,e.val])).put (some ok) (.bool true)) w2':=QdO S2 q6 (by simp[VRel])
           show Exit.then _ _ .normal _ _
           refine wpIn_seq ?_
           have hc2:((a.put (some j2) (.tuple #[.bool true,e.key,e.val])).put (some ok) (.bool true)).eval (.tmp ok)= .bool true:=by
            have:=S3.tmps ok
            simp only[lk_up,if_true,VRel]at this
            simpa[Act.eval]using this
           refine wpIn_cond hc2 ?_
           refine wpIn_skip ?_
           show Exit.then _ _ .normal _ _
           refine wpIn_block (wpIn_seq (wpIn_region ?_))
           unfold okEntry at o8
           split at o8
           ·rename_i oe le h8
            simp only[Bool.and_eq_true,beq_iff_eq,decide_eq_true_eq,Option.isNone_iff_eq_none]at o8
            obtain⟨⟨⟨⟨z1,z2⟩,z3⟩,z4⟩,z5⟩:=o8
            obtain⟨y1,y2⟩:=QcJ z5
            have hs8:p.ops8.size=1+rest.length:=by
             have:p.ops8.toList.length=(oe::le).length:=by rw[h8]
             simp at this;omega
            have hg8:∀k,p.ops8[k]?=(oe::le)[k]?:=fun k=>by rw[<-h8,Array.getElem?_toList]
            rw[hs8,show List.range (1+rest.length)=0::(List.range' 1 rest.length++[]) by rw[List.range_eq_range',Nat.add_comm,List.range'_succ];simp]
            rw[wpOpsIn_cons]
            split at z4
            ·rename_i j3 hope
             have hj3:j3=j:=by simpa using z4
             subst hj3
             have eE:∀(a:Act),execOp a.eval oe=(do pure (.value (<-Instr.entry (a.eval (.tmp j3))))):=by
              intro a
              cases oe;simp only at hope;subst hope;rfl
             have hev3:((a.put (some j2) (.tuple #[.bool true,e.key,e.val])).put (some ok) (.bool true)).eval (.tmp j3)= .pointer (some ⟨r,0,none⟩):=by
              rw[<-hevi]
              simp[Act.eval,Act.put,Array.getElem?_setIfInBounds_ne q10,Array.getElem?_setIfInBounds_ne q9]
             have hnd:(ms.toList.map (·.born)).Nodup:=by
              refine List.pairwise_iff_getElem.2 ?_
              intro x y hxl hyl hxy
              simp only[List.length_map]at hxl hyl
              simp only[List.getElem_map]
              have a1:=hborn x _ (List.getElem?_eq_getElem hxl)
              have a2:=hborn y _ (List.getElem?_eq_getElem hyl)
              omega
             have hobj2:w2'.heap[r]?=some (.mapIter (some m) es.length (seen.push e.born) clock):=by rw[J1.obj,hcl,hel]
             refine QbV (by rw[hg8];rfl) z3 (cv:= .tuple #[e.key,e.val]) (w':=w2') (by rw[eE,hev3];simp[Qiu (P:=P) hobj2 hC2 hem.1 hnd]) ?_
             rw[z1]
             have vk:VRel c w2' (es'[i]).1 e.key/\VRel c w2' (es'[i]).2 e.val:=by
              obtain⟨X,_⟩:=Sd.1.heap.other (o':= .mapIter (some m) es.length (seen.push e.born) clock) hr1 (by intro _ _ _ h;cases h) J.free.1 J.free.2.1
              rw[hw2]at X
              exact⟨VRel.mono X _ _ (VRel.mono (Sd.2.ext S.heap.disj) _ _ hk1),VRel.mono X _ _ (VRel.mono (Sd.2.ext S.heap.disj) _ _ hk2)⟩
             have S4:SRel N c ⟨up (up (up B.T j2 .any) ok (.bool true)) en (.tup [(es'[i]).1,(es'[i]).2]),B.h⟩ (((a.put (some j2) (.tuple #[.bool true,e.key,e.val])).put (some ok) (.bool true)).put (some en) (.tuple #[e.key,e.val])) w2':=
              QdO S3 z2 (by simp only[VRel];exact⟨_,rfl,by simp only[VRels];exact⟨_,_,rfl,vk.1,_,_,rfl,vk.2,rfl⟩⟩)
             obtain⟨bs,fs8,C8,hr8,hbody⟩:=round vis B i (es'[i]).1 (es'[i]).2 es' hIB hnv hmapB hesi
             have hrest:∀k s,rest[k]?=some s->∃o,p.ops8[1+k]?=some o/\okOper P N p.ops8 o s=true:=by
              intro k s hs
              have hlt:k<rest.length:=(List.getElem?_eq_some_iff.1 hs).1
              have hlt8:k<le.length:=by omega
              obtain⟨s',hs',hk⟩:=y2 k le[k] (List.getElem?_eq_getElem hlt8)
              rw[hs]at hs';cases hs'
              exact⟨le[k],by rw[hg8,Nat.add_comm];simp[hlt8],hk⟩
             refine QgK (c0:=c) (w0:=w2') ?_ rest 1 0 fs8 _ c _ w2' hrest hr8 S4 (.refl _ _)
             intro c5 a5 w5 S5 E5
             show Exit.then _ _ .normal _ _
             refine hbody p.body obd c5 a5 w5 S5 none (fun _=>rfl) _ ?_
             intro e2 D c6 a6 w6 hq6 S6 E6
             have E06:Evo c0 w0 c6 w6:=(E1'.trans E5).trans E6
             have J6:=(J1.evo E5).evo E6
             have again:I (i::vis) D->∃left' vis' B' c' m' seen',left'<left/\((List.range es.length).filter fun i=>i∉vis').length=left'/\I vis' B'/\SRel N c' B' a6 w6/\Evo c0 w0 c' w6/\IterAt c' w6 n r mb mg es.length vis' m' seen':=by
              intro hI6
              refine⟨_,i::vis,D,c6,m,_,?_,rfl,hI6,S6,E06,J6⟩
              rw[<-hleft]
              have hsub:((List.range es.length).filter fun j=>j∉i::vis)=(((List.range es.length).filter fun j=>j∉vis).filter fun j=>j≠i):=by
               rw[List.filter_filter]
               apply List.filter_congr
               intro y _
               simp[List.mem_cons,not_or]
              rw[hsub]
              have hmem:i∈(List.range es.length).filter fun j=>j∉vis:=List.mem_filter.2 ⟨List.mem_range.2 hilt,by simpa using hnv⟩
              exact QeE _ hmem
             cases e2 with
             |normal=>exact again hq6
             |ret=>exact hQ .ret D c6 a6 w6 hq6 S6 E06
             | exit jj =>
              simp only at hq6
              show(if jj=b2 then _ else _)
              split at hq6
              ·rename_i e3;rw[if_pos e3];exact again hq6
              ·rename_i e3
               rw[if_neg e3]
               show(if jj=b1 then Q' .normal _ _ else Q' (.exit jj) _ _)
               split at hq6
               ·rename_i e4;rw[if_pos e4];exact hQ .normal D c6 a6 w6 hq6 S6 E06
               ·rename_i e4;rw[if_neg e4];exact hQ (.exit jj) D c6 a6 w6 hq6 S6 E06
            ·cases z4
           ·cases o8
         ·cases q8
        ·cases q4
       refine Lp.round (wpIn_mono hround ?_)
       intro e a' w' hq
       cases e with
       |normal=>
        obtain⟨left',vis',B',c',m',seen',hlt,hl',hI',S',E',J'⟩:=hq
        exact ih left' hlt vis' B' c' a' w' m' seen' hl' hI' S' E' J'
       |exit j=>exact hq
       |goto l=>exact hq
       |ret=>exact hq
       |panic ch=>exact hq
       |outgrown=>exact hq
      ·cases o7
    exact wpIn_mono (key _ [] B2 c2 a2 w2 m #[] rfl h0 S2 E02 J2).loop fun e a' w' hq=>by cases e<;>exact hq
   ·cases g4
  ·cases o6
 ·cases hok
end Go.AM
namespace Go.AM
abbrev Za (a:List Nat) (n:Nat):List Nat:=a++List.range n
abbrev Zz (d:Nat) (o:SOp) (a:List Nat):SOper:=⟨some d,o,a,none⟩
abbrev Zy (o:SOp) (a:List Nat):SOper:=⟨none,o,a,none⟩
abbrev Zx (d:Nat) (o:SOp) (a:List Nat) (g:Nat) (b:Bool):SOper:=⟨some d,o,a,some (g,b)⟩
abbrev Zm (d x:Nat) (a:List Nat):SOper:=⟨some d,.mov (.t x),a,none⟩
abbrev Zl (d x:Nat) (a:List Nat):SOper:=⟨some d,.load none (.t x),a,none⟩
abbrev Zw (d n x:Nat) (a:List Nat):SOper:=⟨some d,.load (some n) (.t x),a,none⟩
abbrev Zf (d k x:Nat) (a:List Nat):SOper:=⟨some d,.faddr k (.t x),a,none⟩
abbrev Zv (d x:Nat) (a:List Nat):SOper:=⟨some d,.len 1 (.t x),a,none⟩
abbrev Zs (n x y:Nat) (a:List Nat):SOper:=⟨none,.store n (.t x) (.t y),a,none⟩
abbrev Zi (d n x y:Nat) (a:List Nat):SOper:=⟨some d,.iaddr none n (.t x) (.t y),a,none⟩
abbrev Zb (d:Nat) (o:BinOp) (x y:Nat) (a:List Nat):SOper:=⟨some d,.bin o (.t x) (.t y),a,none⟩
end Go.AM
