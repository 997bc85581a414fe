/- A part of the proof of CatalogueWordsCardSaid: lemmas on the way (AmT, AmO, AmOa, AmP, AmQ, AmR, AmLr). Conditions: none of ours. -/
import Derived.Laws.IdiomRangeMap
import Derived.Test.YteiijgolpigjdaaGreatDoorAmW7
set_option linter.unusedSectionVars false
set_option maxHeartbeats 32000000
set_option maxRecDepth 100000
set_option linter.unusedVariables false
set_option linter.unusedSimpArgs false
namespace Go.AM
variable {P:Program} {ok':Okc} {c:Ctx ok'} {w:World} {h:Heap}
def upo (w:World) (r:Nat) (o:Obj):World:={w with heap:=w.heap.setIfInBounds r o}
theorem QpF {r:Nat} {o:Obj} (hr:r<w.heap.size):(upo w r o).heap[r]?=some o:=by
 simp[upo,hr]
theorem Qcq {r k:Nat} {o:Obj} (hk:k≠r):(upo w r o).heap[k]?=w.heap[k]?:=by
 simp_all [upo,Ne.symm]
theorem QdV {r:Nat} {o:Obj}:(upo w r o).heap.size=w.heap.size:=by simp[upo]
theorem HRel.other (H:HRel c h w) {r:Nat} {o o':Obj} (hr:w.heap[r]?=some o) (hc:∀C e fr,o≠ .cells C e fr) (hO:¬c.O r) (hF:¬c.F r):
  Ext c w c (upo w r o')/\HRel c h (upo w r o'):=by
 have E:Ext c w c (upo w r o'):=by
  refine⟨fun _ _ _ h=>h,fun _ h=>h,fun cb ob hf hb=>?_,fun cb C e fr hb=>?_⟩
  ·grind [Qcq]
  ·refine ⟨C, fr, ?_, rfl⟩
   rw[Qcq (fun e2=>by simp_all)];exact hb
 refine⟨E,H.fresh,H.later,fun b x hg=>?_,H.inj,H.disj,fun k hk=>by rw[QdV];exact H.inF k hk,fun k hk=>by rw[QdV];exact H.inO k hk⟩
 refine BRel.mono E (fun cb base hd hp=>?_) (H.blk b x hg)
 have hOc:=H.owned ⟨x,hg,rfl,hd⟩ hp
 grind [Qcq]
def Ctx.name {ok':Okc} (c:Ctx ok') (b r:Nat):Ctx ok':={c with ρ:=fun x y=>if x=b/\y=0 then some (.loc r 0)else c.ρ x y}
theorem HRel.name (H:HRel c h w) {b r:Nat} (hb:h.get b=none) (hl:b<lim):Evo c w (c.name b r) w/\HRel (c.name b r) (h.set b (.dead 0)) w:=by
 have E:Evo c w (c.name b r) w:=by
  refine⟨rfl,rfl,rfl,Nat.le_refl _,fun _ C _ fr h=>⟨C,fr,h,rfl⟩,fun _ _ _=>rfl,?_,fun _ h=>h,fun _ h=> .inl h,fun _ h=> .inl h,rfl⟩
  intro x y p hp
  show(if x=b/\y=0 then some (Place.loc r 0)else c.ρ x y)=some p
  by_cases e:x=b/\y=0
  ·obtain ⟨rfl, rfl⟩ := e
   rw[H.fresh _ hb]at hp;cases hp
  simp_all
 have hne:∀{x y:Nat},x≠b->(c.name b r).ρ x y=c.ρ x y:=by
  intro x y hx
  show(if x=b/\y=0 then some (Place.loc r 0)else c.ρ x y)=_
  simp_all
 refine⟨E,?_,?_,?_,?_,H.disj,H.inF,H.inO⟩
 ·intro x hx g
  rw[Tr.Qa2 _ hl]at hx
  by_cases e:x=b
  ·simp_all
  ·rw[if_neg e]at hx;rw[hne e];exact H.fresh x hx g
 ·intro x z hx g hg
  rw[Tr.Qa2 _ hl]at hx
  by_cases e:x=b
  ·rw [if_pos e] at hx; cases hx
   subst e
   show(if x=x/\g=0 then some (Place.loc r 0)else c.ρ x g)=none
   rw[if_neg (by omega)]
   exact H.fresh _ hb g
  ·rw[if_neg e]at hx;rw[hne e];exact H.later x z hx g hg
 ·intro x z hx
  rw[Tr.Qa2 _ hl]at hx
  by_cases e:x=b
  ·rw[if_pos e]at hx;cases hx;trivial
  ·rw [if_neg e] at hx
   refine BRel.mono (E.ext H.disj) (fun cb base hd hp=>?_) (H.blk x z hx)
   exact⟨H.owned ⟨z,hx,rfl,hd⟩ hp,rfl⟩
 ·intro x g x' g' cb base base' l l' p p'
  have live:∀{x g:Nat},Live (h.set b (.dead 0)) x g->x≠b/\Live h x g:=by
   rintro x g ⟨z,hz,hg,hd⟩
   rw[Tr.Qa2 _ hl]at hz
   by_cases e:x=b
   ·grind
   ·rw[if_neg e]at hz;exact⟨e,z,hz,hg,hd⟩
  obtain⟨n1,l1⟩:=live l
  obtain⟨n2,l2⟩:=live l'
  rw[hne n1]at p
  rw[hne n2]at p'
  exact H.inj _ _ _ _ _ _ _ l1 l2 p p'
theorem QiP:∀{xs:List (AV×AV)} {es:List MapEntry} {n k:Nat},MRel c w xs es n->k+xs.length=n->∀(i:Nat) (e:MapEntry),es[i]?=some e->e.born=k+i/\i<xs.length
 |[],es,n,k,hm,hk,i,e,hi=>by simp_all [MRel]
 | (x, y) :: xs, es, n, k, hm, hk, i, e, hi => by
  simp only[MRel]at hm
  obtain⟨e0,es',rfl,_,_,_,h4,h5⟩:=hm
  simp only[List.length_cons]at hk
  cases i with
  |zero=>simp at hi;subst hi;exact⟨by omega,by simp⟩
  |succ i=>
   simp at hi
   obtain⟨h6,h7⟩:=QiP h5 (k:=k+1) (by omega) i e hi
   exact⟨by omega,by simp;omega⟩
theorem QlZ {ty:TypeId} {r bm since c0 clock:Nat} {seen:Array Nat} {es:Array MapEntry} (hr:w.heap[r]?=some (.mapIter (some bm) since seen c0)) (hb:w.heap[bm]?=some (.map es clock))
    (hold:∀x∈es.toList,x.born<since) (hsc:since<=c0):
    ((leftOf es seen).size=0/\(Instr.next (.pointer (some ⟨r,0,none⟩)) false ty).run P w= .ok (.tuple #[.bool false]) w)\/
    ∃e∈(leftOf es seen).toList,∃w1:World,(w1=w\/w1=w.drew)/\(Instr.next (.pointer (some ⟨r,0,none⟩)) false ty).run P w= .ok (.tuple #[.bool true,e.key,e.val]) (upo w1 r (.mapIter (some bm) since (seen.push e.born) clock)):=by
  simp only[Instr.next,getObj,Sem.run_bind,Sem.run,hr,hb,Result.andThen,next_test_false seen es since c0 hold hsc,Bool.false_eq_true,if_false]
  unfold leftOf
  have hmem:∀x∈(Array.filter (fun e=> !seen.contains e.born) es).toList,x.born<since:=fun x hx=>hold x (by simp_all)
  generalize Array.filter (fun e=> !seen.contains e.born) es=L at hmem⊢
  have e1:L.filter (fun x=>decide (x.born<since))=L:=Array.filter_eq_self.2 (fun x hx=>by simp_all)
  have e2:L.filter (fun x=>decide (x.born≥since))= #[]:=by
    simp_all
  simp only[e1,e2,Array.append_empty]
  by_cases h0:L.size=0
  · left
    have:L= #[]:=Array.eq_empty_of_size_eq_zero h0
    subst this
    refine⟨rfl,?_⟩
    simp_all [Question.forced]
  · right
    have hne:L.isEmpty=false:=by simp_all
    simp only[hne,Bool.false_eq_true,if_false,Array.empty_append,Array.size_map]
    have hch:∃(j:Nat) (w1:World),j<L.size/\(w1=w\/w1=w.drew)/\(choose (Question.mapNext L.size)).run P w= .ok j w1:=by
      by_cases hf:L.size<=1
      · exact⟨0,w,by omega,.inl rfl,by simp_all [Question.forced]⟩
      · exact⟨_,w.drew,Nat.mod_lt _ (by omega),.inr rfl,by
          simp only[choose,Sem.run,Question.forced,decide_eq_true_eq,hf,if_false,Question.cut]
          rfl⟩
    obtain⟨j,w1,hj,hal,hrun⟩:=hch
    refine⟨L[j],by simp,w1,hal,?_⟩
    have hr1:w1.heap[r]?=some (.mapIter (some bm) since seen c0):=by rcases hal with rfl|rfl<;>exact hr
    simp_all [setObj,upo,Sem.run]
theorem Qkh {r bm since clock:Nat} {seen:Array Nat} {es:Array MapEntry} {e:MapEntry} (hr:w.heap[r]?=some (.mapIter (some bm) since (seen.push e.born) clock)) (hb:w.heap[bm]?=some (.map es clock))
  (he:e∈es.toList) (hn:(es.toList.map (·.born)).Nodup):(Instr.entry (.pointer (some ⟨r,0,none⟩))).run P w= .ok (.tuple #[e.key,e.val]) w:=by
 have hf:es.find? (·.born==e.born)=some e:=by rw[<-Array.find?_toList];grind [find_born]
 simp_all [Instr.entry,getObj,Sem.run]
theorem QcC {ops:Array Oper} {o:Oper} {i:Nat} {Q:Exit->Act->World->Prop} {K:Act->World->Prop} {a:Act} {w':World} {cv:Value} (ho:ops[i]?=some o) (hg:o.guard=none)
  (hr:(execOp a.eval o).run P w= .ok (.value cv) w') (hK:K (a.put o.dst cv) w'):wpOpIn (FW none) 0 P ops Q i K a w:=by
 unfold wpOpIn
 rw[ho]
 have:Region.wanted o (yielded ops a.tmps)=true:=by simp[Region.wanted,hg]
 simp only[this,if_true]
 refine⟨fun _ _=>trivial,?_⟩
 show o.uponIn (FW none) 0 P a K Q ((o.semAt none a.eval).run P w)
 rw[Oper.semAt_none,hr]
 exact hK
theorem Qij {N base:Nat} {ops:Array Oper} {Q:Exit->Act->World->Prop} {C:St} {c0:Ctx (okc P)} {w0:World} {tl:List Nat}
  (hQ:∀c a w,SRel N c C a w->Evo c0 w0 c w->wpOpsIn (FW none) 0 P ops Q tl a w):
  ∀(l:List SOper) (i j:Nat) (fs:List FP) (A:St) (c:Ctx (okc P)) (a:Act) (w:World),(∀k s,l[k]?=some s->∃o,ops[i+k]?=some o/\okOper P N ops o s=true)->RunF P base j l fs A C->SRel N c A a w->Evo c0 w0 c w->
   wpOpsIn (FW none) 0 P ops Q (List.range' i l.length++tl) a w
 |[],i,j,fs,A,c,a,w,hok,hr,S,E=>by
  obtain⟨_,rfl⟩:=hr
  grind
 |s::l,i,j,fs,A,c,a,w,hok,hr,S,E=>by
  obtain⟨f,fs',v,h1,_,hs,hr⟩:=hr
  rw[List.length_cons,List.range'_succ,List.cons_append,wpOpsIn_cons]
  obtain⟨o,ho,hk⟩:=hok 0 s rfl
  rw[Nat.add_zero]at ho
  refine QeS S ho hk hs fun c' a' w' S' E'=>?_
  refine Qij hQ l (i+1) (j+1) fs' _ c' a' w' ?_ hr S' (E.trans E')
  intro k s' hk'
  obtain⟨o',ho',hok'⟩:=hok (k+1) s' (by simpa using hk')
  grind
theorem Qnm {code:Code} {p:MLParts} (h:mlParts code=some p):∃i6 i7 i8,code= .seq (.region i6 p.ops6 false) (.block p.b (.loop (.seq (.region i7 p.ops7 false) (.seq (.cond (.tmp p.c) .skip (.exit p.b')) (.block p.b3 (.seq (.region i8 p.ops8 false) p.body)))))):=by
 unfold mlParts at h
 grind
theorem Qn5 {b r:Nat}:VRel (c.name b r) w (.ptr b 0 0) (.pointer (some ⟨r,0,none⟩)):=by
 simp only[VRel]
 exact⟨r,0,by show(if b=b/\0=0 then some (Place.loc r 0)else _)=_;simp,by simp⟩
structure IterAt {ok':Okc} (c:Ctx ok') (w:World) (b r mb mg n:Nat) (vis:List Nat) (m:Nat) (seen:Array Nat):Prop where
 name:c.ρ b 0=some (.loc r 0)
 free:¬c.O r/\¬c.F r/\r<w.heap.size
 obj:w.heap[r]?=some (.mapIter (some m) n seen n)
 place:c.ρ mb mg=some (.loc m 0)
 seen:∀i,i<n->(seen.contains i=true↔i∈vis)
theorem IterAt.evo {b r mb mg n m:Nat} {vis:List Nat} {seen:Array Nat} {c':Ctx ok'} {w':World} (I:IterAt c w b r mb mg n vis m seen) (E:Evo c w c' w'):IterAt c' w' b r mb mg n vis m seen:=
  ⟨E.rho _ _ _ I.name,⟨fun h=>(E.own r h).elim I.free.1 (fun h=>absurd I.free.2.2 (by omega)),fun h=>(E.frzNew r h).elim I.free.2.1 (fun h=>h.elim I.free.1 (fun h=>absurd I.free.2.2 (by omega))),Nat.lt_of_lt_of_le I.free.2.2 E.size⟩,
    by rw[E.keep r I.free.2.2 I.free.1];exact I.obj,E.rho _ _ _ I.place,I.seen⟩
theorem QeA {N:Nat} {A:St} {a:Act} {d:Nat} {v:AV} {cv:Value} (S:SRel N c A a w) (hd:d<N) (V:VRel c w v cv):SRel N c ⟨up A.T d v,A.h⟩ (a.put (some d) cv) w:=by
 have:=S.put (dst:=some d) (.refl c w) S.heap (fun e he=>by simp_all) V
 exact this
theorem Marks.turn {r:Nat} {o o':Obj} (hr:w.heap[r]?=some o) (hn:o≠ .deferred (some [])):∀{ds:List Deferred},Marks c w ds->Marks c (upo w r o') ds
 |[],h=>by show c.base<=_;rw[QdV];exact h
 |d::ds,⟨⟨D,h1,h2,h3,h4,h5,h6⟩,hm⟩=>
  ⟨⟨D,h1,h2,h3,h4,by rw[Qcq (fun e=>by simp_all)];exact h5,h6⟩,Marks.turn hr hn hm⟩
theorem SRel.turn {N:Nat} {A:St} {a:Act} {r:Nat} {o o':Obj} (S:SRel N c A a w) (hr:w.heap[r]?=some o) (hc:∀C e fr,o≠ .cells C e fr) (hO:¬c.O r) (hF:¬c.F r) (hn:o≠ .deferred (some [])):SRel N c A a (upo w r o'):=by
 obtain⟨E,H⟩:=S.heap.other (o':=o') hr hc hO hF
 exact⟨H,fun i=>VRel.mono E _ _ (S.tmps i),S.size,S.defers.turn hr hn⟩
theorem Evo.turn {c0:Ctx ok'} {w0:World} (E:Evo c0 w0 c w) {r:Nat} {o':Obj} (hr:w0.heap.size<=r):Evo c0 w0 c (upo w r o'):=
  ⟨E.os,E.tape,E.output,by rw[QdV];exact E.size,
    fun cb C e fr hb=>by
      obtain⟨C',fr',h1,h2⟩:=E.shape cb C e fr hb
      grind [Qcq],
    fun cb hlt hO=>by rw[Qcq (by omega)];exact E.keep cb hlt hO,E.rho,E.frz,E.frzNew,E.own,E.base⟩
theorem QfA {i:Nat}:∀(L:List Nat),i∈L->(L.filter fun j=>j≠i).length<L.length
 |[],h=>by cases h
 | y :: L, hmem => by
  rcases List.mem_cons.1 hmem with h|h
  ·grind
  ·have := QfA L h
   grind
theorem W.mloop {N n : Nat} {Q : SX -> St -> Prop} {A B0 : St} {pre rest : List SOper} {x : Opd} {it nx ok en b1 b2 : Nat} {body : SCode} (base : Nat) (fs : List FP) (hr : RunF P base 0 pre fs A B0)
  {mb mg:Nat} {es:List (AV×AV)} (hx:ev B0.T x= .map mb mg) (hm:B0.h.get mb=some (.map mg es)) (hn:B0.h.get n=none) (hnl:n<lim)
  (I:List Nat->St->Prop) (hI:∀vis B,I vis B->lk B.T it= .ptr n 0 0/\∃es',B.h.get mb=some (.map mg es')/\es'.length=es.length)
  (h0:I [] ⟨up B0.T it (.ptr n 0 0),B0.h.set n (.dead 0)⟩)
  (round : ∀ vis B i k v es', I vis B -> i ∉ vis -> B.h.get mb = some (.map mg es') -> es'[i]? = some (k, v) -> ∃ bs fs C, RunF P bs 0 rest fs ⟨up (up (up B.T nx .any) ok (.bool true)) en (.tup [k, v]), B.h⟩ C /\
   W P N body (fun e D=>match e with
    | .normal=>I (i::vis) D
    | .exit j=>if j=b2 then I (i::vis) D else if j=b1 then Q .normal D else Q (.exit j) D
    | .ret=>Q .ret D) C)
  (done:∀vis B,I vis B->(∀i,i<es.length->i∈vis)->Q .normal ⟨up (up B.T nx .any) ok (.bool false),B.h⟩):W P N (.mloop pre x it nx ok en b1 b2 rest body) Q A:=by
 intro code hok c0 a0 w0 S0 ro hro Q' hQ
 have:=hro rfl
 subst this
 simp only[okCode]at hok
 split at hok
 ·rename_i p hp
  simp only[Bool.and_eq_true,beq_iff_eq]at hok
  obtain⟨⟨⟨⟨⟨⟨⟨o6,ob⟩,o7⟩,oc⟩,ob'⟩,ob3⟩,o8⟩,obd⟩:=hok
  obtain⟨i6,i7,i8,rfl⟩:=Qnm hp
  rw[ob,oc,ob',ob3]
  unfold okRange at o6
  split at o6
  ·rename_i o ho
   simp only[Bool.and_eq_true,beq_iff_eq,decide_eq_true_eq,Option.isNone_iff_eq_none]at o6
   obtain⟨⟨⟨⟨⟨g1,g2⟩,g3⟩,g4⟩,g5⟩,g6⟩:=o6
   obtain⟨k1,k2⟩:=Qdp g6
   have hpre:∀k s,pre[k]?=some s->∃o,p.ops6[0+k]?=some o/\okOper P N p.ops6 o s=true:=by
    intro k s hs
    have hlt:k<pre.length:=(List.getElem?_eq_some_iff.1 hs).1
    have hlt6:k<p.ops6.size:=by omega
    have e1:(p.ops6.toList.take pre.length)[k]?=some p.ops6[k]:=by
     simp_all
    grind
   refine wpIn_seq (wpIn_region ?_)
   rw[g5,show List.range (pre.length+1)=List.range' 0 pre.length++[pre.length] by rw[List.range_succ,List.range_eq_range']]
   refine Qij (c0:=c0) (w0:=w0) ?_ pre 0 0 fs A c0 a0 w0 hpre hr S0 (.refl _ _)
   intro c a w S E
   rw[wpOpsIn_cons]
   split at g4
   ·rename_i t y hop
    simp only[Bool.and_eq_true]at g4
    obtain⟨gt,gx⟩:=g4
    have hxr:=Qat S.tmps gx
    rw[hx]at hxr
    simp only[VRel]at hxr
    obtain⟨m,hpm,hym⟩:=hxr
    obtain⟨ms,clock,hOm,hCm,hRm,hcl⟩:=S.heap.atMap hm hpm
    obtain⟨kt,et,hu⟩:∃kt et,P.underlying t=some (.map kt et):=by
     grind [isMapT]
    have hrun:(execOp a.eval o).run P w= .ok (.value (.pointer (some ⟨w.heap.size,0,none⟩))) (w.alloc (.mapIter (some m) clock #[] clock)):=by
     have e1:execOp a.eval o=(do pure (.value (<-Instr.range t (a.eval y)))):=by
      cases o;simp only at hop;subst hop;rfl
     rw[e1,hym]
     simp[run_range_map w t kt et m ms clock hu hCm]
    refine QcC ho g3 hrun ?_
    show Exit.then _ _ .normal _ _
    rw[g1]
    obtain⟨E1,H1⟩:=S.heap.grow (w':=w.alloc (.mapIter (some m) clock #[] clock)) rfl rfl rfl (by simp) (fun k hk=>by simp_all [heap_alloc_old])
    obtain⟨E2,H2⟩:=H1.name (b:=n) (r:=w.heap.size) hn hnl
    have E02:Evo c0 w0 (c.name n w.heap.size) (w.alloc (.mapIter (some m) clock #[] clock)):=(E.trans E1).trans E2
    have S2:SRel N (c.name n w.heap.size) ⟨up B0.T it (.ptr n 0 0),B0.h.set n (.dead 0)⟩ (a.put (some it) (.pointer (some ⟨w.heap.size,0,none⟩))) (w.alloc (.mapIter (some m) clock #[] clock)):=
     S.put (dst:=some it) (E1.trans E2) H2 (fun d hd=>by simp_all) Qn5
    have hsz:w.heap.size<(w.alloc (.mapIter (some m) clock #[] clock)).heap.size:=by simp
    have J2:IterAt (c.name n w.heap.size) (w.alloc (.mapIter (some m) clock #[] clock)) n w.heap.size mb mg es.length [] m #[]:=by
     refine⟨?_,⟨fun hO=>absurd (S.heap.inO _ hO) (Nat.lt_irrefl _),fun hF=>absurd (S.heap.inF _ hF) (Nat.lt_irrefl _),hsz⟩,?_,E2.rho _ _ _ hpm,fun i _=>by simp⟩
     ·show(if n=n/\0=0 then some (Place.loc w.heap.size 0)else _)=_;simp
     ·rw[heap_alloc_new,hcl]
    have hr0':w0.heap.size<=w.heap.size:=E.size
    generalize w.heap.size=r at*
    generalize w.alloc (.mapIter (some m) clock #[] clock)=w2 at*
    generalize a.put (some it) (.pointer (some ⟨r,0,none⟩))=a2 at*
    generalize hB2:(⟨up B0.T it (.ptr n 0 0),B0.h.set n (.dead 0)⟩:St)=B2 at*
    generalize c.name n r=c2 at*
    refine wpIn_block ?_
    have key : ∀ (left : Nat) (vis : List Nat) (B : St) (c : Ctx (okc P)) (a : Act) (w : World) (m : Nat) (seen : Array Nat), ((List.range es.length).filter fun i => i ∉ vis).length = left -> I vis B -> SRel N c B a w -> Evo c0 w0 c w -> IterAt c w n r mb mg es.length vis m seen ->
      Lp none P (.seq (.region i7 p.ops7 false) (.seq (.cond (.tmp ok) .skip (.exit b1)) (.block b2 (.seq (.region i8 p.ops8 false) p.body)))) (fun e a' w'=>match e with| .exit j=>if j=b1 then Q' .normal a' w' else Q' (.exit j) a' w'|e=>Q' e a' w') a w:=by
     intro left
     induction left using Nat.strongRecOn with
     | _ left ih =>
      intro vis B c a w m seen hleft hIB S E J
      obtain⟨hit,es',hmapB,hel⟩:=hI vis B hIB
      have hv:=S.tmps it
      rw[hit]at hv
      simp only[VRel]at hv
      obtain⟨cb,bs,hp1,hv⟩:=hv
      rw[J.name]at hp1;cases hp1
      obtain⟨ms,clock,hOm,hCm,hRm,hcl⟩:=S.heap.atMap hmapB J.place
      have hlen:=QbO hRm
      have hborn:∀(i:Nat) (e:MapEntry),ms.toList[i]?=some e->e.born=i/\i<es.length:=by
       intro i e hi
       have:=QiP hRm (k:=0) (by omega) i e hi
       omega
      have hold:∀y∈ms.toList,y.born<es.length:=by
       grind [List.mem_iff_getElem?]
      unfold okNext at o7
      split at o7
      ·rename_i oa ob7 h7
       simp only[Bool.and_eq_true,beq_iff_eq,decide_eq_true_eq,Option.isNone_iff_eq_none,Bool.not_eq_true',beq_eq_false_iff_ne]at o7
       obtain⟨⟨⟨⟨⟨⟨⟨⟨⟨q1,q2⟩,q3⟩,q4⟩,q5⟩,q6⟩,q7⟩,q8⟩,q9⟩,q10⟩:=o7
       have h7':p.ops7= #[oa,ob7]:=by grind
       have hround : (Code.seq (.region i7 p.ops7 false) (.seq (.cond (.tmp ok) .skip (.exit b1)) (.block b2 (.seq (.region i8 p.ops8 false) p.body)))).wpIn (FW none) 0 P (fun e a' w' => match e with
         | .normal=>∃left' vis' B' c' m' seen',left'<left/\((List.range es.length).filter fun i=>i∉vis').length=left'/\I vis' B'/\SRel N c' B' a' w'/\Evo c0 w0 c' w'/\IterAt c' w' n r mb mg es.length vis' m' seen'
         | .exit j=>if j=b1 then Q' .normal a' w' else Q' (.exit j) a' w'
         |e=>Q' e a' w') a w:=by
        refine wpIn_seq (wpIn_region ?_)
        rw[h7']
        show wpOpsIn (FW none) 0 P _ _ [0,1] a w
        rw[wpOpsIn_cons]
        split at q4
        ·rename_i j hopa
         have hji:j=it:=by simpa using q4
         subst hji
         split at q8
         ·rename_i j2 hopb
          have hj2:j2=nx:=by simpa using q8
          subst hj2
          have hevi:a.eval (.tmp j)= .pointer (some ⟨r,0,none⟩):=by grind [Act.eval]
          have eA:execOp a.eval oa=(do pure (.value (<-Instr.next (a.eval (.tmp j)) false oa.type))):=by
           cases oa;simp only at hopa;subst hopa;rfl
          have eB:∀(a:Act),execOp a.eval ob7=(do pure (.value (<-Instr.extract (a.eval (.tmp j2)) 0))):=by
           intro a
           cases ob7;simp only at hopb;subst hopb;rfl
          rcases QlZ (P:=P) (ty:=oa.type) J.obj hCm hold (Nat.le_refl _)with⟨h1,h2⟩|⟨e,he,w1,hw1,h2⟩
          ·-- nothing is left
           refine QcC (by simp) q3 (cv:= .tuple #[.bool false]) (w':=w) (by simp_all) ?_
           rw[q1]
           have S1:SRel N c ⟨up B.T j2 .any,B.h⟩ (a.put (some j2) (.tuple #[.bool false])) w:=QeA S q2 (by simp[VRel])
           have hl1:j2<(a.put (some j2) (.tuple #[.bool false])).tmps.size:=by rw[S1.size];exact q2
           have hev1:(a.put (some j2) (.tuple #[.bool false])).eval (.tmp j2)= .tuple #[.bool false]:=by
            simp_all [Act.eval,Act.put]
           rw[wpOpsIn_cons]
           refine QcC (by simp) q7 (cv:= .bool false) (w':=w) (by simp_all [Instr.extract]) ?_
           rw[q5]
           have S2:SRel N c ⟨up (up B.T j2 .any) ok (.bool false),B.h⟩ ((a.put (some j2) (.tuple #[.bool false])).put (some ok) (.bool false)) w:=QeA S1 q6 (by simp[VRel])
           show Exit.then _ _ .normal _ _
           refine wpIn_seq ?_
           have hc2:((a.put (some j2) (.tuple #[.bool false])).put (some ok) (.bool false)).eval (.tmp ok)= .bool false:=by
            have:=S2.tmps ok
            simp_all [lk_up,VRel,Act.eval]
           refine wpIn_cond hc2 ?_
           refine wpIn_exit ?_
           show(if b1=b1 then Q' .normal _ _ else _)
           rw[if_pos rfl]
           refine hQ .normal _ c _ w (done vis B hIB ?_) S2 E
           intro i hi
           have hmi:i<ms.toList.length:=by omega
           have hbi:=hborn i ms.toList[i] (List.getElem?_eq_getElem hmi)
           refine(J.seen i hi).1 ?_
           cases hcs:seen.contains i with
           |true=>rfl
           | false =>
            exfalso
            have hmem:ms.toList[i]∈(leftOf ms seen).toList:=by
             grind [leftOf]
            have:(leftOf ms seen).toList.length=0:=by simpa using h1
            rw[List.length_eq_zero_iff.1 this]at hmem
            cases hmem
          ·-- an entry
           have hem:e∈ms.toList/\seen.contains e.born=false:=by
            simp_all [leftOf]
           obtain⟨i,hi⟩:=List.mem_iff_getElem?.1 hem.1
           obtain⟨hb1,hilt⟩:=hborn i e hi
           have hnv:i∉vis:=by
            intro hiv
            have:=(J.seen i hilt).2 hiv
            simp_all
           have hilt':i<es'.length:=by omega
           have hesi:es'[i]?=some es'[i]:=List.getElem?_eq_getElem hilt'
           obtain⟨e',he',hk1,hk2⟩:=QdR i hRm hesi
           rw[hi]at he';cases he'
           obtain⟨E1,H1⟩:=S.heap.drew
           have Sd:SRel N c B a w1/\Evo c w c w1:=by
            rcases hw1 with rfl|rfl
            ·exact⟨S,.refl _ _⟩
            ·exact⟨⟨H1,fun i=>VRel.mono (E1.ext S.heap.disj) _ _ (S.tmps i),S.size,S.defers.mono E1⟩,E1⟩
           have hr1:w1.heap[r]?=some (.mapIter (some m) es.length seen es.length):=by rcases hw1 with rfl|rfl<;>exact J.obj
           have hC1:w1.heap[m]?=some (.map ms clock):=by rcases hw1 with rfl|rfl<;>exact hCm
           have hmr:m≠r:=by grind
           have S1:=Sd.1.turn (o':= .mapIter (some m) es.length (seen.push e.born) clock) hr1 (by simp_all) J.free.1 J.free.2.1 (by simp_all)
           have E1':Evo c0 w0 c (upo w1 r (.mapIter (some m) es.length (seen.push e.born) clock)):=(E.trans Sd.2).turn hr0'
           have hsz1:r<w1.heap.size:=by grind
           have J1:IterAt c (upo w1 r (.mapIter (some m) es.length (seen.push e.born) clock)) n r mb mg es.length (i::vis) m (seen.push e.born):=by
            refine⟨J.name,⟨J.free.1,J.free.2.1,by grind [QdV]⟩,by simp_all [QpF],J.place,?_⟩
            intro j hj
            rw[Array.contains_push,List.mem_cons,hb1]
            by_cases hji:j=i
            ·simp[hji]
            ·have : (j == i) = false := by simpa using hji
             simp only[this,Bool.or_false,hji,false_or]
             exact J.seen j hj
           have hC2:(upo w1 r (.mapIter (some m) es.length (seen.push e.born) clock)).heap[m]?=some (.map ms clock):=by simp_all [Qcq]
           generalize hw2:upo w1 r (.mapIter (some m) es.length (seen.push e.born) clock)=w2' at*
           refine QcC (by simp) q3 (cv:= .tuple #[.bool true,e.key,e.val]) (w':=w2') (by simp_all) ?_
           rw[q1]
           have S2:SRel N c ⟨up B.T j2 .any,B.h⟩ (a.put (some j2) (.tuple #[.bool true,e.key,e.val])) w2':=QeA S1 q2 (by simp[VRel])
           have hev1:(a.put (some j2) (.tuple #[.bool true,e.key,e.val])).eval (.tmp j2)= .tuple #[.bool true,e.key,e.val]:=by
            have hl0:j2<a.tmps.size:=by rw[S.size];exact q2
            simp[Act.eval,Act.put,hl0]
           rw[wpOpsIn_cons]
           refine QcC (by simp) q7 (cv:= .bool true) (w':=w2') (by simp_all [Instr.extract]) ?_
           rw[q5]
           have S3:SRel N c ⟨up (up B.T j2 .any) ok (.bool true),B.h⟩ ((a.put (some j2) (.tuple #[.bool true,e.key,e.val])).put (some ok) (.bool true)) w2':=QeA S2 q6 (by simp[VRel])
           show Exit.then _ _ .normal _ _
           refine wpIn_seq ?_
           have hc2:((a.put (some j2) (.tuple #[.bool true,e.key,e.val])).put (some ok) (.bool true)).eval (.tmp ok)= .bool true:=by
            have:=S3.tmps ok
            simp_all [lk_up,VRel,Act.eval]
           refine wpIn_cond hc2 ?_
           refine wpIn_skip ?_
           show Exit.then _ _ .normal _ _
           refine wpIn_block (wpIn_seq (wpIn_region ?_))
           unfold okEntry at o8
           split at o8
           ·rename_i oe le h8
            simp only[Bool.and_eq_true,beq_iff_eq,decide_eq_true_eq,Option.isNone_iff_eq_none]at o8
            obtain⟨⟨⟨⟨z1,z2⟩,z3⟩,z4⟩,z5⟩:=o8
            obtain⟨y1,y2⟩:=Qdp z5
            have hs8:p.ops8.size=1+rest.length:=by
             have:p.ops8.toList.length=(oe::le).length:=by rw[h8]
             grind
            have hg8:∀k,p.ops8[k]?=(oe::le)[k]?:=fun k=>by rw[<-h8,Array.getElem?_toList]
            rw[hs8,show List.range (1+rest.length)=0::(List.range' 1 rest.length++[]) by rw[List.range_eq_range',Nat.add_comm,List.range'_succ];simp]
            rw[wpOpsIn_cons]
            split at z4
            ·rename_i j3 hope
             have hj3:j3=j:=by simpa using z4
             subst hj3
             have eE:∀(a:Act),execOp a.eval oe=(do pure (.value (<-Instr.entry (a.eval (.tmp j3))))):=by
              intro a
              cases oe;simp only at hope;subst hope;rfl
             have hev3:((a.put (some j2) (.tuple #[.bool true,e.key,e.val])).put (some ok) (.bool true)).eval (.tmp j3)= .pointer (some ⟨r,0,none⟩):=by
              simp_all [Act.eval,Act.put]
             have hnd:(ms.toList.map (·.born)).Nodup:=by
              grind [List.pairwise_iff_getElem]
             have hobj2:w2'.heap[r]?=some (.mapIter (some m) es.length (seen.push e.born) clock):=by rw[J1.obj,hcl,hel]
             refine QcC (by rw[hg8];rfl) z3 (cv:= .tuple #[e.key,e.val]) (w':=w2') (by rw[eE,hev3];simp[Qkh (P:=P) hobj2 hC2 hem.1 hnd]) ?_
             rw[z1]
             have vk:VRel c w2' (es'[i]).1 e.key/\VRel c w2' (es'[i]).2 e.val:=by
              obtain⟨X,_⟩:=Sd.1.heap.other (o':= .mapIter (some m) es.length (seen.push e.born) clock) hr1 (by simp_all) J.free.1 J.free.2.1
              rw[hw2]at X
              exact⟨VRel.mono X _ _ (VRel.mono (Sd.2.ext S.heap.disj) _ _ hk1),VRel.mono X _ _ (VRel.mono (Sd.2.ext S.heap.disj) _ _ hk2)⟩
             have S4:SRel N c ⟨up (up (up B.T j2 .any) ok (.bool true)) en (.tup [(es'[i]).1,(es'[i]).2]),B.h⟩ (((a.put (some j2) (.tuple #[.bool true,e.key,e.val])).put (some ok) (.bool true)).put (some en) (.tuple #[e.key,e.val])) w2':=
              QeA S3 z2 (by simp only[VRel];exact⟨_,rfl,by simp only[VRels];grind⟩)
             obtain⟨bs,fs8,C8,hr8,hbody⟩:=round vis B i (es'[i]).1 (es'[i]).2 es' hIB hnv hmapB hesi
             have hrest:∀k s,rest[k]?=some s->∃o,p.ops8[1+k]?=some o/\okOper P N p.ops8 o s=true:=by
              intro k s hs
              have hlt:k<rest.length:=(List.getElem?_eq_some_iff.1 hs).1
              have hlt8:k<le.length:=by omega
              obtain⟨s',hs',hk⟩:=y2 k le[k] (List.getElem?_eq_getElem hlt8)
              grind
             refine Qij (c0:=c) (w0:=w2') ?_ rest 1 0 fs8 _ c _ w2' hrest hr8 S4 (.refl _ _)
             intro c5 a5 w5 S5 E5
             show Exit.then _ _ .normal _ _
             refine hbody p.body obd c5 a5 w5 S5 none (fun _=>rfl) _ ?_
             intro e2 D c6 a6 w6 hq6 S6 E6
             have E06:Evo c0 w0 c6 w6:=(E1'.trans E5).trans E6
             have J6:=(J1.evo E5).evo E6
             have again:I (i::vis) D->∃left' vis' B' c' m' seen',left'<left/\((List.range es.length).filter fun i=>i∉vis').length=left'/\I vis' B'/\SRel N c' B' a6 w6/\Evo c0 w0 c' w6/\IterAt c' w6 n r mb mg es.length vis' m' seen':=by
              intro hI6
              refine⟨_,i::vis,D,c6,m,_,?_,rfl,hI6,S6,E06,J6⟩
              rw[<-hleft]
              have hsub:((List.range es.length).filter fun j=>j∉i::vis)=(((List.range es.length).filter fun j=>j∉vis).filter fun j=>j≠i):=by
               simp_all
              rw[hsub]
              have hmem:i∈(List.range es.length).filter fun j=>j∉vis:=List.mem_filter.2 ⟨List.mem_range.2 hilt,by simpa using hnv⟩
              exact QfA _ hmem
             cases e2 with
             |normal=>exact again hq6
             |ret=>exact hQ .ret D c6 a6 w6 hq6 S6 E06
             | exit jj =>
              simp only at hq6
              show(if jj=b2 then _ else _)
              split at hq6
              ·simp_all
              ·rename_i e3
               rw[if_neg e3]
               show(if jj=b1 then Q' .normal _ _ else Q' (.exit jj) _ _)
               split at hq6
               ·rename_i e4;rw[if_pos e4];exact hQ .normal D c6 a6 w6 hq6 S6 E06
               ·rename_i e4;rw[if_neg e4];exact hQ (.exit jj) D c6 a6 w6 hq6 S6 E06
            ·cases z4
           ·cases o8
         ·cases q8
        ·cases q4
       refine Lp.round (wpIn_mono hround ?_)
       intro e a' w' hq
       cases e with
       |normal=>
        obtain⟨left',vis',B',c',m',seen',hlt,hl',hI',S',E',J'⟩:=hq
        exact ih left' hlt vis' B' c' a' w' m' seen' hl' hI' S' E' J'
       |exit j=>exact hq
       |goto l=>exact hq
       |ret=>exact hq
       |panic ch=>exact hq
       |outgrown=>exact hq
      ·cases o7
    exact wpIn_mono (key _ [] B2 c2 a2 w2 m #[] rfl h0 S2 E02 J2).loop fun e a' w' hq=>by cases e<;>exact hq
   ·cases g4
  ·cases o6
 ·cases hok
end Go.AM
namespace Go.AM
open Go.RowKit
variable {P:Program}
def WR (P:Program) (base:Nat):Nat->List SOper->Tmps->Heap->(Tmps->Heap->Prop)->Prop
 |_,[],T,h,K=>K T h
 |i,s::r,T,h,K=>∃f v h1,StepV P (base+i) s T h v h1 f/\WR P base (i+1) r (putD T s.dst v) h1 K
theorem WR.toF {base:Nat}:∀{r:List SOper} {i:Nat} {T:Tmps} {h:Heap} {K:Tmps->Heap->Prop},WR P base i r T h K->∃fs T' h',RunF P base i r fs ⟨T,h⟩ ⟨T',h'⟩/\K T' h'
 |[],i,T,h,K,hk=>⟨[],T,h,⟨rfl,rfl⟩,hk⟩
 |s::r,i,T,h,K,⟨f,v,h1,hs,hr⟩=>by
  obtain⟨fs,T',h',h2,hk⟩:=WR.toF hr
  exact⟨f::fs,T',h',⟨f,fs,v,h1,rfl,hs,h2⟩,hk⟩
theorem W.regionR {N:Nat} {Q:SX->St->Prop} {T:Tmps} {h:Heap} {sops:List SOper} {dead:List Nat} (base:Nat)
  (hr:WR P base 0 sops T h fun T h=>Q .normal ⟨rm T dead,h⟩):W P N (.region sops [] dead) Q ⟨T,h⟩:=by
 grind [WR.toF,W.regionF]
section
variable {base i:Nat} {d:Option Nat} {s:SOp} {af:List Nat} {r:List SOper} {T:Tmps} {h h1:Heap} {K:Tmps->Heap->Prop} {v:AV}
end
end Go.AM
namespace Go.AM
variable {P:Program}
structure NM where
 n:Nat
 m:Nat
variable {ok:Okc}
structure Evo2 (m:Nat) (c:Ctx ok) (w:World) (c':Ctx ok) (w':World):Prop where
 os:w'.os=w.os
 tape:w'.tape=w.tape
 output:w'.output=w.output
 size:w.heap.size<=w'.heap.size
 shape:∀(cb:Nat) (C:Array Value) (e:TypeId) (fr:Nat×Nat),w.heap[cb]?=some (.cells C e fr)->∃(C':Array Value) (fr':Nat×Nat),w'.heap[cb]?=some (.cells C' e fr')/\C'.size=C.size
 keep:∀cb,cb<w.heap.size->¬c.O cb->w'.heap[cb]?=w.heap[cb]?
 rho:∀b g p,b<m->c.ρ b g=some p->c'.ρ b g=some p
 frz:∀cb,c.F cb->c'.F cb
 frzNew:∀cb,c'.F cb->c.F cb\/c.O cb\/w.heap.size<=cb
 own:∀cb,c'.O cb->c.O cb\/w.heap.size<=cb
 base:c'.base=c.base
theorem Evo.to2 {m:Nat} {c c':Ctx ok} {w w':World} (E:Evo c w c' w'):Evo2 m c w c' w':=
 ⟨E.os,E.tape,E.output,E.size,E.shape,E.keep,fun b g p _ h=>E.rho b g p h,E.frz,E.frzNew,E.own,E.base⟩
theorem Marks.mono2 {m:Nat} {c c':Ctx ok} {w w':World} (E:Evo2 m c w c' w'):∀{ds:List Deferred},Marks c w ds->Marks c' w' ds
 |[],h=>by have h:c.base<=w.heap.size:=h;have:=E.size;show c'.base<=w'.heap.size;rw[E.base];omega
 | d :: ds, ⟨⟨D, h1, h2, h3, h4, h5, h6⟩, hr⟩ => by
  have hlt:=Qbd h5
  refine⟨⟨D,h1,by rw[E.base];exact h2,fun h=>?_,fun h=>?_,by rw[E.keep D hlt h3];exact h5,h6⟩,Marks.mono2 E hr⟩
  ·rcases E.own D h with h | h
   ·exact h3 h
   ·omega
  ·rcases E.frzNew D h with h | h | h
   ·exact h4 h
   ·exact h3 h
   ·omega
theorem Evo2.trans {m:Nat} {c1 c2 c3:Ctx ok} {w1 w2 w3:World} (a:Evo2 m c1 w1 c2 w2) (b:Evo2 m c2 w2 c3 w3):Evo2 m c1 w1 c3 w3 where
 os:=b.os.trans a.os
 tape:=b.tape.trans a.tape
 output:=b.output.trans a.output
 size:=Nat.le_trans a.size b.size
 shape:=fun cb C e fr h=>by
  obtain⟨C',fr',h',e'⟩:=a.shape cb C e fr h
  obtain⟨C'',fr'',h'',e''⟩:=b.shape cb C' e fr' h'
  simp_all
 keep:=fun cb hlt hO=>by
  rw[b.keep cb (Nat.lt_of_lt_of_le hlt a.size) (fun h=>(a.own cb h).elim hO (by omega)),a.keep cb hlt hO]
 rho:=fun b' g p hb h=>b.rho _ _ _ hb (a.rho _ _ _ hb h)
 frz:=fun cb h=>b.frz _ (a.frz _ h)
 frzNew:=fun cb h=>by
  rcases b.frzNew cb h with h|h|h
  ·exact a.frzNew cb h
  ·rcases a.own cb h with h | h
   ·simp_all
   omega
  ·exact .inr (.inr (Nat.le_trans a.size h))
 own:=fun cb h=>by
  rcases b.own cb h with h|h
  ·exact a.own cb h
  ·exact .inr (Nat.le_trans a.size h)
 base:=b.base.trans a.base
def W2 (P:Program) (N:NM) (sc:SCode) (Q:SX->St->Prop) (A:St):Prop:=
 ∀code,okCode P N.n code sc=true->∀(c:Ctx (okc P)) (a:Act) (w:World),SRel N.n c A a w->∀(ro:Option Nat),(sc.rf=true->ro=none)->∀(Q':Exit->Act->World->Prop),
  (∀e B c' a' w',Q e B->SRel N.n c' B a' w'->Evo2 N.m c w c' w'->Q' e.toExit a' w')->code.wpIn (FW ro) 0 P Q' a w
section rules
variable {N:NM} {Q:SX->St->Prop} {A:St}
theorem W2.of_W {sc:SCode} (h:W P N.n sc Q A):W2 P N sc Q A:=
 fun code hok c a w S ro hro R hR=>h code hok c a w S ro hro R fun e B c' a' w' hQ S' E'=>hR e B c' a' w' hQ S' E'.to2
theorem W2.mono {sc:SCode} {Q':SX->St->Prop} (h:W2 P N sc Q A) (hq:∀e B,Q e B->Q' e B):W2 P N sc Q' A:=
 fun code hok c a w S ro hro R hR=>h code hok c a w S ro hro R fun e B c' a' w' hQ S' E'=>hR e B c' a' w' (hq e B hQ) S' E'
theorem W2.congr {sc:SCode} {B:St} (h:W2 P N sc Q A) (e:SEq B A):W2 P N sc Q B:=
 fun code hok c a w S ro hro R hR=>h code hok c a w (S.congr e) ro hro R hR
theorem W2.skip (h:Q .normal A):W2 P N .skip Q A:= .of_W (.skip h)
theorem W2.ret (h:Q .ret A):W2 P N .ret Q A:= .of_W (.ret h)
theorem W2.exit {i:Nat} (h:Q (.exit i) A):W2 P N (.exit i) Q A:= .of_W (.exit h)
theorem W2.seq {x y:SCode} (h:W2 P N x (fun e B=>match e with| .normal=>W2 P N y Q B|e=>Q e B) A):W2 P N (.seq x y) Q A:=by
 intro code hok c a w S ro hro Q' hQ
 cases code<;>simp only[okCode,Bool.false_eq_true,Bool.and_eq_true]at hok
 rename_i cx cy
 refine wpIn_seq (h cx hok.1 c a w S ro (fun e=>hro (by simp[SCode.rf,e])) _ ?_)
 intro e B c' a' w' hq S' E'
 cases e with
 |normal=>exact hq cy hok.2 c' a' w' S' ro (fun e=>hro (by simp[SCode.rf,e])) Q' fun e2 B2 c2 a2 w2 h2 S2 E2=>hQ e2 B2 c2 a2 w2 h2 S2 (E'.trans E2)
 |exit i=>exact hQ (.exit i) B c' a' w' hq S' E'
 |ret=>exact hQ .ret B c' a' w' hq S' E'
theorem W2.cond {x:Opd} {y z:SCode} {t:Bool} (hx:ev A.T x= .bool t) (h1:t=true->W2 P N y Q A) (h2:t=false->W2 P N z Q A):W2 P N (.cond x y z) Q A:=by
 intro code hok c a w S ro hro Q' hQ
 cases code<;>simp only[okCode,Bool.false_eq_true,Bool.and_eq_true]at hok
 rename_i o cy cz
 have hr:=Qat S.tmps hok.1.1
 rw[hx]at hr
 simp only[VRel]at hr
 refine wpIn_cond hr ?_
 cases t with
 |true=>exact h1 rfl cy hok.1.2 c a w S ro (fun e=>hro (by simp[SCode.rf,e])) Q' hQ
 |false=>exact h2 rfl cz hok.2 c a w S ro (fun e=>hro (by simp[SCode.rf,e])) Q' hQ
theorem W2.block {i:Nat} {b:SCode} (h:W2 P N b (fun e B=>match e with| .exit j=>if j=i then Q .normal B else Q (.exit j) B|e=>Q e B) A):W2 P N (.block i b) Q A:=by
 intro code hok c a w S ro hro Q' hQ
 cases code<;>simp only[okCode,Bool.false_eq_true,Bool.and_eq_true,beq_iff_eq]at hok
 rename_i j cb
 obtain⟨rfl,hok⟩:=hok
 refine wpIn_block (h cb hok c a w S ro (fun e=>hro (by simp[SCode.rf,e])) _ ?_)
 intro e B c' a' w' hq S' E'
 cases e with
 |normal=>exact hQ .normal B c' a' w' hq S' E'
 |ret=>exact hQ .ret B c' a' w' hq S' E'
 |exit k=>
  simp only at hq
  show(if k=j then Q' .normal a' w' else Q' (.exit k) a' w')
  split
  ·rename_i e;rw[if_pos e]at hq;exact hQ .normal B c' a' w' hq S' E'
  ·rename_i e;rw[if_neg e]at hq;exact hQ (.exit k) B c' a' w' hq S' E'
def WL2 (P:Program) (N:NM) (b:SCode) (Q:SX->St->Prop) (A:St):Prop:=
 ∀cb,okCode P N.n cb b=true->∀(c:Ctx (okc P)) (a:Act) (w:World),SRel N.n c A a w->∀(ro:Option Nat),(b.rf=true->ro=none)->∀(Q':Exit->Act->World->Prop),
  (∀e B c' a' w',Q e B->SRel N.n c' B a' w'->Evo2 N.m c w c' w'->Q' e.toExit a' w')->Lp ro P cb Q' a w
theorem WL2.loop {b:SCode} (h:WL2 P N b Q A):W2 P N (.loop b) Q A:=by
 intro code hok c a w S ro hro Q' hQ
 cases code<;>simp only[okCode,Bool.false_eq_true]at hok
 exact(h _ hok c a w S ro (fun e=>hro (by simp[SCode.rf,e])) Q' hQ).loop
theorem WL2.round {b:SCode} (h:W2 P N b (fun e B=>match e with| .normal=>WL2 P N b Q B|e=>Q e B) A):WL2 P N b Q A:=by
 intro cb hok c a w S ro hro Q' hQ
 refine Lp.round (h cb hok c a w S ro hro _ ?_)
 intro e B c2 a2 w2 hq S2 E2
 cases e with
 |normal=>exact hq cb hok c2 a2 w2 S2 ro hro Q' fun e3 B3 c3 a3 w3 h3 S3 E3=>hQ e3 B3 c3 a3 w3 h3 S3 (E2.trans E3)
 |ret=>exact hQ .ret B c2 a2 w2 hq S2 E2
 |exit i=>exact hQ (.exit i) B c2 a2 w2 hq S2 E2
theorem W2.loop {b:SCode} (I:Nat->St->Prop) (n:Nat) (h0:I n A)
  (round:∀n B,I n B->W2 P N b (fun e C=>match e with| .normal=>∃m,m<n/\I m C|e=>Q e C) B):W2 P N (.loop b) Q A:=by
 refine WL2.loop ?_
 have key:∀n B,I n B->WL2 P N b Q B:=by
  intro n
  induction n using Nat.strongRecOn with
  |_ n ih=>
   intro B hI
   refine WL2.round ((round n B hI).mono ?_)
   intro e C hq
   cases e with
   |normal=>obtain⟨m,hm,hIm⟩:=hq;exact ih m hm C hIm
   |exit i=>exact hq
   |ret=>exact hq
 grind
end rules
inductive Src where
 |nil
 |blk (b g:Nat)
def Mapped (m:Nat) (π:Nat->Option Src) (h:Heap) (c:Ctx ok) (k:Nat):Prop:=
 (∃b g base,b<m/\Live h b g/\c.ρ b g=some (.loc k base))\/∃b' b g base,m<=b'/\π b'=some (.blk b g)/\c.ρ b g=some (.loc k base)
def nctx (m:Nat) (π:Nat->Option Src) (h:Heap) (c:Ctx ok):Ctx ok where
 ρ:=fun b' g'=>if b'<m then c.ρ b' g' else if g'=0 then(match π b' with|some .nil=>some .nil|some (.blk b g)=>c.ρ b g|none=>none)else none
 F:=fun k=>c.F k\/(c.O k/\¬Mapped m π h c k)
 O:=fun k=>c.O k/\Mapped m π h c k
 base:=c.base
structure Maps (m:Nat) (π:Nat->Option Src) (h:Heap):Prop where
 live:∀b' b g,m<=b'->π b'=some (.blk b g)->Live h b g/\m<=b
 inj:∀b1 b2 b g g2,m<=b1->m<=b2->π b1=some (.blk b g)->π b2=some (.blk b g2)->b1=b2
def Rn (m:Nat) (π:Nat->Option Src) (h:Heap) (x y:AV):Prop:=∀(ok:Okc) (c:Ctx ok) (w:World) (v:Value),HRel c h w->Maps m π h->VRel c w y v->VRel (nctx m π h c) w x v
def RnL (m:Nat) (π:Nat->Option Src) (h:Heap):List AV->List AV->Prop
 |[],[]=>True
 |x::xs,y::ys=>Rn m π h x y/\RnL m π h xs ys
 |_,_=>False
def RnM (m:Nat) (π:Nat->Option Src) (h:Heap):List (AV×AV)->List (AV×AV)->Prop
 |[],[]=>True
 |x::xs,y::ys=>(Rn m π h x.1 y.1/\Rn m π h x.2 y.2)/\RnM m π h xs ys
 |_,_=>False
section
variable {m:Nat} {π:Nat->Option Src} {h:Heap}
theorem QbX {c:Ctx ok} {b g:Nat} (hm:b<m):(nctx m π h c).ρ b g=c.ρ b g:=if_pos hm
theorem QdW {c:Ctx ok} {b' b g:Nat} (hm:m<=b') (hp:π b'=some (.blk b g)):(nctx m π h c).ρ b' 0=c.ρ b g:=by
 show(if b'<m then c.ρ b' 0 else if 0=0 then(match π b' with|some .nil=>some .nil|some (.blk b g)=>c.ρ b g|none=>none)else none)=_
 grind
theorem Qg9 {c:Ctx ok} {b':Nat} (hm:m<=b') (hp:π b'=some .nil):(nctx m π h c).ρ b' 0=some .nil:=by
 show(if b'<m then c.ρ b' 0 else if 0=0 then(match π b' with|some .nil=>some .nil|some (.blk b g)=>c.ρ b g|none=>none)else none)=_
 grind
theorem QiQ {c:Ctx ok} {b' g:Nat} (hm:m<=b') (hp:π b'=none):(nctx m π h c).ρ b' g=none:=by
 show(if b'<m then c.ρ b' g else if g=0 then(match π b' with|some .nil=>some .nil|some (.blk b g)=>c.ρ b g|none=>none)else none)=_
 grind
theorem Qnn {c:Ctx ok} {b' g:Nat} (hm:m<=b') (hg:g≠0):(nctx m π h c).ρ b' g=none:=by
 show(if b'<m then c.ρ b' g else if g=0 then(match π b' with|some .nil=>some .nil|some (.blk b g)=>c.ρ b g|none=>none)else none)=_
 grind
theorem Rn.any {y:AV}:Rn m π h .any y:=fun _ c w v _ _ _=>by simp[VRel]
theorem Rn.same {x:AV} (hn:noRef x=true):Rn m π h x x:=fun _ c w v _ _ hv=>VRel.noRef (c:=c) (c':=nctx m π h c) (fun _ hk=> .inl hk) _ _ hn hv
theorem Rn.ptr {b' b g off:Nat} (hm:m<=b') (hp:π b'=some (.blk b g)):Rn m π h (.ptr b' 0 off) (.ptr b g off):=fun _ c w v _ _ hv=>by
 grind [VRel,QdW]
theorem Rn.map {b' b g:Nat} (hm:m<=b') (hp:π b'=some (.blk b g)):Rn m π h (.map b' 0) (.map b g):=fun _ c w v _ _ hv=>by
 grind [VRel,QdW]
theorem Rn.sl {b' b g off len sz:Nat} (hm:m<=b') (hp:π b'=some (.blk b g)):Rn m π h (.sl b' 0 off len sz) (.sl b g off len sz):=fun _ c w v _ _ hv=>by
 grind [QdW,VRel]
theorem Rn.slnil {b' sz:Nat} (hm:m<=b') (hp:π b'=some .nil):Rn m π h (.sl b' 0 0 0 sz) .nilsl:=fun _ c w v _ _ hv=>by
 simp_all [VRel,Qg9]
theorem Rn.ptrB {b g off:Nat} (hm:b<m):Rn m π h (.ptr b g off) (.ptr b g off):=fun _ c w v _ _ hv=>by
 simp_all [QbX,VRel]
theorem Rn.mapB {b g:Nat} (hm:b<m):Rn m π h (.map b g) (.map b g):=fun _ c w v _ _ hv=>by
 simp_all [QbX,VRel]
theorem Rn.slB {b g off len sz:Nat} (hm:b<m):Rn m π h (.sl b g off len sz) (.sl b g off len sz):=fun _ c w v _ _ hv=>by
 simp_all [QbX,VRel]
theorem Rn.frznil {sz:Nat}:Rn m π h (.fsl [] 0 sz) .nilsl:=fun _ c w v _ _ hv=>by
 simp_all [VRel]
theorem Rn.frzesl {sz:Nat}:Rn m π h (.fsl [] 0 sz) .esl:=fun _ c w v _ _ hv=>by
 simp_all [VRel]
theorem RnL.same:∀{xs:List AV},noRefs xs=true->RnL m π h xs xs
 |[],_=>trivial
 |x::xs,hn=>by
  simp only[noRefs,Bool.and_eq_true]at hn
  exact⟨Rn.same hn.1,RnL.same hn.2⟩
theorem RnL.eq {xs ys:List AV} (e:xs=ys) (hn:noRefs xs=true):RnL m π h xs ys:=e▸RnL.same hn
theorem RnL.length:∀{xs ys:List AV},RnL m π h xs ys->xs.length=ys.length
 |[],[],_=>rfl
 |[],_::_,hh=>hh.elim
 |_::_,[],hh=>hh.elim
 |x::xs,y::ys,hh=>by simp[RnL.length hh.2]
theorem RnL.append:∀{xs ys us vs:List AV},RnL m π h xs ys->RnL m π h us vs->RnL m π h (xs++us) (ys++vs)
 |[],[],_,_,_,h2=>h2
 |[],_::_,_,_,hh,_=>hh.elim
 |_::_,[],_,_,hh,_=>hh.elim
 |x::xs,y::ys,_,_,hh,h2=>⟨hh.1,RnL.append hh.2 h2⟩
theorem RnL.one {x y:AV} (hh:Rn m π h x y):RnL m π h [x] [y]:=⟨hh,trivial⟩
theorem RnL.pre {c:Ctx ok} {w:World} (H:HRel c h w) (M:Maps m π h):∀{xs ys:List AV} {vs:List Value},RnL m π h xs ys->VPre c w ys vs->VPre (nctx m π h c) w xs vs
 |[],[],_,_,_=>by simp[VPre]
 |[],_::_,_,hh,_=>hh.elim
 |_::_,[],_,hh,_=>hh.elim
 |x::xs,y::ys,vs,hh,hv=>by
  simp only[VPre]at hv⊢
  obtain⟨v,vs',rfl,g1,g2⟩:=hv
  exact⟨v,vs',rfl,hh.1 _ c w v H M g1,RnL.pre H M hh.2 g2⟩
theorem RnL.rels {c:Ctx ok} {w:World} (H:HRel c h w) (M:Maps m π h):∀{xs ys:List AV} {vs:List Value},RnL m π h xs ys->VRels c w ys vs->VRels (nctx m π h c) w xs vs
 |[],[],_,_,hv=>by grind [VRels]
 |[],_::_,_,hh,_=>hh.elim
 |_::_,[],_,hh,_=>hh.elim
 |x::xs,y::ys,vs,hh,hv=>by
  simp only[VRels]at hv⊢
  obtain⟨v,vs',rfl,g1,g2⟩:=hv
  exact⟨v,vs',rfl,hh.1 _ c w v H M g1,RnL.rels H M hh.2 g2⟩
theorem Rn.agg {xs ys:List AV} (hL:RnL m π h xs ys):Rn m π h (.agg xs) (.agg ys):=fun _ c w v H M hv=>by
 simp only[VRel]at hv⊢
 obtain⟨vs,rfl,hv⟩:=hv
 exact⟨vs,rfl,hL.rels H M hv⟩
theorem Rn.tup {xs ys:List AV} (hL:RnL m π h xs ys):Rn m π h (.tup xs) (.tup ys):=fun _ c w v H M hv=>by
 simp only[VRel]at hv⊢
 obtain⟨vs,rfl,hv⟩:=hv
 exact⟨vs,rfl,hL.rels H M hv⟩
theorem Rn.fn {f:Nat} {xs ys us vs:List AV} (hL:RnL m π h xs ys) (hK:RnL m π h us vs):Rn m π h (.fn f xs us) (.fn f ys vs):=fun _ c w v H M hv=>by
 simp only[VRel]at hv⊢
 obtain⟨x',y',rfl,h1,h2⟩:=hv
 exact⟨x',y',rfl,hL.rels H M h1,hK.rels H M h2⟩
theorem Rn.typed {t n:Nat} {x y:AV} (hh:Rn m π h x y):Rn m π h (.typed t n x) (.typed t n y):=fun _ c w v H M hv=>by
 simp only[VRel]at hv⊢
 exact⟨hv.1,hh _ c w _ H M hv.2⟩
theorem Maps.out {c:Ctx ok} {w:World} (H:HRel c h w) (M:Maps m π h) {b g cb base:Nat} (hl:Live h b g) (hp:c.ρ b g=some (.loc cb base)) (hm:m<=b) (hn:∀b' g',m<=b'->π b'≠some (.blk b g')):¬Mapped m π h c cb:=by
 rintro(⟨b1,g1,base1,h1,hl1,h2⟩|⟨b',b1,g1,base1,h0,h1,h2⟩)
 ·have := H.inj _ _ _ _ _ _ _ hl hl1 hp h2
  omega
 ·obtain ⟨l1, l2⟩ := M.live _ _ _ h0 h1
  have:=H.inj _ _ _ _ _ _ _ hl l1 hp h2
  simp_all
theorem Rn.frz {b g off len sz : Nat} {cs ds : List AV} (hb : h.get b = some (.cells g ds)) (hm : m <= b) (hn : ∀ b' g', m <= b' -> π b' ≠ some (.blk b g')) (hl : off + len * sz <= ds.length)
    (hL:RnL m π h cs ((ds.drop off).take (len*sz))):Rn m π h (.fsl cs len sz) (.sl b g off len sz):=fun _ c w v H M hv=>by
  have hlen:=hL.length
  simp only[VRel]at hv
  rcases hv with⟨hp,rfl,rfl,rfl⟩|⟨cb,base,o,cap,C,e,fr,hp,rfl,hlc,hC,hcap⟩
  · simp_all [VRel]
  · obtain ⟨C', e', fr', hO, hC', hfr, hbs, hpre⟩ := H.here hb hp
    have hout:=M.out H ⟨_,hb,rfl,fun k=>by simp⟩ hp hm hn
    rw[hC]at hC';cases hC'
    by_cases h0:cap=0
    · have hl0 : len = 0 := by omega
      subst hl0
      have hys:cs=[]:=by
        simp_all
      subst hys
      simp only[VRel]
      simp_all
    · obtain ⟨rfl, hbd⟩ := hcap.resolve_left h0
      have hp2:=Qb6 (len*sz) (Qbi off hpre)
      rw[List.drop_drop]at hp2
      simp only[VRel]
      exact .inr ⟨cb,base+off,cap,C,e,fr,rfl,hlc,by grind,.inr ⟨hO,hout⟩,hC,hL.pre H M hp2⟩
theorem Rn.frzp {b g off:Nat} {cs ds:List AV} (hb:h.get b=some (.cells g ds)) (hm:m<=b) (hn:∀b' g',m<=b'->π b'≠some (.blk b g')) (hc:ds≠[])
  (hL:RnL m π h cs (ds.drop off)):Rn m π h (.fptr cs) (.ptr b g off):=fun _ c w v H M hv=>by
 simp only[VRel]at hv
 obtain⟨cb,base,hp,rfl⟩:=hv
 obtain⟨C',e',fr',hO,hC',hfr,hbs,hpre⟩:=H.here hb hp
 have hout:=M.out H ⟨_,hb,rfl,fun k=>by simp⟩ hp hm hn
 have hp2:=Qbi off hpre
 rw[List.drop_drop]at hp2
 simp only[VRel]
 exact⟨cb,base+off,C',e',fr',rfl,.inr ⟨hO,hout⟩,hC',hL.pre H M hp2⟩
def BRn (m:Nat) (π:Nat->Option Src) (h:Heap):Option Src->Blk->Prop
 |some .nil,.cells _ cs=>cs=[]
 |some (.blk b g),.cells _ cs=>∃ds k,h.get b=some (.cells g ds)/\RnL m π h cs (ds.take k)
 |some (.blk b g),.map _ es=>∃fs,h.get b=some (.map g fs)/\RnM m π h es fs
 |some (.blk b g),.loop _ N T ps asg body st=>∃T0,h.get b=some (.loop g N T0 ps asg body st)/\∀i,Rn m π h (lk T i) (lk T0 i)
 |some (.blk b g),.dead _=>h.get b=some (.dead g)
 |_,_=>False
def RH (m:Nat) (π:Nat->Option Src) (h h':Heap):Prop:=∀b' x',h'.get b'=some x'->(b'<m/\BRn m π h (some (.blk b' x'.gen)) x')\/(m<=b'/\x'.gen=0/\(∀g,x'≠ .dead g)/\BRn m π h (π b') x')
def RD (m:Nat) (π:Nat->Option Src) (h h':Heap):Prop:=∀b',h'.get b'=none->(b'<m->h.get b'=none)/\(m<=b'->π b'=none)
def RT (m:Nat) (π:Nat->Option Src) (h:Heap) (T' T:Tmps):Prop:=∀i,Rn m π h (lk T' i) (lk T i)
theorem RnM.rel {c:Ctx ok} {w:World} (H:HRel c h w) (M:Maps m π h):∀{xs ys:List (AV×AV)} {es:List MapEntry} {k:Nat},RnM m π h xs ys->MRel c w ys es k->MRel (nctx m π h c) w xs es k
 |[],[],_,_,_,hv=>by grind [MRel]
 |[],_::_,_,_,hh,_=>hh.elim
 |_::_,[],_,_,hh,_=>hh.elim
 | (k1, x1) :: xs, (k2, x2) :: ys, es, k, hh, hv => by
  simp only[MRel]at hv⊢
  obtain⟨e,es',rfl,h2,h3,h4,h5,h6⟩:=hv
  have hl:xs.length=ys.length:=by
   have:∀{xs ys:List (AV×AV)},RnM m π h xs ys->xs.length=ys.length:=by
    intro xs
    induction xs with
    |nil=>intro ys hh;cases ys with|nil=>rfl|cons=>exact hh.elim
    |cons x xs ih=>intro ys hh;cases ys with|nil=>exact hh.elim|cons y ys=>simp[ih hh.2]
   exact this hh.2
  exact⟨e,es',rfl,hh.1.1 _ c w _ H M h2,hh.1.2 _ c w _ H M h3,h4,by omega,RnM.rel H M hh.2 h6⟩
theorem RnM.length:∀{xs ys:List (AV×AV)},RnM m π h xs ys->xs.length=ys.length
 |[],[],_=>rfl
 |[],_::_,hh=>hh.elim
 |_::_,[],hh=>hh.elim
 |x::xs,y::ys,hh=>by simp[RnM.length hh.2]
theorem RH.hrel {h':Heap} {c:Ctx ok} {w:World} (hb:RH m π h h') (hd:RD m π h h') (M:Maps m π h) (H:HRel c h w):HRel (nctx m π h c) h' w:=by
 have base:∀b' x',b'<m->BRn m π h (some (.blk b' x'.gen)) x'->∃x,h.get b'=some x/\x.gen=x'.gen/\((∀k,x'≠ .dead k)->∀k,x≠ .dead k):=by
  intro b' x' _ hx
  cases x' with
  |cells g cs=>obtain⟨ds,_,h1,_⟩:=hx;exact⟨_,h1,rfl,fun _ k=>by simp⟩
  |map g es=>obtain⟨ds,h1,_⟩:=hx;exact⟨_,h1,rfl,fun _ k=>by simp⟩
  |loop g N T ps asg body st=>obtain⟨T0,h1,_⟩:=hx;exact⟨_,h1,rfl,fun _ k=>by simp⟩
  |dead g=>exact⟨_,hx,rfl,fun hh=>absurd rfl (hh g)⟩
 refine⟨?_,?_,?_,?_,?_,?_,?_⟩
 ·intro b' hg g
  obtain⟨d1,d2⟩:=hd b' hg
  rcases Nat.lt_or_ge b' m with hlt|hlt
  ·rw[QbX hlt];exact H.fresh b' (d1 hlt) g
  simp_all [QiQ]
 ·intro b' x' hg g hlt
  rcases hb b' x' hg with⟨hm,hx⟩|⟨hm,h0,_,hx⟩
  ·obtain ⟨x, h1, h2, _⟩ := base b' x' hm hx
   rw[QbX hm]
   exact H.later b' x h1 g (by omega)
  grind [Qnn]
 ·intro b' x' hg
  have own:∀(b g:Nat),(b<m/\Live h b g)\/(m<=b'/\π b'=some (.blk b g))->∀cb base,c.ρ b g=some (.loc cb base)->c.O cb->(nctx m π h c).O cb:=by
   intro b g hs cb base hp hO
   refine⟨hO,?_⟩
   rcases hs with⟨h1,h2⟩|⟨h1,h2⟩
   ·exact .inl ⟨b,g,base,h1,h2,hp⟩
   ·exact .inr ⟨b',b,g,base,h1,h2,hp⟩
  have main:∀(b g:Nat),((b<m/\Live h b g)\/(m<=b'/\π b'=some (.blk b g)))\/(∃k,x'= .dead k)->(nctx m π h c).ρ b' x'.gen=c.ρ b g->BRn m π h (some (.blk b g)) x'->BRel (nctx m π h c) w b' x':=by
   intro b g hs hr hx
   cases x' with
   |dead k=>trivial
   | cells g' cs =>
    have hs:=hs.resolve_right (by simp)
    obtain⟨ds,kk,h1,h2⟩:=hx
    change(nctx m π h c).ρ b' g'=_ at hr
    rcases H.blk b _ h1 with⟨k1,rfl⟩|⟨cb,bs,C,e,fr,k1,k2,k3,k4,k5,k6⟩
    ·left
     refine⟨hr.trans k1,?_⟩
     rw[List.take_nil]at h2
     cases cs with
     |nil=>rfl
     |cons=>exact h2.elim
    ·right
     exact⟨cb,bs,C,e,fr,hr.trans k1,own b g hs cb bs k1 k2,k3,k4,k5,h2.pre H M (Qb6 kk k6)⟩
   |map g' es=>
    have hs:=hs.resolve_right (by simp)
    obtain⟨fs,h1,h2⟩:=hx
    change(nctx m π h c).ρ b' g'=_ at hr
    obtain⟨cb,es',clock,k1,k2,k3,k4⟩:=H.blk b _ h1
    exact⟨cb,es',clock,hr.trans k1,own b g hs cb 0 k1 k2,k3,h2.rel H M k4.1,by rw[h2.length];exact k4.2⟩
   |loop g' N T ps asg body st=>
    have hs:=hs.resolve_right (by simp)
    obtain⟨T0,h1,h2⟩:=hx
    change(nctx m π h c).ρ b' g'=_ at hr
    obtain⟨cb,r,k1,k2,k3,L⟩:=H.blk b _ h1
    exact⟨cb,r,hr.trans k1,own b g hs cb 0 k1 k2,k3,L.params,L.size,fun i=>h2 i _ c w _ H M (L.tmps i),L.okA,L.okB,L.state,L.pend⟩
  rcases hb b' x' hg with⟨hm,hx⟩|⟨hm,h0,hnd,hx⟩
  ·obtain ⟨x, h1, h2, h3⟩ := base b' x' hm hx
   refine main b' x'.gen ?_ (QbX hm) hx
   by_cases hdead:∃k,x'= .dead k
   ·simp_all
   ·exact .inl (.inl ⟨hm,x,h1,h2,h3 fun k e=>hdead ⟨k,e⟩⟩)
  ·rcases hp : π b' with _ | _ | ⟨b, g⟩
   ·rw[hp]at hx;exact hx.elim
   ·rw [hp] at hx
    cases x' with
    |dead k=>trivial
    |map g' es=>exact hx.elim
    |loop g' N T ps asg body st=>exact hx.elim
    |cells g' cs=>
     have hx:cs=[]:=hx
     have h0:g'=0:=h0
     subst h0
     left
     exact⟨Qg9 hm hp,hx⟩
   grind [QdW]
 ·intro b1 g1 b2 g2 cb base1 base2 l1 l2 p1 p2
  have key:∀b1 g1 base1,Live h' b1 g1->(nctx m π h c).ρ b1 g1=some (.loc cb base1)->(b1<m/\Live h b1 g1/\c.ρ b1 g1=some (.loc cb base1))\/(m<=b1/\∃b g,π b1=some (.blk b g)/\c.ρ b g=some (.loc cb base1)):=by
   rintro b1 g1 base1 ⟨x1,hx1,rfl,hd1⟩ p1
   rcases hb b1 x1 hx1 with⟨hm,hx⟩|⟨hm,h0,hnd,hx⟩
   ·rw [QbX hm] at p1
    obtain⟨x,k1,k2,k3⟩:=base b1 x1 hm hx
    exact .inl ⟨hm,⟨x,k1,k2,k3 hd1⟩,p1⟩
   ·rw [h0] at p1
    rcases hp:π b1 with _|_|⟨b,g⟩
    ·simp_all [QiQ]
    ·simp_all [Qg9]
    ·rw[QdW hm hp]at p1;grind
  rcases key b1 g1 base1 l1 p1 with⟨k1,k2,k3⟩|⟨k1,b,g,k2,k3⟩<;>rcases key b2 g2 base2 l2 p2 with⟨j1,j2,j3⟩|⟨j1,b',g',j2,j3⟩
  ·exact H.inj _ _ _ _ _ _ _ k2 j2 k3 j3
  ·obtain ⟨q1, q2⟩ := M.live _ _ _ j1 j2
   have:=H.inj _ _ _ _ _ _ _ k2 q1 k3 j3
   omega
  ·obtain ⟨q1, q2⟩ := M.live _ _ _ k1 k2
   have:=H.inj _ _ _ _ _ _ _ q1 j2 k3 j3
   omega
  ·obtain ⟨q1, q2⟩ := M.live _ _ _ j1 j2
   obtain⟨r1,r2⟩:=M.live _ _ _ k1 k2
   have:=H.inj _ _ _ _ _ _ _ r1 q1 k3 j3
   subst this
   exact M.inj _ _ _ _ _ k1 j1 k2 j2
 ·intro k hF hO
  rcases hF with hF|hF
  ·exact H.disj k hF hO.1
  ·exact hF.2 hO.2
 ·intro k hF
  rcases hF with hF|hF
  ·exact H.inF k hF
  ·exact H.inO k hF.1
 ·intro k hO;exact H.inO k hO.1
theorem QdX (c:Ctx ok) (w:World):Evo2 m c w (nctx m π h c) w:=
 ⟨rfl, rfl, rfl, Nat.le_refl _, fun _ C _ fr hh => ⟨C, fr, hh, rfl⟩, fun _ _ _ => rfl, fun b g p hb hp => (QbX hb).trans hp, fun _ hk => .inl hk,
  fun k hk=>hk.elim .inl fun hk=> .inr (.inl hk.1),fun k hk=> .inl hk.1,rfl⟩
theorem W2.recast {N:NM} {sc:SCode} {Q:SX->St->Prop} {T T':Tmps} {h':Heap} (M:Maps N.m π h) (hb:RH N.m π h h') (hd:RD N.m π h h') (ht:RT N.m π h T' T) (hw:W2 P N sc Q ⟨T',h'⟩):W2 P N sc Q ⟨T,h⟩:=by
 intro code hok c a w S ro hro Q' hQ
 refine hw code hok (nctx N.m π h c) a w ⟨hb.hrel hd M S.heap,fun i=>ht i _ c w _ S.heap M (S.tmps i),S.size,S.defers.mono2 (QdX (m:=N.m) (π:=π) (h:=h) c w)⟩ ro hro Q' ?_
 intro e B c' a' w' hq S' E'
 exact hQ e B c' a' w' hq S' ((QdX c w).trans E')
end
theorem Evo2.rebase {m:Nat} {c c':Ctx ok} {w w':World} {n:Nat} (E:Evo2 m (c.rb n) w c' w'):Evo2 m c w (c'.rb (c.base)) w':=
 ⟨E.os,E.tape,E.output,E.size,E.shape,E.keep,E.rho,E.frz,E.frzNew,E.own,rfl⟩
theorem QhC {m:Nat} {c0:Ctx (okc P)} {w0:World} {fn:Func} {a:Act} {T:Tmps} {h:Heap} {c:Ctx (okc P)} {R:Ending->World->Prop} (hb:w0.heap.size<=c.base)
  (fin:∀w,HRel c h w->TRel c w T a->Evo2 m c0 w0 c w->∃v,(results fn a.tmps).run P w= .ok v w/\R (.returned v) w):
  ∀(ds:List Deferred) (w:World),Marks c w ds->HRel c h w->TRel c w T a->Evo2 m c0 w0 c w->LeavesInM Fence.wide 0 P fn a.tmps R ds .returning w
 |[],w,_,H,ht,E=>fin w H ht E
 | d :: ds, w, ⟨⟨D, h1, h2, h3, h4, h5, h6⟩, hr⟩, H, ht, E => by
  obtain⟨H',X⟩:=H.mark (o:= .deferred none) h3 h4 h5
  have other:∀k,k≠D->(w.putObj D (.deferred none)).heap[k]?=w.heap[k]?:=fun k hk=>World.putObj_heap_other hk
  refine⟨by simp,.inl ⟨D,w.putObj D (.deferred none),by rw[h1],run_takeDeferred h5,?_⟩⟩
  refine QhC hb fin ds _ ?_ H' (fun i=>VRel.mono X _ _ (ht i)) ?_
  ·clear fin
   induction ds with
   |nil=>show c.base<=_;rw[World.putObj_size];exact hr
   |cons d2 ds ih=>
    obtain⟨⟨D2,k1,k2,k3,k4,k5,k6⟩,kr⟩:=hr
    refine⟨⟨D2,k1,k2,k3,k4,?_,k6⟩,ih (fun d' hd'=>h6 d' (List.mem_cons_of_mem _ hd')) kr⟩
    rw[other D2 (fun e=>?_)]
    ·exact k5
    ·simp_all
  ·refine ⟨E.os, E.tape, E.output, by grind [World.putObj_size], fun cb C e fr hc => ?_, fun cb hlt hO => ?_, E.rho, E.frz, E.frzNew, E.own, E.base⟩
   ·obtain ⟨C', fr', g1, g2⟩ := E.shape cb C e fr hc
    grind
   ·rw[other cb (by omega)];exact E.keep cb hlt hO
theorem Qc3 {f m:Nat} {sf:SFn} {args:List AV} {h:Heap} {R:List AV->Heap->Prop} (hok:okFn P f sf=true) (hl:args.length<=sf.n)
  (hw:W2 P ⟨sf.n,m⟩ sf.body (fun e B=>(e= .normal\/e= .ret)/\∃vs,resV B.T B.h sf.res=some vs/\R vs B.h) ⟨argT 0 args,h⟩)
  {c:Ctx (okc P)} {w:World} {cargs:Array Value} (H:HRel c h w) (ha:VRels c w args cargs.toList):
  Calls P f cargs w fun e w'=>∃cv c' vs h',e= .returned cv/\Evo2 m c w c' w'/\HRel c' h' w'/\VRel c' w' (resOf vs) cv/\R vs h':=by
 obtain⟨fn,code,hf,hb,hc,hn,hr,_⟩:=Qb8 hok
 have hlen:=QaC ha
 have hlen:args.length=cargs.size:=by omega
 refine(callsIn_wide (n:=0)).1 (callsIn_of_wp_marks hf hb trivial ?_)
 refine hw code hc (c.rb (w.heap.size)) _ w ⟨H.rebase _,?_,?_,Nat.le_refl _⟩ none (fun _=>rfl) _ ?_
 ·intro i
  refine VRel.rebase _ ?_
  by_cases hi:i<args.length
  ·have := Qg7 args cargs.toList 0 [] i ha rfl
   simp only[List.nil_append]at this
   have e:(cargs++Array.replicate (fn.ntmps-cargs.size) undef).getD i undef=cargs.toList.getD i undef:=by
    simp_all [Array.getElem?_append_left]
   simp_all
  simp_all [Qg8,VRel]
 ·simp;omega
 ·intro e B c' a' w' hq S' E'
  obtain⟨he,vs,hvs,hR⟩:=hq
  have out:LeavesInM Fence.wide 0 P fn a'.tmps (fun e w'=>∃cv c' vs h',e= .returned cv/\Evo2 m c w c' w'/\HRel c' h' w'/\VRel c' w' (resOf vs) cv/\R vs h') a'.defers .returning w':=by
   refine QhC (m:=m) (c0:=(c.rb (w.heap.size))) (w0:=w) (T:=B.T) (h:=B.h) (c:=c') (by rw[E'.base];simp_all) ?_ a'.defers w' S'.defers S'.heap S'.tmps E'
   intro w2 H2 ht2 E2
   obtain⟨cv,k1,k2⟩:=Qfk H2 ht2 hr hvs
   exact⟨cv,k1,cv,(c'.rb (c.base)),vs,B.h,rfl,E2.rebase,H2.rebase _,k2.rebase _,hR⟩
  rcases he with rfl|rfl
  ·exact out
  ·exact out
abbrev π0:Nat->Option Src:=fun _=>none
theorem maps0 {h:Heap}:Maps 0 π0 h:=⟨fun b' b g _ hh=>by simp_all,fun b1 b2 b g g2 _ _ hh _=>by simp_all⟩
theorem PSpec.of_W2 {f:Nat} {sf:SFn} {args:List AV} {v:AV} (hok:okFn P f sf=true) (hl:args.length<=sf.n) (ha:noRefs args=true) (hv:noRef v=true)
  (hw:W2 P ⟨sf.n,0⟩ sf.body (fun e B=>(e= .normal\/e= .ret)/\∃vs,resV B.T B.h sf.res=some vs/\Rn 0 π0 B.h v (resOf vs)) ⟨argT 0 args,.e⟩):PSpec P f args v:=by
 obtain⟨_,_,_,_,_,_,_,hc⟩:=Qb8 hok
 refine⟨ha,hv,.e,hc,fun c w cargs H ha=>(Qc3 (R:=fun vs k=>Rn 0 π0 k v (resOf vs)) hok hl hw H ha).mono ?_⟩
 rintro e w' ⟨cv,c',vs,k,rfl,E,H',V,hk⟩
 have V':=hk _ c' w' cv H' maps0 V
 have hF:∀b,c'.F b\/c'.O b->b<w'.heap.size:=fun b hb=>hb.elim (H'.inF b) (H'.inO b)
 refine⟨cv,only (fun b=>c'.F b\/c'.O b) c.base,rfl,?_,HRel.only hF,VRel.noRef (c:=nctx 0 π0 k c') (c':=only (fun b=>c'.F b\/c'.O b) c.base) (fun _ h=>h.elim .inl fun h=> .inr h.1) _ _ hv V'⟩
 refine⟨E.os,E.tape,E.output,E.size,E.shape,E.keep,fun b g p hp=>?_,fun b hb=> .inl (E.frz b hb),fun b hb=>?_,fun b hb=>hb.elim,rfl⟩
 ·rw[H.fresh b rfl g]at hp;cases hp
 ·rcases hb with hb | hb
  ·exact E.frzNew b hb
  ·rcases E.own b hb with h1 | h1
   ·simp_all
   omega
theorem HSpec.of_W2 {f m:Nat} {sf:SFn} {args:List AV} {h h':Heap} {v:AV} (hok:okFn P f sf=true) (hl:args.length<=sf.n) (hm:∀b,m<=b->h.get b=none)
  (hw:W2 P ⟨sf.n,m⟩ sf.body (fun e B=>(e= .normal\/e= .ret)/\∃vs π,resV B.T B.h sf.res=some vs/\Maps m π B.h/\RH m π B.h h'/\RD m π B.h h'/\Rn m π B.h v (resOf vs)) ⟨argT 0 args,h⟩):HSpec P f args h v h':=by
 obtain⟨_,_,_,_,_,_,_,hc⟩:=Qb8 hok
 refine⟨hc,fun c w cargs H ha=>(Qc3 (R:=fun vs k=>∃π,Maps m π k/\RH m π k h'/\RD m π k h'/\Rn m π k v (resOf vs)) hok hl (hw.mono fun e B ⟨h1,vs,π,h2,h3⟩=>⟨h1,vs,h2,π,h3⟩) H ha).mono ?_⟩
 rintro e w' ⟨cv,c',vs,k,rfl,E,H',V,π,M,hb,hd,hk⟩
 have E2:=E.trans (QdX (m:=m) (π:=π) (h:=k) c' w')
 refine⟨cv,nctx m π k c',rfl,?_,hb.hrel hd M H',hk _ c' w' cv H' M V⟩
 refine⟨E2.os,E2.tape,E2.output,E2.size,E2.shape,E2.keep,fun b g p hp=>?_,E2.frz,E2.frzNew,E2.own,E2.base⟩
 rcases Nat.lt_or_ge b m with h1|h1
 ·exact E2.rho b g p h1 hp
 ·rw[H.fresh b (hm b h1) g]at hp;cases hp
end Go.AM
namespace Go.AM
variable {P:Program}
def wpR (P:Program):Nat->List SOper->Tmps->Heap->(Tmps->Heap->Nat->Prop)->Prop
 |n,[],T,h,K=>K T h n
 |n,s::r,T,h,K=>∃v h1 f,StepV P n s T h v h1 f/\wpR P (n+1) r (putD T s.dst v) h1 K
theorem wpR.toWR:∀{r:List SOper} {n i:Nat} {T:Tmps} {h:Heap} {K:Tmps->Heap->Nat->Prop},wpR P (n+i) r T h K->WR P n i r T h fun T h=>K T h (n+i+r.length)
 |[],n,i,T,h,K,hk=>hk
 |s::r,n,i,T,h,K,⟨v,h1,f,hs,hr⟩=>by
  refine⟨f,v,h1,hs,?_⟩
  have:=wpR.toWR (i:=i+1) hr
  grind
def wpRF (P:Program):Nat->List SOper->Tmps->Heap->(List FP->Tmps->Heap->Nat->Prop)->Prop
 |n,[],T,h,K=>K [] T h n
 |n,s::r,T,h,K=>∃v h1 f,StepV P n s T h v h1 f/\wpRF P (n+1) r (putD T s.dst v) h1 fun fs T h n=>K (f::fs) T h n
theorem wpRF.toF:∀{r:List SOper} {n i:Nat} {T:Tmps} {h:Heap} {K:List FP->Tmps->Heap->Nat->Prop},wpRF P (n+i) r T h K->
  ∃fs T' h',RunF P n i r fs ⟨T,h⟩ ⟨T',h'⟩/\K fs T' h' (n+i+r.length)
 |[],n,i,T,h,K,hk=>⟨[],T,h,⟨rfl,rfl⟩,hk⟩
 |s::r,n,i,T,h,K,⟨v,h1,f,hs,hr⟩=>by
  obtain⟨fs,T',h',h2,hk⟩:=wpRF.toF (i:=i+1) hr
  refine⟨f::fs,T',h',⟨f,fs,v,h1,rfl,hs,h2⟩,?_⟩
  grind
abbrev QC:=SX->Tmps->Heap->Nat->Prop
def wpC (P:Program) (N:NM):SCode->Nat->Tmps->Heap->QC->Prop
 | .skip,n,T,h,Q=>Q .normal T h n
 | .ret,n,T,h,Q=>Q .ret T h n
 | .exit i,n,T,h,Q=>Q (.exit i) T h n
 | .bad,_,_,_,_=>False
 | .mloop pre x it nx ok en b1 b2 rest body,n,T,h,Q=>W2 P N (.mloop pre x it nx ok en b1 b2 rest body) (fun e B=>∃n,Q e B.T B.h n) ⟨T,h⟩
 | .rfunc g ps M asg body,n,T,h,Q=>W2 P N (.rfunc g ps M asg body) (fun e B=>∃n,Q e B.T B.h n) ⟨T,h⟩
 | .region ops [] dead,n,T,h,Q=>wpR P n ops T h fun T h n=>Q .normal (rm T dead) h n
 | .region ops (p::ps) dead,n,T,h,Q=>wpRF P n ops T h fun fs T h n=>((p::ps).all fun p=>(fs.getD p.1 ⟨false,[],[]⟩).apart (fs.getD p.2 ⟨false,[],[]⟩))=true/\Q .normal (rm T dead) h n
 | .seq a b,n,T,h,Q=>wpC P N a n T h fun e T h n=>match e with
  | .normal=>wpC P N b n T h Q
  |e=>Q e T h n
 | .cond x a b,n,T,h,Q=>∃t,ev T x= .bool t/\if t=true then wpC P N a n T h Q else wpC P N b n T h Q
 | .block i b,n,T,h,Q=>wpC P N b n T h fun e T h n=>match e with
  | .exit j=>if j=i then Q .normal T h n else Q (.exit j) T h n
  |e=>Q e T h n
 | .loop b,n,T,h,Q=>W2 P N (.loop b) (fun e B=>∃n,Q e B.T B.h n) ⟨T,h⟩
theorem wpC.toW {N:NM}:∀{c:SCode} {n:Nat} {T:Tmps} {h:Heap} {Q:QC},wpC P N c n T h Q->W2 P N c (fun e B=>∃n,Q e B.T B.h n) ⟨T,h⟩
 | .skip,n,T,h,Q,hk=>W2.skip ⟨n,hk⟩
 | .ret,n,T,h,Q,hk=>W2.ret ⟨n,hk⟩
 | .exit i,n,T,h,Q,hk=>W2.exit ⟨n,hk⟩
 | .bad,_,_,_,_,hk=>hk.elim
 | .mloop ..,n,T,h,Q,hk=>hk
 | .rfunc ..,n,T,h,Q,hk=>hk
 | .region ops [] dead,n,T,h,Q,hk=>by
  have:=wpR.toWR (i:=0) hk
  exact W2.of_W<|W.regionR n (this|>fun h=>by simpa using(show _ from(wr_mono h)))
 | .region ops (p::ps) dead,n,T,h,Q,hk=>by
  obtain⟨fs,T',h',h1,h2,h3⟩:=wpRF.toF (i:=0) hk
  exact W2.of_W<|W.regionF n fs h1 h2 ⟨_,h3⟩
 | .seq a b,n,T,h,Q,hk=>by
  simp only[wpC]at hk
  refine W2.seq ((wpC.toW (c:=a) hk).mono ?_)
  rintro e B ⟨n',hq⟩
  cases e with
  |normal=>exact wpC.toW hq
  |exit i=>exact⟨n',hq⟩
  |ret=>exact⟨n',hq⟩
 | .cond x a b,n,T,h,Q,⟨t,hx,hk⟩=>by
  refine W2.cond hx ?_ ?_
  ·intro e;rw[if_pos e]at hk;exact wpC.toW hk
  ·intro e;rw[if_neg (by simp[e])]at hk;exact wpC.toW hk
 | .block i b, n, T, h, Q, hk => by
  simp only[wpC]at hk
  refine W2.block ((wpC.toW (c:=b) hk).mono ?_)
  rintro e B ⟨n',hq⟩
  cases e with
  |normal=>exact⟨n',hq⟩
  |ret=>exact⟨n',hq⟩
  |exit j=>
   simp only at hq⊢
   split
   ·rename_i e;rw[if_pos e]at hq;exact⟨n',hq⟩
   ·rename_i e;rw[if_neg e]at hq;exact⟨n',hq⟩
 | .loop b,n,T,h,Q,hk=>hk
where
 wr_mono {ops:List SOper} {n:Nat} {T:Tmps} {h:Heap} {dead:List Nat} {Q:QC} {m:Nat} (hk:WR P n 0 ops T h fun T h=>Q .normal (rm T dead) h m):WR P n 0 ops T h fun T h=>∃n,Q .normal (rm T dead) h n:=by
  have:∀{r:List SOper} {i:Nat} {T:Tmps} {h:Heap} {K K':Tmps->Heap->Prop},WR P n i r T h K->(∀T h,K T h->K' T h)->WR P n i r T h K':=by
   intro r
   induction r with
   |nil=>intro i T h K K' hk hK;exact hK _ _ hk
   |cons s r ih=>
    intro i T h K K' ⟨f,v,h1,hs,hr⟩ hK
    exact⟨f,v,h1,hs,ih hr hK⟩
  exact this hk fun T h hq=>⟨m,hq⟩
end Go.AM
namespace Go.AM
variable {P:Program}
inductive Fr where
 |sq (b:SCode)
 |blk (i:Nat)
def ct (P:Program) (N:NM):List Fr->QC->QC
 |[],Q=>Q
 | .sq b::fs,Q=>fun e T h n=>match e with
  | .normal=>wpC P N b n T h (ct P N fs Q)
  |e=>ct P N fs Q e T h n
 | .blk i::fs,Q=>fun e T h n=>match e with
  | .exit j=>if j=i then ct P N fs Q .normal T h n else ct P N fs Q (.exit j) T h n
  |e=>ct P N fs Q e T h n
def wS (P:Program) (N:NM) (c:SCode) (fs:List Fr) (n:Nat) (T:Tmps) (h:Heap) (Q:QC):Prop:=wpC P N c n T h (ct P N fs Q)
def wR (P:Program) (N:NM) (ops:List SOper) (dead:List Nat) (fs:List Fr) (n:Nat) (T:Tmps) (h:Heap) (Q:QC):Prop:=wpR P n ops T h fun T h n=>ct P N fs Q .normal (rm T dead) h n
def wX (P:Program) (N:NM) (e:SX) (fs:List Fr) (n:Nat) (T:Tmps) (h:Heap) (Q:QC):Prop:=ct P N fs Q e T h n
def wO (P:Program) (N:NM) (o:Option AV) (d:Option Nat) (ops:List SOper) (dead:List Nat) (fs:List Fr) (n:Nat) (T:Tmps) (h:Heap) (Q:QC):Prop:=
 ∃v,o=some v/\wR P N ops dead fs (n+1) (putD T d v) h Q
def wM (P:Program) (N:NM) (m:HM AV) (d:Option Nat) (ops:List SOper) (dead:List Nat) (fs:List Fr) (n:Nat) (T:Tmps) (h:Heap) (Q:QC):Prop:=
 ∃v h1,m.run h=some (v,h1)/\wR P N ops dead fs (n+1) (putD T d v) h1 Q
def wG (P:Program) (N:NM) (o:Option Bool) (d:Option Nat) (op:SOp) (ops:List SOper) (dead:List Nat) (fs:List Fr) (n:Nat) (T:Tmps) (h:Heap) (Q:QC):Prop:=
 match o with
 |some true=>wR P N (⟨d,op,[],none⟩::ops) dead fs n T h Q
 |some false=>wR P N ops dead fs (n+1) (putD T d (.tup [])) h Q
 |none=>False
def wC (P:Program) (N:NM) (x:AV) (a b:SCode) (fs:List Fr) (n:Nat) (T:Tmps) (h:Heap) (Q:QC):Prop:=
 ∃t,x= .bool t/\if t=true then wS P N a fs n T h Q else wS P N b fs n T h Q
def wCall (P:Program) (N:NM) (m:CallM) (x:AV) (args:List AV) (d:Option Nat) (ops:List SOper) (dead:List Nat) (fs:List Fr) (n:Nat) (T:Tmps) (h:Heap) (Q:QC):Prop:=
 match x with
 | .fn f a c=>match m with
  | .pure=>∃v,PSpec P f (a++args++c) v/\wR P N ops dead fs (n+1) (putD T d v) h Q
  | .heap=>∃v h1,HSpec P f (a++args++c) h v h1/\wR P N ops dead fs (n+1) (putD T d v) h1 Q
  | .borrow=>∃asg h1 v,(mapH (frzH 4) (a++args++c)).run h=some (asg,h1)/\PSpec P f asg v/\flatV v=true/\wR P N ops dead fs (n+1) (putD T d v) h1 Q
 | .yld b g=>match m with
  | .heap=>∃v h1,RSpec P b g args h v h1/\wR P N ops dead fs (n+1) (putD T d v) h1 Q
  |_=>False
 |_=>False
section
variable {N:NM} {n:Nat} {T:Tmps} {h:Heap} {Q:QC} {fs:List Fr}
theorem Qmc:wS P N .skip fs n T h Q=wX P N .normal fs n T h Q:=rfl
theorem Qn6:wS P N .ret fs n T h Q=wX P N .ret fs n T h Q:=rfl
theorem Qmd {i:Nat}:wS P N (.exit i) fs n T h Q=wX P N (.exit i) fs n T h Q:=rfl
theorem QiR {ops:List SOper} {dead:List Nat}:wS P N (.region ops [] dead) fs n T h Q=wR P N ops dead fs n T h Q:=rfl
theorem Qn7 {a b:SCode}:wS P N (.seq a b) fs n T h Q=wS P N a (.sq b::fs) n T h Q:=rfl
theorem Qme {x:Opd} {a b:SCode}:wS P N (.cond x a b) fs n T h Q=wC P N (ev T x) a b fs n T h Q:=rfl
theorem Qki {i:Nat} {b:SCode}:wS P N (.block i b) fs n T h Q=wS P N b (.blk i::fs) n T h Q:=rfl
theorem Qmf {a b:SCode}:wC P N (.bool true) a b fs n T h Q=wS P N a fs n T h Q:=by simp[wC]
theorem Qkj {a b:SCode}:wC P N (.bool false) a b fs n T h Q=wS P N b fs n T h Q:=by simp[wC]
theorem Qmg {t:Bool} {a b:SCode}:wC P N (.bool t) a b fs n T h Q=if t=true then wS P N a fs n T h Q else wS P N b fs n T h Q:=by simp_all [wC]
theorem Qn8 {e:SX}:wX P N e [] n T h Q=Q e T h n:=rfl
theorem wX_sq {b:SCode}:wX P N .normal (.sq b::fs) n T h Q=wS P N b fs n T h Q:=rfl
theorem QiS {b:SCode}:wX P N .ret (.sq b::fs) n T h Q=wX P N .ret fs n T h Q:=rfl
theorem QhD {b:SCode} {i:Nat}:wX P N (.exit i) (.sq b::fs) n T h Q=wX P N (.exit i) fs n T h Q:=rfl
theorem Qn9 {i:Nat}:wX P N .normal (.blk i::fs) n T h Q=wX P N .normal fs n T h Q:=rfl
theorem QhE {i:Nat}:wX P N .ret (.blk i::fs) n T h Q=wX P N .ret fs n T h Q:=rfl
theorem Qgv {i j:Nat}:wX P N (.exit j) (.blk i::fs) n T h Q=if j=i then wX P N .normal fs n T h Q else wX P N (.exit j) fs n T h Q:=rfl
end
theorem ev_t (T:Tmps) (i:Nat):ev T (.t i)=lk T i:=rfl
theorem ev_c (T:Tmps) (v:AV):ev T (.c v)=v:=rfl
theorem ev_f (T:Tmps) (n:Nat):ev T (.f n)= .fn n [] []:=rfl
theorem Qoa (i:Nat):lk [] i= .any:=rfl
theorem QaY (j:Nat) (v:AV) (r:Tmps) (i:Nat):lk ((j,v)::r) i=if j=i then v else lk r i:=by
 simp_all [lk]
theorem Qik (j:Nat) (u:AV) (r:Tmps) (i:Nat) (v:AV):up ((j,u)::r) i v=if j=i then(j,v)::r else(j,u)::up r i v:=by
 simp_all [up]
theorem Qob (i:Nat) (v:AV):up [] i v=[(i,v)]:=rfl
theorem Qoc (l:List Nat):rm [] l=[]:=rfl
theorem rm_no (T:Tmps):rm T []=T:=by
 induction T with
 |nil=>rfl
 |cons p T ih=>obtain⟨j,u⟩:=p;simp[rm,ih]
theorem Qmh (j:Nat) (u:AV) (r:Tmps) (l:List Nat):rm ((j,u)::r) l=if l.elem j=true then rm r l else(j,u)::rm r l:=by
 simp_all [rm]
theorem QiT (T:Tmps) (d:Nat) (v:AV):putD T (some d) v=up T d v:=rfl
theorem QiU (T:Tmps) (v:AV):putD T none v=T:=rfl
theorem Qkk (k:Nat):argT k []=[]:=rfl
theorem QiV (k:Nat) (x:AV) (xs:List AV):argT k (x::xs)=(k,x)::argT (k+1) xs:=rfl
theorem Qmi (T:Tmps):evs T []=[]:=rfl
theorem Qkl (T:Tmps) (x:Opd) (r:List Opd):evs T (x::r)=ev T x::evs T r:=rfl
theorem Qkm (T:Tmps):evo T none=none:=rfl
theorem Qkn (T:Tmps) (x:Opd):evo T (some x)=some (ev T x):=rfl
theorem Qgw (T:Tmps):evParts T []=[]:=rfl
theorem QfB (T:Tmps) (a b:Nat) (x:Opd) (r:List (Nat×Nat×Opd)):evParts T ((a,b,x)::r)=(a,b,ev T x)::evParts T r:=rfl
section
variable {N:NM} {n:Nat} {d:Option Nat} {af dead:List Nat} {r:List SOper} {T:Tmps} {h:Heap} {Q:QC} {fs:List Fr}
theorem Qod:wR P N [] dead fs n T h Q=wX P N .normal fs n (rm T dead) h Q:=rfl
theorem Qko {op:SOp} {g:Nat} {w:Bool}:wR P N (⟨d,op,af,some (g,w)⟩::r) dead fs n T h Q=wG P N (wantedA (lk T g) w) d op r dead fs n T h Q:=by
 apply propext
 unfold wG
 constructor
 ·rintro ⟨v, h1, f, ⟨b, hw, hb⟩, hk⟩
  rw[hw]
  cases b with
  |true=>rw[if_pos rfl]at hb;exact⟨v,h1,f,hb,hk⟩
  |false=>
   rw[if_neg (by simp)]at hb
   obtain⟨rfl,rfl,rfl⟩:=hb
   exact hk
 ·intro hk
  cases hw:wantedA (lk T g) w with
  |none=>rw[hw]at hk;exact hk.elim
  | some b =>
   rw[hw]at hk
   cases b with
   |true=>
    obtain⟨v,h1,f,hs,hk⟩:=hk
    exact⟨v,h1,f,⟨true,hw,by rw[if_pos rfl];exact hs⟩,hk⟩
   |false=>exact⟨.tup [],h,⟨false,[],[]⟩,⟨false,hw,by simp⟩,hk⟩
theorem Qmj {b w:Bool} {op:SOp}:wG P N (wantedA (.bool b) w) d op r dead fs n T h Q=if b=w then wR P N (⟨d,op,[],none⟩::r) dead fs n T h Q else wR P N r dead fs (n+1) (putD T d (.tup [])) h Q:=by
 grind [wG,wantedA]
theorem Qmk {w:Bool} {op:SOp}:wG P N (wantedA (.tup []) w) d op r dead fs n T h Q=wR P N r dead fs (n+1) (putD T d (.tup [])) h Q:=by simp[wG,wantedA]
theorem Qbf {op:SOp} {o:Option AV} (e:aop n T op=lift o):wR P N (⟨d,op,af,none⟩::r) dead fs n T h Q=wO P N o d r dead fs n T h Q:=by
 apply propext
 constructor
 ·rintro ⟨v, h1, f, ⟨out, h2, hm, ho⟩, hk⟩
  rw[e]at hm
  obtain⟨u,hu,he⟩:=QaV hm
  cases he
  obtain⟨rfl,rfl,_⟩:=ho
  exact⟨_,hu,hk⟩
 ·rintro ⟨v, hv, hk⟩
  refine⟨v,h,_,⟨.val v,h,?_,rfl,rfl,rfl⟩,hk⟩
  rw[e,hv];rfl
theorem run_hval' {v:AV} {h1:Heap}:∀(m:HM AV) (h:Heap),m.run h=some (v,h1)->(hval m).run h=some (.val v,h1):=by
 intro m
 induction m with
 |ret a=>intro h hm;simp only[HM.run,Option.some.injEq,Prod.mk.injEq]at hm;obtain⟨rfl,rfl⟩:=hm;rfl
 |fail=>intro h hm;simp[HM.run]at hm
 |look b k ih=>intro h hm;exact ih _ h hm
 |put b x k ih=>
  intro h hm
  obtain⟨hl,hm⟩:=Qa3 hm
  have:=ih _ hm
  simp only[hval,HM.bind,HM.run]
  have hl':Nat.blt b lim=true:=by simp_all
  rw[hl'];exact this
theorem Qbu {op:SOp} {m:HM AV} (e:aop n T op=hval m):wR P N (⟨d,op,af,none⟩::r) dead fs n T h Q=wM P N m d r dead fs n T h Q:=by
 apply propext
 constructor
 ·rintro ⟨v, h1, f, ⟨out, h2, hm, ho⟩, hk⟩
  rw[e]at hm
  obtain⟨u,h3,hu,he⟩:=QaS hm
  cases he
  obtain⟨rfl,rfl,_⟩:=ho
  exact⟨_,_,hu,hk⟩
 ·rintro ⟨v, h1, hv, hk⟩
  exact⟨v,h1,_,⟨.val v,h1,by grind [run_hval'],rfl,rfl,rfl⟩,hk⟩
theorem Qoe {x:Opd}:wR P N (⟨d,.mov x,af,none⟩::r) dead fs n T h Q=wR P N r dead fs (n+1) (putD T d (ev T x)) h Q:=by
 rw[Qbf (o:=some (ev T x)) rfl];simp[wO]
theorem Qml {f:Nat} {xs ys:List Opd}:wR P N (⟨d,.mkfn f xs ys,af,none⟩::r) dead fs n T h Q=wR P N r dead fs (n+1) (putD T d (.fn f (evs T xs) (evs T ys))) h Q:=by
 rw[Qbf (o:=some (.fn f (evs T xs) (evs T ys))) rfl];simp[wO]
theorem Qmm {c a b:Opd}:wR P N (⟨d,.pick c a b,af,none⟩::r) dead fs n T h Q=wO P N (aPick (ev T c) (ev T a) (ev T b)) d r dead fs n T h Q:=Qbf rfl
theorem Qkp {z:List AV} {ps:List (Nat×Nat×Opd)}:wR P N (⟨d,.build z ps,af,none⟩::r) dead fs n T h Q=wO P N (aBuild z (evParts T ps)) d r dead fs n T h Q:=Qbf rfl
theorem QiW {x:Opd}:wR P N (⟨d,.nilchk x,af,none⟩::r) dead fs n T h Q=wO P N (aNil (ev T x)) d r dead fs n T h Q:=Qbf rfl
theorem Qof {op:BinOp} {x y:Opd}:wR P N (⟨d,.bin op x y,af,none⟩::r) dead fs n T h Q=wO P N (aBin op (ev T x) (ev T y)) d r dead fs n T h Q:=Qbf rfl
theorem wR_eq {k:EqK} {neg:Bool} {x y:Opd}:wR P N (⟨d,.eq k neg x y,af,none⟩::r) dead fs n T h Q=wO P N (aEq k neg (ev T x) (ev T y)) d r dead fs n T h Q:=Qbf rfl
theorem Qog {neg:Bool} {x:Opd}:wR P N (⟨d,.eqn neg x,af,none⟩::r) dead fs n T h Q=wM P N (aEqN neg (ev T x)) d r dead fs n T h Q:=Qbu rfl
theorem QaD {t:Nat} {s:Site} {z:AV}:wR P N (⟨d,.allocT t s z,af,none⟩::r) dead fs n T h Q=wM P N (aBoxT t s n z) d r dead fs n T h Q:=Qbu rfl
theorem QaN {neg:Bool} {x y:Opd}:wR P N (⟨d,.eqp neg x y,af,none⟩::r) dead fs n T h Q=wO P N (aEqP neg (ev T x) (ev T y)) d r dead fs n T h Q:=Qbf rfl
theorem QaG {t k:Nat} {x:Opd}:wR P N (⟨d,.convP t k x,af,none⟩::r) dead fs n T h Q=wO P N (aConvP t k (ev T x)) d r dead fs n T h Q:=Qbf rfl
theorem QaO {x:Opd}:wR P N (⟨d,.usd x,af,none⟩::r) dead fs n T h Q=wO P N (aUsd (ev T x)) d r dead fs n T h Q:=Qbf rfl
theorem QaL {t:Nat} {x k:Opd}:wR P N (⟨d,.ustr t x k,af,none⟩::r) dead fs n T h Q=wM P N (aUstr t (ev T x) (ev T k)) d r dead fs n T h Q:=Qbu rfl
theorem Qaz {t:Nat} {s:Site} {sz bytes:Nat} {x y:Opd}:wR P N (⟨d,.appendT t s sz bytes x y,af,none⟩::r) dead fs n T h Q=wM P N (aAppendT t s n sz bytes (ev T x) (ev T y)) d r dead fs n T h Q:=Qbu rfl
theorem Qkq {sz bytes:Nat} {zero:List AV} {x:Opd}:wR P N (⟨d,.clear sz bytes zero x,af,none⟩::r) dead fs n T h Q=wM P N (aClear sz zero (ev T x)) d r dead fs n T h Q:=Qbu rfl
theorem wR_un {op:UnOp} {x:Opd}:wR P N (⟨d,.un op x,af,none⟩::r) dead fs n T h Q=wO P N (aUn op (ev T x)) d r dead fs n T h Q:=Qbf rfl
theorem Qmn {k:IntKind} {x:Opd}:wR P N (⟨d,.conv k x,af,none⟩::r) dead fs n T h Q=wO P N (aConv k (ev T x)) d r dead fs n T h Q:=Qbf rfl
theorem QeU {x:Opd}:wR P N (⟨d,.convS x,af,none⟩::r) dead fs n T h Q=wO P N (aConvS (ev T x)) d r dead fs n T h Q:=Qbf rfl
theorem QaP {k f:Nat} {xs:List Opd}:wR P N (⟨d,.ext k f xs,af,none⟩::r) dead fs n T h Q=wO P N (aExt k (evs T xs)) d r dead fs n T h Q:=Qbf rfl
theorem Qkr {sz:Option Nat} {x:Opd} {l hh m:Option Opd}:wR P N (⟨d,.slice sz x l hh m,af,none⟩::r) dead fs n T h Q=wO P N (aSliceC sz (ev T x) (evo T l) (evo T hh) (evo T m)) d r dead fs n T h Q:=Qbf rfl
theorem Qks {o:Nat} {x:Opd}:wR P N (⟨d,.faddr o x,af,none⟩::r) dead fs n T h Q=wO P N (aFAddr o (ev T x)) d r dead fs n T h Q:=Qbf rfl
theorem Qkt {k:Option Nat} {o:Nat} {x:Opd}:wR P N (⟨d,.field k o x,af,none⟩::r) dead fs n T h Q=wO P N (aField k o (ev T x)) d r dead fs n T h Q:=Qbf rfl
theorem Qku {a:Option Nat} {sz:Nat} {x j:Opd}:wR P N (⟨d,.iaddr a sz x j,af,none⟩::r) dead fs n T h Q=wO P N (aIAddr a sz (ev T x) (ev T j)) d r dead fs n T h Q:=Qbf rfl
theorem Qkv {a:Option (Nat×Nat×Bool)} {x j:Opd}:wR P N (⟨d,.index a x j,af,none⟩::r) dead fs n T h Q=wO P N (aIndex a (ev T x) (ev T j)) d r dead fs n T h Q:=Qbf rfl
theorem QhF {j:Nat} {x:Opd}:wR P N (⟨d,.extract j x,af,none⟩::r) dead fs n T h Q=wO P N (aExtract j (ev T x)) d r dead fs n T h Q:=Qbf rfl
theorem QiX {mn:Bool} {xs:List Opd}:wR P N (⟨d,.maxmin mn xs,af,none⟩::r) dead fs n T h Q=wO P N (aMax mn (evs T xs)) d r dead fs n T h Q:=Qbf rfl
theorem Qkw {s:Site} {z:AV}:wR P N (⟨d,.alloc s z,af,none⟩::r) dead fs n T h Q=wM P N (aBox s n z) d r dead fs n T h Q:=Qbu rfl
theorem Qoh {s:Site} {x:Opd}:wR P N (⟨d,.box s x,af,none⟩::r) dead fs n T h Q=wM P N (aBox s n (ev T x)) d r dead fs n T h Q:=Qbu rfl
theorem QiY {fz:Bool} {s:Site} {sz len:Nat} {z:List AV} {ps:List (Nat×Nat×Opd)}:wR P N (⟨d,.bslice fz s sz len z ps,af,none⟩::r) dead fs n T h Q=wM P N (aBuildSlice fz s n sz len z (evParts T ps)) d r dead fs n T h Q:=Qbu rfl
theorem Qmo {k:Option Nat} {x:Opd}:wR P N (⟨d,.load k x,af,none⟩::r) dead fs n T h Q=wM P N (aLoad k (ev T x)) d r dead fs n T h Q:=Qbu rfl
theorem Qkx {k:Nat} {x v:Opd}:wR P N (⟨d,.store k x v,af,none⟩::r) dead fs n T h Q=wM P N (aStore k (ev T x) (ev T v)) d r dead fs n T h Q:=Qbu rfl
theorem Qky {s:Site}:wR P N (⟨d,.mkmap s,af,none⟩::r) dead fs n T h Q=wM P N (aMakeMap s n) d r dead fs n T h Q:=Qbu rfl
theorem QhG {s:Site} {sz b:Nat} {z:List AV} {l c:Opd}:wR P N (⟨d,.mkslice s sz b z l c,af,none⟩::r) dead fs n T h Q=wM P N (aMakeSlice s n sz b z (ev T l) (ev T c)) d r dead fs n T h Q:=Qbu rfl
theorem QiZ {row:Bool} {ks:List LK} {z:AV} {ok:Bool} {x k:Opd}:wR P N (⟨d,.lookup row ks z ok x k,af,none⟩::r) dead fs n T h Q=wM P N (aLookup row ks z ok (ev T x) (ev T k)) d r dead fs n T h Q:=Qbu rfl
theorem Qmp {row:Bool} {ks:List LK} {x k v:Opd}:wR P N (⟨d,.mupd row ks x k v,af,none⟩::r) dead fs n T h Q=wM P N (aMapUpd row ks (ev T x) (ev T k) (ev T v)) d r dead fs n T h Q:=Qbu rfl
theorem Qoi {k:Nat} {x:Opd}:wR P N (⟨d,.len k x,af,none⟩::r) dead fs n T h Q=wM P N (aLenC k (ev T x)) d r dead fs n T h Q:=Qbu rfl
theorem Qi0 {s:Site} {sz b:Nat} {x y:Opd}:wR P N (⟨d,.append s sz b x y,af,none⟩::r) dead fs n T h Q=wM P N (aAppend s n sz b (ev T x) (ev T y)) d r dead fs n T h Q:=Qbu rfl
theorem Qmq {sz:Nat} {x y:Opd}:wR P N (⟨d,.copy sz x y,af,none⟩::r) dead fs n T h Q=wM P N (aCopy sz (ev T x) (ev T y)) d r dead fs n T h Q:=Qbu rfl
theorem Qmr {m:CallM} {x:Opd} {args:List Opd}:wR P N (⟨d,.call m x args,af,none⟩::r) dead fs n T h Q=wCall P N m (ev T x) (evs T args) d r dead fs n T h Q:=by
 apply propext
 have e:aop n T (.call m x args)=aCall m (ev T x) (evs T args):=rfl
 constructor
 ·rintro ⟨v, h1, f, ⟨out, h2, hm, ho⟩, hk⟩
  rw[e]at hm
  unfold aCall at hm
  unfold wCall
  cases hx:ev T x<;>rw[hx]at hm<;>first|(simp[HM.run]at hm;done)|skip
  rotate_left
  ·cases m <;> simp only [HM.run, Option.some.injEq, Prod.mk.injEq, reduceCtorEq] at hm
   obtain⟨rfl,rfl⟩:=hm
   exact⟨_,_,ho.1,hk⟩
  simp only at hm
  rename_i g a c
  cases m
  ·simp only [HM.run, Option.some.injEq, Prod.mk.injEq] at hm
   obtain⟨rfl,rfl⟩:=hm
   rcases ho with⟨ho,_⟩|⟨b,y,xs,hg,hb,rfl,_⟩|ho|ho
   ·exact⟨_,_,ho,hk⟩
   ·exact⟨_,_,hg.heap hb,hk⟩
   ·exact⟨_,_,ho.heap,hk⟩
   ·exact⟨_,_,ho.heap,hk⟩
  ·simp only [HM.run, Option.some.injEq, Prod.mk.injEq] at hm
   obtain⟨rfl,rfl⟩:=hm
   obtain⟨hp,rfl,_⟩:=ho
   exact⟨_,hp,hk⟩
  ·obtain ⟨asg, h3, k1, k2⟩ := run_bind hm
   simp only[HM.run,Option.some.injEq,Prod.mk.injEq]at k2
   obtain⟨rfl,rfl⟩:=k2
   obtain⟨hp,hf,rfl,_⟩:=ho
   exact⟨_,_,_,k1,hp,hf,hk⟩
 ·intro hk
  unfold wCall at hk
  cases hx:ev T x<;>rw[hx]at hk<;>first|exact hk.elim|skip
  rotate_left
  ·rename_i b g
   cases m
   ·obtain ⟨v, h1, hs, hk⟩ := hk
    exact⟨v,h1,_,⟨.round b g (evs T args),h,by rw[e,hx];rfl,hs,rfl⟩,hk⟩
   ·exact hk.elim
   simp_all
  rename_i g a c
  cases m
  ·obtain ⟨v, h1, hs, hk⟩ := hk
   exact⟨v,h1,_,⟨.call .heap g (a++evs T args++c),h,by rw[e,hx];rfl,.inl ⟨hs,rfl⟩⟩,hk⟩
  ·obtain ⟨v, hs, hk⟩ := hk
   exact⟨v,h,_,⟨.call .pure g (a++evs T args++c),h,by rw[e,hx];rfl,hs,rfl,rfl⟩,hk⟩
  ·obtain ⟨asg, h1, v, hm, hs, hf, hk⟩ := hk
   refine⟨v,h1,_,⟨.call .borrow g asg,h1,?_,hs,hf,rfl,rfl⟩,hk⟩
   rw[e,hx]
   have:∀(m:HM (List AV)) (h:Heap) (k:List AV->AOut),m.run h=some (asg,h1)->(m.bind fun asg=> .ret (k asg)).run h=some (k asg,h1):=by
    intro m
    induction m with
    |ret a=>intro h k hm;simp only[HM.run,Option.some.injEq,Prod.mk.injEq]at hm;obtain⟨rfl,rfl⟩:=hm;rfl
    |fail=>intro h k hm;simp[HM.run]at hm
    |look b k' ih=>intro h k hm;exact ih _ h k hm
    |put b x k' ih=>
     intro h k hm
     obtain⟨hl,hm⟩:=Qa3 hm
     have:=ih _ k hm
     simp only[HM.bind,HM.run]
     have hl':Nat.blt b lim=true:=by simp_all
     rw[hl'];exact this
   exact this _ h (fun asg=> .call .borrow g asg) hm
theorem QdL {v:AV}:wO P N (some v) d r dead fs n T h Q=wR P N r dead fs (n+1) (putD T d v) h Q:=by simp[wO]
theorem Qms:wO P N none d r dead fs n T h Q=False:=by simp[wO]
theorem Qkz {c:Prop} [Decidable c] {a b:Option AV} (hc:c):wO P N (if c then a else b) d r dead fs n T h Q=wO P N a d r dead fs n T h Q:=by rw[if_pos hc]
theorem Qoj {c:Prop} [Decidable c] {a b:Option AV} (hc:¬c):wO P N (if c then a else b) d r dead fs n T h Q=wO P N b d r dead fs n T h Q:=by rw[if_neg hc]
theorem Qrn {c:Prop} [Decidable c] {a:Option AV}:wO P N (if c then a else none) d r dead fs n T h Q=(c/\wO P N a d r dead fs n T h Q):=by grind [Qms]
theorem cp {f:Nat} {args:List AV} {v:AV} (hp:PSpec P f args v) (k:wR P N r dead fs (n+1) (putD T d v) h Q):wCall P N .pure (.fn f [] []) args d r dead fs n T h Q:=⟨v,by simpa using hp,k⟩
theorem ch {f:Nat} {args:List AV} {v:AV} {h1:Heap} (hp:HSpec P f args h v h1) (k:wR P N r dead fs (n+1) (putD T d v) h1 Q):wCall P N .heap (.fn f [] []) args d r dead fs n T h Q:=⟨v,h1,by simpa using hp,k⟩
def ldB (o:Option Blk) (g off:Nat) (m:Option Nat):Option AV:=
 match o with
 |some (.cells g' cs)=>if g'=g then(match m with|none=>cs[off]?|some m=>if off+m<=cs.length then some (.agg ((cs.drop off).take m))else none)else none
 |_=>none
def stB (o:Option Blk) (g off m:Nat) (v:AV):Option Blk:=
 match o with
 |some (.cells g' cs)=>if g'=g/\v.cells.length=m/\off+m<=cs.length/\v.cells.all AV.one=true then some (.cells g (putR cs off v.cells))else none
 |_=>none
def wB (P:Program) (N:NM) (o:Option Blk) (b:Nat) (v:AV) (d:Option Nat) (ops:List SOper) (dead:List Nat) (fs:List Fr) (n:Nat) (T:Tmps) (h:Heap) (Q:QC):Prop:=
 ∃x,o=some x/\b<lim/\wR P N ops dead fs (n+1) (putD T d v) (h.set b x) Q
def wN (P:Program) (N:NM) (x:List AV) (v:AV) (d:Option Nat) (ops:List SOper) (dead:List Nat) (fs:List Fr) (n:Nat) (T:Tmps) (h:Heap) (Q:QC):Prop:=
 h.get n=none/\n<lim/\wR P N ops dead fs (n+1) (putD T d v) (h.set n (.cells 0 x)) Q
theorem Qcr {v:AV}:wM P N (.ret v) d r dead fs n T h Q=wR P N r dead fs (n+1) (putD T d v) h Q:=by
 apply propext;constructor
 ·rintro⟨v',h1,hm,k⟩;simp only[HM.run,Option.some.injEq,Prod.mk.injEq]at hm;simp_all
 ·intro k;exact⟨v,h,rfl,k⟩
theorem QdM:wM P N .fail d r dead fs n T h Q=False:=by simp[wM,HM.run]
theorem QkA {o:Option AV}:wM P N (.opt o) d r dead fs n T h Q=wO P N o d r dead fs n T h Q:=by
 cases o with
 |none=>simp[HM.opt,QdM,Qms]
 |some v=>simp[HM.opt,Qcr,QdL]
theorem Qc4 {c:Prop} [Decidable c] {m:HM AV}:wM P N (if c then m else .fail) d r dead fs n T h Q=(c/\wM P N m d r dead fs n T h Q):=by
 grind [QdM]
theorem QfC {b:Nat} {x:Blk} {v:AV}:wM P N (.put b x (.ret v)) d r dead fs n T h Q=wB P N (some x) b v d r dead fs n T h Q:=by
 apply propext;constructor
 ·rintro ⟨v', h1, hm, k⟩
  obtain⟨hl,hm⟩:=Qa3 hm
  simp only[HM.run,Option.some.injEq,Prod.mk.injEq]at hm
  obtain⟨rfl,rfl⟩:=hm
  exact⟨x,rfl,hl,k⟩
 ·rintro ⟨x', hx, hl, k⟩
  cases hx
  refine⟨v,_,?_,k⟩
  simp only[HM.run]
  have hl':Nat.blt b lim=true:=by simp_all
  rw[hl'];rfl
theorem Qil {x:Blk} {b:Nat} {v:AV} (hl:b<lim):wB P N (some x) b v d r dead fs n T h Q=wR P N r dead fs (n+1) (putD T d v) (h.set b x) Q:=by simp[wB,hl]
theorem Qdi {b g:Nat} {k:List AV->HM AV}:wM P N (.cells b g k) d r dead fs n T h Q=∃cs,h.get b=some (.cells g cs)/\wM P N (k cs) d r dead fs n T h Q:=by
 apply propext;constructor
 ·rintro ⟨v', h1, hm, hk⟩
  obtain⟨cs,hb,hm⟩:=Qbg hm
  exact⟨cs,hb,v',h1,hm,hk⟩
 ·rintro ⟨cs, hb, v', h1, hm, hk⟩
  refine⟨v',h1,?_,hk⟩
  simp_all [HM.cells,HM.run]
theorem Qi1 {g g' off:Nat} {cs:List AV}:ldB (some (.cells g' cs)) g off none=if g'=g then cs[off]? else none:=rfl
theorem Qi2 {g g' off m:Nat} {cs:List AV}:ldB (some (.cells g' cs)) g off (some m)=if g'=g then(if off+m<=cs.length then some (.agg ((cs.drop off).take m))else none)else none:=rfl
theorem Qi3 {m:Option Nat} {b g off:Nat}:wM P N (aLoad m (.ptr b g off)) d r dead fs n T h Q=wO P N (ldB (h.get b) g off m) d r dead fs n T h Q:=by
 simp only[aLoad,Qdi]
 apply propext;constructor
 ·rintro ⟨cs, hb, hk⟩
  rw[hb]
  cases m with
  |none=>simpa[ldB,QkA]using hk
  |some m=>
   simp only[Qc4,Qcr]at hk
   simp only[ldB,if_true]
   rw[Qkz hk.1,QdL];exact hk.2
 ·rintro ⟨v, hv, hk⟩
  unfold ldB at hv
  split at hv
  ·rename_i g' cs hb
   split at hv
   ·rename_i e
    subst e
    refine⟨cs,hb,?_⟩
    cases m with
    |none=>simp only at hv;simp only[QkA,hv,QdL];exact hk
    |some m=>
     simp only at hv
     split at hv
     ·simp_all [Qcr]
     ·cases hv
   ·cases hv
  ·cases hv
theorem Qgx {cs:List AV}:wM P N (aLoad none (.fptr cs)) d r dead fs n T h Q=wO P N cs.head? d r dead fs n T h Q:=by simp only[aLoad,QkA]
theorem Qgy {m:Nat} {cs:List AV}:wM P N (aLoad (some m) (.fptr cs)) d r dead fs n T h Q=wO P N (if m<=cs.length then some (.agg (cs.take m))else none) d r dead fs n T h Q:=by
 simp only[aLoad,Qc4,Qcr,Qrn,QdL]
theorem Qha {g g' off m:Nat} {cs:List AV} {v:AV}:stB (some (.cells g' cs)) g off m v=if g'=g/\v.cells.length=m/\off+m<=cs.length/\v.cells.all AV.one=true then some (.cells g (putR cs off v.cells))else none:=rfl
theorem QhH {m b g off:Nat} {v:AV}:wM P N (aStore m (.ptr b g off) v) d r dead fs n T h Q=wB P N (stB (h.get b) g off m v) b .any d r dead fs n T h Q:=by
 simp only[aStore,Qdi]
 apply propext;constructor
 ·rintro ⟨cs, hb, hk⟩
  simp only[Qc4,QfC]at hk
  rw[hb,Qha,if_pos ⟨rfl,hk.1⟩]
  exact hk.2
 ·rintro ⟨x, hx, hl, hk⟩
  unfold stB at hx
  split at hx
  ·rename_i g' cs hb
   split at hx
   ·rename_i e
    obtain⟨rfl,e⟩:=e
    cases hx
    refine⟨cs,hb,?_⟩
    simp only[Qc4,QfC]
    exact⟨e,_,rfl,hl,hk⟩
   ·cases hx
  ·cases hx
theorem QpG {x:AV} (hx:x.boxable=true):wM P N (aBox .dyn n x) d r dead fs n T h Q=wN P N x.cells (.ptr n 0 0) d r dead fs n T h Q:=by
 simp only[aBox,if_pos hx]
 apply propext;constructor
 ·rintro ⟨v', h1, hm, hk⟩
  unfold HM.new at hm
  simp only[HM.run]at hm
  cases hn:h.get n with
  |none=>
   rw[hn]at hm
   obtain⟨hl,hm⟩:=Qa3 hm
   simp only[HM.run,Option.some.injEq,Prod.mk.injEq]at hm
   obtain⟨rfl,rfl⟩:=hm
   exact⟨hn,hl,hk⟩
  |some z=>rw[hn]at hm;cases hm
 ·rintro ⟨hn, hl, hk⟩
  refine⟨_,_,?_,hk⟩
  unfold HM.new
  simp only[HM.run,hn]
  have hl':Nat.blt n lim=true:=by simp_all
  rw[hl'];rfl
theorem Qro {x:List AV} {v:AV} (hn:h.get n=none) (hl:n<lim):wN P N x v d r dead fs n T h Q=wR P N r dead fs (n+1) (putD T d v) (h.set n (.cells 0 x)) Q:=by grind [wN]
theorem Qi4 {s:List UInt8}:wM P N (aLenC 0 (.str s)) d r dead fs n T h Q=wR P N r dead fs (n+1) (putD T d (.int .i64 s.length)) h Q:=by simp[aLenC,lenKind,aLen,Qcr]
theorem QkB {b g off len sz:Nat}:wM P N (aLenC 1 (.sl b g off len sz)) d r dead fs n T h Q=wR P N r dead fs (n+1) (putD T d (.int .i64 len)) h Q:=by simp[aLenC,lenKind,aLen,Qcr]
theorem Qi5 {cs:List AV} {len sz:Nat}:wM P N (aLenC 1 (.fsl cs len sz)) d r dead fs n T h Q=wR P N r dead fs (n+1) (putD T d (.int .i64 len)) h Q:=by simp[aLenC,lenKind,aLen,Qcr]
theorem Qgz:wM P N (aLenC 1 .nilsl) d r dead fs n T h Q=wR P N r dead fs (n+1) (putD T d (.int .i64 0)) h Q:=by simp[aLenC,lenKind,aLen,Qcr]
theorem Qi6:wM P N (aLenC 1 .esl) d r dead fs n T h Q=wR P N r dead fs (n+1) (putD T d (.int .i64 0)) h Q:=by simp[aLenC,lenKind,aLen,Qcr]
end
section
variable {k:IntKind} {a b:Int}
theorem Qhb:aBin .add (.int k a) (.int k b)=some (.int k (wr k (a+b))):=by simp[aBin]
theorem Qhc:aBin .sub (.int k a) (.int k b)=some (.int k (wr k (a-b))):=by simp[aBin]
theorem Qhd:aBin .mul (.int k a) (.int k b)=some (.int k (wr k (a*b))):=by simp[aBin]
theorem QkC:aBin .quo (.int k a) (.int k b)=if b=0 then none else some (.int k (wr k (a.tdiv b))):=by simp[aBin]
theorem QkD:aBin .rem (.int k a) (.int k b)=if b=0 then none else some (.int k (a.tmod b)):=by simp[aBin]
theorem QdY:aBin .eql (.int k a) (.int k b)=some (.bool (decide (a=b))):=by simp[aBin]
theorem QdZ:aBin .neq (.int k a) (.int k b)=some (.bool (!decide (a=b))):=by simp[aBin]
theorem Qd0:aBin .lss (.int k a) (.int k b)=some (.bool (decide (a<b))):=by simp[aBin]
theorem Qd1:aBin .leq (.int k a) (.int k b)=some (.bool (decide (a<=b))):=by simp[aBin]
theorem Qd2:aBin .gtr (.int k a) (.int k b)=some (.bool (decide (b<a))):=by simp[aBin]
theorem Qd3:aBin .geq (.int k a) (.int k b)=some (.bool (decide (b<=a))):=by simp[aBin]
theorem Qmt {b:Bool}:aUn .not (.bool b)=some (.bool (!b)):=rfl
theorem Qmu:aUn .neg (.int k a)=some (.int k (wr k (0-a))):=rfl
theorem QfD {k':IntKind}:aConv k (.int k' a)=some (.int k (wr k a)):=rfl
theorem QhI {t:Bool} {x y:AV}:aPick (.bool t) x y=some (if t then x else y):=rfl
theorem QhJ {x y:AV}:aPick (.bool true) x y=some x:=rfl
theorem QgA {x y:AV}:aPick (.bool false) x y=some y:=rfl
theorem QfE {j:Nat} {vs:List AV}:aExtract j (.tup vs)=vs[j]?:=rfl
theorem QkE {v:AV} {vs:List AV}:(v::vs)[0]?=some v:=rfl
theorem QkF {v:AV} {vs:List AV} {j:Nat}:(v::vs)[j+1]?=vs[j]?:=rfl
theorem QfF {n:Int} (h1: -9223372036854775808<=n) (h2:n<=9223372036854775807):wr .i64 n=n:=wr_of h1 h2
theorem Qok {n:Int} (h1:0<=n) (h2:n<=18446744073709551615):wr .u64 n=n:=wr_of h1 h2
theorem wr_u8 {n:Int} (h1:0<=n) (h2:n<=255):wr .u8 n=n:=wr_of h1 h2
theorem Qol {n:Int} (h1:0<=n) (h2:n<=65535):wr .u16 n=n:=wr_of h1 h2
theorem Qom {n:Int} (h1:0<=n) (h2:n<=4294967295):wr .u32 n=n:=wr_of h1 h2
theorem Qon {n:Int} (h1: -2147483648<=n) (h2:n<=2147483647):wr .i32 n=n:=wr_of h1 h2
theorem QhK {sz len s:Nat} {cs:List AV}:aIAddr none sz (.fsl cs len s) (.int k a)=if 0<=a/\a<len/\s=sz then some (.fptr (cs.drop (a.toNat*sz)))else none:=rfl
theorem Qi7 {sz len s b g off:Nat}:aIAddr none sz (.sl b g off len s) (.int k a)=if 0<=a/\a<len/\s=sz then some (.ptr b g (off+a.toNat*sz))else none:=rfl
theorem QhL {m sz b g off:Nat}:aIAddr (some m) sz (.ptr b g off) (.int k a)=if 0<=a/\a<m then some (.ptr b g (off+a.toNat*sz))else none:=rfl
theorem QgB {m sz:Nat} {cs:List AV}:aIAddr (some m) sz (.fptr cs) (.int k a)=if 0<=a/\a<m then some (.fptr (cs.drop (a.toNat*sz)))else none:=rfl
theorem QhM {o off b g:Nat}:aFAddr off (.ptr b g o)=some (.ptr b g (o+off)):=rfl
theorem QgC {off:Nat} {cs:List AV}:aFAddr off (.fptr cs)=some (.fptr (cs.drop off)):=rfl
theorem QhN {m sz:Nat} {cs:List AV}:aIndex (some (m,sz,false)) (.agg cs) (.int k a)=if 0<=a/\a<m then cs[a.toNat*sz]? else none:=by simp[aIndex]
theorem QgD {off:Nat} {cs:List AV}:aField none off (.agg cs)=cs[off]?:=rfl
theorem QgE {m off:Nat} {cs:List AV}:aField (some m) off (.agg cs)=if off+m<=cs.length then some (.agg ((cs.drop off).take m))else none:=rfl
end
def Sub (L T:Tmps):Prop:=∀i,lk L i= .any\/lk L i=lk T i
theorem Sub.nil {T:Tmps}:Sub [] T:=fun _=> .inl rfl
theorem Sub.cons {T L:Tmps} {j:Nat} {v:AV} (hv:lk T j=v) (h:Sub L T):Sub ((j,v)::L) T:=by
 intro i
 rw[QaY]
 split
 ·simp_all
 ·exact h i
theorem Sub.of_eq {L T:Tmps} (h:∀i,lk L i=lk T i):Sub L T:=fun i=> .inr (h i)
theorem W2.weak {N:NM} {c:SCode} {Q:SX->St->Prop} {T L:Tmps} {h:Heap} (hT:Sub L T) (hw:W2 P N c Q ⟨L,h⟩):W2 P N c Q ⟨T,h⟩:=by
 intro code hok ctx a w S ro hro Q' hQ
 refine hw code hok ctx a w ⟨S.heap,fun i=>?_,S.size,S.defers⟩ ro hro Q' hQ
 rcases hT i with e|e
 ·simp_all [VRel]
 ·show VRel ctx w (lk L i) _
  rw[e];exact S.tmps i
def loopQ (P:Program) (N:NM) {α:Type} (env:α->Tmps) (H:α->Heap->Nat->Prop) (μ:α->Nat) (a:α) (fs:List Fr) (Q:QC):QC:=fun e T h n=>
 match e with
 | .normal=>∃a',μ a'<μ a/\Sub (env a') T/\H a' h n
 |e=>wX P N e fs n T h Q
section
variable {N:NM} {n:Nat} {T:Tmps} {h:Heap} {Q:QC} {fs:List Fr} {α:Type} {env:α->Tmps} {H:α->Heap->Nat->Prop} {μ:α->Nat} {a:α}
theorem QfG:loopQ P N env H μ a fs Q .normal T h n=∃a',μ a'<μ a/\Sub (env a') T/\H a' h n:=rfl
theorem QhO {i:Nat}:loopQ P N env H μ a fs Q (.exit i) T h n=wX P N (.exit i) fs n T h Q:=rfl
theorem Qi8:loopQ P N env H μ a fs Q .ret T h n=wX P N .ret fs n T h Q:=rfl
end
def wLp (P:Program) (N:NM) (b:SCode) (fs:List Fr) (n:Nat) (T:Tmps) (h:Heap) (Q:QC):Prop:=WL2 P N b (fun e B=>∃n,ct P N fs Q e B.T B.h n) ⟨T,h⟩
def unQ (P:Program) (N:NM) (b:SCode) (fs:List Fr) (Q:QC):QC:=fun e T h n=>
 match e with
 | .normal=>wLp P N b fs n T h Q
 |e=>wX P N e fs n T h Q
section
variable {N:NM} {n:Nat} {T:Tmps} {h:Heap} {Q:QC} {fs:List Fr} {b:SCode}
theorem QhP:unQ P N b fs Q .normal T h n=wLp P N b fs n T h Q:=rfl
theorem QkG {i:Nat}:unQ P N b fs Q (.exit i) T h n=wX P N (.exit i) fs n T h Q:=rfl
theorem Qmv:unQ P N b fs Q .ret T h n=wX P N .ret fs n T h Q:=rfl
theorem Qoo (hw:wLp P N b fs n T h Q):wS P N (.loop b) fs n T h Q:=WL2.loop hw
theorem Qop (hw:wS P N b [] n T h (unQ P N b fs Q)):wLp P N b fs n T h Q:=by
 refine WL2.round ((wpC.toW hw).mono ?_)
 rintro e B ⟨m,hq⟩
 cases e with
 |normal=>exact hq
 |exit i=>exact⟨m,hq⟩
 |ret=>exact⟨m,hq⟩
end
theorem PSpec.of_rn {f:Nat} {sf:SFn} {args:List AV} {v:AV} (n:Nat) (hok:okFn P f sf=true) (hl:Nat.ble args.length sf.n=true) (ha:noRefs args=true) (hv:noRef v=true)
  (hw:wS P ⟨sf.n,0⟩ sf.body [] n (argT 0 args) .e fun e T h _=>(e= .normal\/e= .ret)/\∃vs,resV T h sf.res=some vs/\Rn 0 π0 h v (resOf vs)):PSpec P f args v:=
 PSpec.of_W2 hok (Nat.le_of_ble_eq_true hl) ha hv ((wpC.toW hw).mono fun e B ⟨_,h⟩=>h)
theorem QjW {ok:Okc} {F:Nat->Prop} {m:Nat} {c':Ctx ok} {w w':World} (E:Evo2 m (only F) w c' w'):Go.RowKit.Below w.heap.size w w':=
 ⟨E.os,E.tape,E.output,E.size,fun k hk=>E.keep k hk (fun h=>h)⟩
open Go.RowKit in
theorem law_of_W2 {f:Nat} {sf:SFn} {args:List AV} (hok:okFn P f sf=true) (hl:Nat.ble args.length sf.n=true)
  (hw:W2 P ⟨sf.n,0⟩ sf.body (fun e B=>(e= .normal\/e= .ret)/\resV B.T B.h sf.res=some [.bool true]) ⟨argT 0 args,.e⟩)
  {F:Nat->Prop} {w:World} {cargs:Array Value} (hF:∀k,F k->k<w.heap.size) (ha:VRels (only (ok:=okc P) F) w args cargs.toList):
  Calls P f cargs w fun e w'=>e= .returned (.bool true)/\Below w.heap.size w w':=by
 refine(Qc3 (R:=fun vs _=>vs=[.bool true]) hok (Nat.le_of_ble_eq_true hl) (hw.mono ?_) (HRel.only hF) ha).mono ?_
 ·simp_all
 ·rintro e w' ⟨cv, c', vs, h', rfl, E, H, V, rfl⟩
  simp only[resOf,VRel]at V
  subst V
  exact⟨rfl,QjW E⟩
theorem PSpec.QaB {f:Nat} {sf:SFn} {args:List AV} {v:AV} (n:Nat) (hok:okFn P f sf=true) (hl:Nat.ble args.length sf.n=true) (ha:noRefs args=true) (hv:noRef v=true)
  (hw:wS P ⟨sf.n,0⟩ sf.body [] n (argT 0 args) .e fun e T h _=>(e= .normal\/e= .ret)/\∃vs,resV T h sf.res=some vs/\resOf vs=v):PSpec P f args v:=
 PSpec.of_W2 hok (Nat.le_of_ble_eq_true hl) ha hv ((wpC.toW hw).mono fun e B ⟨_,he,vs,h1,h2⟩=>⟨he,vs,h1,by simp_all [Rn.same]⟩)
theorem PSpec.toH {f:Nat} {args:List AV} {v:AV} (S:PSpec P f args v) (h:Heap):HSpec P f args h v h:=by
 obtain⟨h',hc,_⟩:=S.2.2
 exact⟨hc,fun c w cargs H ha=>(S.pure H ha).2⟩
end Go.AM
namespace Go.AM
variable {P:Program}
noncomputable section
structure FFn where
 n:Nat
 res:List SRes
 body:FCode
def FFn.slim (f:FFn):SFn:=⟨f.n,f.res,f.body.slim⟩
structure Ans (α:Type) where
 bad:α
 asm:List AV->List AV->α->α
 holds:α->Prop
def ansB:Ans Bool:=⟨false,fun _ _ _=>false,fun b=>b=true⟩
structure Ans.OK {α:Type} (A:Ans α):Prop where
 bad:¬A.holds A.bad
 asm:∀x y p,A.holds (A.asm x y p)->x=y/\A.holds p
theorem Qga:ansB.OK:=⟨fun h=>(by cases h),fun _ _ _ h=>(by cases h)⟩
variable {α:Type}
abbrev ifB (c:Bool) (a b:α):α:=@Bool.rec (fun _=>α) b a c
theorem QaI (c:Bool) (a b:α):ifB c a b=if c=true then a else b:=by cases c<;>rfl
def fNat (m:Nat) (k:Nat->α):α:=@Nat.rec (fun _=>α) (k 0) (fun n _=>k (Nat.succ n)) m
theorem Qbv (m:Nat) (k:Nat->α):fNat m k=k m:=by cases m<;>rfl
def fInt (n:Int) (k:Int->α):α:=@Int.rec (fun _=>α) (fun m=>fNat m fun m=>k (.ofNat m)) (fun m=>fNat m fun m=>k (.negSucc m)) n
theorem Qqv (n:Int) (k:Int->α):fInt n k=k n:=by cases n<;>simp[fInt,Qbv]
def fBool (b:Bool) (k:Bool->α):α:=@Bool.rec (fun _=>α) (k false) (k true) b
theorem QcH (b:Bool) (k:Bool->α):fBool b k=k b:=by cases b<;>rfl
def fList {β:Type} (l:List β) (k:List β->α):α:=@List.rec β (fun _=>(List β->α)->α) (fun k=>k []) (fun x _ ih k=>ih fun r=>k (x::r)) l k
theorem QcI {β:Type} (l:List β) (k:List β->α):fList l k=k l:=by
 have:∀(l:List β) (k:List β->α),@List.rec β (fun _=>(List β->α)->α) (fun k=>k []) (fun x _ ih k=>ih fun r=>k (x::r)) l k=k l:=by
  intro l
  induction l with
  |nil=>intro k;rfl
  |cons x r ih=>intro k;exact ih _
 exact this l k
def fAV (v:AV) (k:AV->α):α:=
 match v with
 | .int t n=>fInt n fun n=>k (.int t n)
 | .bool b=>fBool b fun b=>k (.bool b)
 | .any=>k .any
 | .str s=>fList s fun s=>k (.str s)
 | .agg cs=>fList cs fun cs=>k (.agg cs)
 | .tup cs=>fList cs fun cs=>k (.tup cs)
 | .nilptr=>k .nilptr
 | .ptr b g o=>fNat o fun o=>k (.ptr b g o)
 | .fptr cs=>fList cs fun cs=>k (.fptr cs)
 | .nilsl=>k .nilsl
 | .sl b g o l s=>fNat o fun o=>fNat l fun l=>k (.sl b g o l s)
 | .fsl cs l s=>fNat l fun l=>fList cs fun cs=>k (.fsl cs l s)
 | .esl=>k .esl
 | .nsl=>k .nsl
 | .nilmap=>k .nilmap
 | .map b g=>k (.map b g)
 | .fmap x y=>fList x fun x=>fList y fun y=>k (.fmap x y)
 | .nilfn=>k .nilfn
 | .fn f x y=>fList x fun x=>fList y fun y=>k (.fn f x y)
 | .yld b g=>k (.yld b g)
 | .nilif=>k .nilif
 | .ifc t v=>k (.ifc t v)
 | .typed t n v=>fNat t fun t=>fNat n fun n=>k (.typed t n v)
theorem Qc5 (v:AV) (k:AV->α):fAV v k=k v:=by
 unfold fAV
 grind [Qqv,QcH,QcI,Qbv]
def fBlk (x:Blk) (k:Blk->α):α:=
 match x with
 | .cells g cs=>fList cs fun cs=>k (.cells g cs)
 |x=>k x
theorem Qqw (x:Blk) (k:Blk->α):fBlk x k=k x:=by
 unfold fBlk;grind [QcI]
def lkK (T:Tmps) (i:Nat) (k:AV->α):α:=@List.rec (Nat×AV) (fun _=>α) (k .any) (fun p _ ih=>ifB (Nat.beq p.1 i) (k p.2) ih) T
theorem QeB (T:Tmps) (i:Nat) (k:AV->α):lkK T i k=k (lk T i):=by
 induction T with
 |nil=>rfl
 |cons p T ih=>
  show ifB (Nat.beq p.1 i) (k p.2) (lkK T i k)=_
  rw[ih,QaI,QaY]
  by_cases h:p.1=i
  ·subst h;simp
  ·simp_all [Bool.eq_false_iff]
def evK (T:Tmps) (x:Opd) (k:AV->α):α:=@Opd.rec (fun _=>α) (fun i=>lkK T i k) (fun v=>k v) (fun n=>k (.fn n [] [])) (fun _=>k .any) x
theorem Qbm (T:Tmps) (x:Opd) (k:AV->α):evK T x k=k (ev T x):=by
 cases x
 ·exact QeB _ _ _
 ·rfl
 ·rfl
 ·rfl
def upR (T:Tmps) (i:Nat) (v:AV) (k:Tmps->α):α:=
 @List.rec (Nat×AV) (fun _=>(Tmps->α)->α) (fun k=>k [(i,v)]) (fun p r ih k=>ifB (Nat.beq p.1 i) (k ((i,v)::r)) (ih fun r'=>k (p::r'))) T k
theorem Qdv (T:Tmps) (i:Nat) (v:AV) (k:Tmps->α):upR T i v k=k (up T i v):=by
 have:∀(T:Tmps) (k:Tmps->α),@List.rec (Nat×AV) (fun _=>(Tmps->α)->α) (fun k=>k [(i,v)]) (fun p r ih k=>ifB (Nat.beq p.1 i) (k ((i,v)::r)) (ih fun r'=>k (p::r'))) T k=k (up T i v):=by
  intro T
  induction T with
  |nil=>intro k;rfl
  |cons p T ih=>
   intro k
   show ifB (Nat.beq p.1 i) (k ((i,v)::T)) (@List.rec (Nat×AV) (fun _=>(Tmps->α)->α) (fun k=>k [(i,v)]) (fun p r ih k=>ifB (Nat.beq p.1 i) (k ((i,v)::r)) (ih fun r'=>k (p::r'))) T fun r'=>k (p::r'))=_
   rw[ih,QaI,Qik]
   by_cases h:p.1=i
   ·subst h;simp
   ·simp_all [Bool.eq_false_iff]
 exact this T k
def putS (nw:Bool) (T:Tmps) (dst:Option Nat) (v:AV) (k:Tmps->α):α:=
 @Option.rec Nat (fun _=>α) (k T) (fun d=>ifB nw (k ((d,v)::T)) (upR T d v k)) dst
theorem Qi9 (nw:Bool) (T:Tmps) (dst:Option Nat) (v:AV) (k:Tmps->α):∃T',putS nw T dst v k=k T'/\∀i,lk T' i=lk (putD T dst v) i:=by
 cases dst with
 |none=>exact⟨T,rfl,fun _=>rfl⟩
 | some d =>
  cases nw with
  |false=>exact⟨up T d v,Qdv T d v k,fun _=>rfl⟩
  |true=>
   refine⟨(d,v)::T,rfl,fun i=>?_⟩
   rw[QaY,QbI]
   by_cases h:d=i
   ·subst h;simp
   ·simp_all
def rmR (m:Nat) (T:Tmps) (k:Tmps->α):α:=
 @List.rec (Nat×AV) (fun _=>(Tmps->α)->α) (fun k=>k []) (fun p r ih k=>ifB (Nat.beq (Nat.land (Nat.shiftRight m p.1) 1) 1) (ih k) (ih fun r'=>k (p::r'))) T k
def rmM (m:Nat):Tmps->Tmps
 |[]=>[]
 |p::r=>if Nat.beq (Nat.land (Nat.shiftRight m p.1) 1) 1=true then rmM m r else p::rmM m r
theorem Qoq (m:Nat) (T:Tmps) (k:Tmps->α):rmR m T k=k (rmM m T):=by
 have:∀(T:Tmps) (k:Tmps->α),@List.rec (Nat×AV) (fun _=>(Tmps->α)->α) (fun k=>k []) (fun p r ih k=>ifB (Nat.beq (Nat.land (Nat.shiftRight m p.1) 1) 1) (ih k) (ih fun r'=>k (p::r'))) T k=k (rmM m T):=by
  intro T
  induction T with
  |nil=>intro k;rfl
  |cons p T ih=>
   intro k
   show ifB (Nat.beq (Nat.land (Nat.shiftRight m p.1) 1) 1) (@List.rec (Nat×AV) (fun _=>(Tmps->α)->α) (fun k=>k []) (fun p r ih k=>ifB (Nat.beq (Nat.land (Nat.shiftRight m p.1) 1) 1) (ih k) (ih fun r'=>k (p::r'))) T k) (@List.rec (Nat×AV) (fun _=>(Tmps->α)->α) (fun k=>k []) (fun p r ih k=>ifB (Nat.beq (Nat.land (Nat.shiftRight m p.1) 1) 1) (ih k) (ih fun r'=>k (p::r'))) T fun r'=>k (p::r'))=_
   rw[ih,ih,QaI]
   simp only[rmM]
   split<;>rfl
 exact this T k
theorem Qmw (m:Nat) (T:Tmps):Sub (rmM m T) T:=by
 have dead:∀(T:Tmps) (i:Nat),Nat.beq (Nat.land (Nat.shiftRight m i) 1) 1=true->lk (rmM m T) i= .any:=by
  intro T i hi
  induction T with
  |nil=>rfl
  | cons p T ih =>
   simp only[rmM]
   split
   ·exact ih
   ·rename_i h
    rw[QaY,if_neg (by grind)];exact ih
 have live:∀(T:Tmps) (i:Nat),¬Nat.beq (Nat.land (Nat.shiftRight m i) 1) 1=true->lk (rmM m T) i=lk T i:=by
  intro T i hi
  induction T with
  |nil=>rfl
  | cons p T ih =>
   simp only[rmM]
   split
   ·rename_i h
    rw[QaY,if_neg (by grind)];exact ih
   ·grind [QaY]
 intro i
 grind
def getR {β:Type} (t:Tr β) (b:Nat) (k:Option β->α):α:=
 @Tr.rec β (fun _=>Nat->α) (fun _=>k none) (fun _ v _ il ir b=>ifB (Nat.beq b 0) (k v) (ifB (Nat.beq (Nat.mod b 2) 1) (il (Nat.div b 2)) (ir (Nat.sub (Nat.div b 2) 1)))) t b
theorem QbJ {β:Type} (t:Tr β) (b:Nat) (k:Option β->α):getR t b k=k (t.get b):=by
 induction t generalizing b with
 |e=>rfl
 |n l v r il ir=>
  show ifB (Nat.beq b 0) (k v) (ifB (Nat.beq (Nat.mod b 2) 1) (getR l (Nat.div b 2) k) (getR r (Nat.sub (Nat.div b 2) 1) k))=_
  rw[il,ir,QaI,QaI]
  simp only[Tr.get]
  have e1:Nat.mod b 2=b % 2:=rfl
  have e2:Nat.div b 2=b/2:=rfl
  have e3:Nat.sub (b/2) 1=b/2-1:=rfl
  rw[e1,e2,e3]
  cases Nat.beq b 0<;>cases Nat.beq (b % 2) 1<;>rfl
def setE {β:Type} (f:Nat) (b:Nat) (x:β) (k:Tr β->α):α:=
 @Nat.rec (fun _=>Nat->(Tr β->α)->α) (fun _ k=>k .e) (fun _ ih b k=>ifB (Nat.beq b 0) (k (.n .e (some x) .e)) (ifB (Nat.beq (Nat.mod b 2) 1) (ih (Nat.div b 2) fun l=>k (.n l none .e)) (ih (Nat.sub (Nat.div b 2) 1) fun r=>k (.n .e none r)))) f b k
theorem Qqx {β:Type} (f:Nat) (b:Nat) (x:β) (k:Tr β->α):setE f b x k=k (Tr.setF f .e b x):=by
 induction f generalizing b k with
 |zero=>rfl
 |succ f ih=>
  show ifB (Nat.beq b 0) (k (.n .e (some x) .e)) (ifB (Nat.beq (Nat.mod b 2) 1) (setE f (Nat.div b 2) x fun l=>k (.n l none .e)) (setE f (Nat.sub (Nat.div b 2) 1) x fun r=>k (.n .e none r)))=_
  rw[ih,ih,QaI,QaI]
  simp only[Tr.setF]
  have e1:Nat.mod b 2=b % 2:=rfl
  have e2:Nat.div b 2=b/2:=rfl
  have e3:Nat.sub (b/2) 1=b/2-1:=rfl
  rw[e1,e2,e3]
  cases Nat.beq b 0<;>cases Nat.beq (b % 2) 1<;>rfl
def setR {β:Type} (t:Tr β) (f:Nat) (b:Nat) (x:β) (k:Tr β->α):α:=
 @Tr.rec β (fun _ => Nat -> Nat -> (Tr β -> α) -> α) (fun f b k => setE f b x k)
  (fun l v r il ir f b k=>@Nat.rec (fun _=>α) (k (.n l v r)) (fun f _=>ifB (Nat.beq b 0) (k (.n l (some x) r)) (ifB (Nat.beq (Nat.mod b 2) 1) (il f (Nat.div b 2) fun l=>k (.n l v r)) (ir f (Nat.sub (Nat.div b 2) 1) fun r=>k (.n l v r)))) f) t f b k
theorem Qqy {β:Type} (t:Tr β) (f:Nat) (b:Nat) (x:β) (k:Tr β->α):setR t f b x k=k (Tr.setF f t b x):=by
 induction t generalizing f b k with
 |e=>exact Qqx f b x k
 | n l v r il ir =>
  cases f with
  |zero=>rfl
  |succ f=>
   show ifB (Nat.beq b 0) (k (.n l (some x) r)) (ifB (Nat.beq (Nat.mod b 2) 1) (setR l f (Nat.div b 2) x fun l=>k (.n l v r)) (setR r f (Nat.sub (Nat.div b 2) 1) x fun r=>k (.n l v r)))=_
   rw[il,ir,QaI,QaI]
   simp only[Tr.setF]
   have e1:Nat.mod b 2=b % 2:=rfl
   have e2:Nat.div b 2=b/2:=rfl
   have e3:Nat.sub (b/2) 1=b/2-1:=rfl
   rw[e1,e2,e3]
   cases Nat.beq b 0<;>cases Nat.beq (b % 2) 1<;>rfl
def putBR (A:Ans α) (h:Heap) (b:Nat) (x:Blk) (k:Heap->α):α:=ifB (Nat.ble (Nat.succ b) lim) (setR h 40 b x k) A.bad
theorem QbR (A:Ans α) (h:Heap) (b:Nat) (x:Blk) (k:Heap->α):putBR A h b x k=if b<lim then k (h.set b x)else A.bad:=by
 unfold putBR
 rw[Qqy,QaI]
 by_cases hb:b<lim
 ·rw[if_pos (Nat.ble_eq_true_of_le hb),if_pos hb];rfl
 ·rw[if_neg (fun h=>hb (Nat.le_of_ble_eq_true h)),if_neg hb]
def runR {β:Type} (A:Ans α) (m:HM β) (h:Heap) (k:β->Heap->α):α:=
 @HM.rec β (fun _=>Heap->α) (fun a h=>k a h) (fun _=>A.bad) (fun b _ ih h=>getR h b fun o=>ih o h) (fun b x _ ih h=>fBlk x fun x=>putBR A h b x fun h=>ih h) m h
theorem QcR {β:Type} (A:Ans α) (m:HM β):∀(h:Heap) (k:β->Heap->α),runR A m h k=match m.run h with|some (a,h')=>k a h'|none=>A.bad:=by
 induction m with
 |ret a=>intro h k;rfl
 |fail=>intro h k;rfl
 |look b m ih=>
  intro h k
  show getR h b (fun o=>runR A (m o) h k)=_
  rw[QbJ]
  exact ih _ h k
 | put b x m ih =>
  intro h k
  show fBlk x (fun x=>putBR A h b x fun h=>runR A m h k)=_
  rw[Qqw,QbR]
  simp only[HM.run]
  by_cases hb:b<lim
  ·have : Nat.blt b lim = true := by simp_all
   grind
  ·have : Nat.blt b lim = false := by simp_all [Bool.eq_false_iff]
   grind
def optR (A:Ans α) (o:Option AV) (k:AV->α):α:=@Option.rec AV (fun _=>α) A.bad (fun v=>fAV v k) o
theorem QbK (A:Ans α) (o:Option AV) (k:AV->α):optR A o k=match o with|some v=>k v|none=>A.bad:=by
 cases o with
 |none=>rfl
 |some v=>exact Qc5 v k
def hiN:IntKind->Nat
 | .i8=>127| .i16=>32767| .i32=>2147483647| .i64=>9223372036854775807
 | .u8=>255| .u16=>65535| .u32=>4294967295| .u64=>18446744073709551615
theorem Qrp (k:IntKind):hi k=hiN k:=by cases k<;>rfl
theorem lo_le (k:IntKind):lo k<=0:=by cases k<;>decide
theorem QhQ {k:IntKind} {m:Nat} (h:m<=hiN k):wr k (.ofNat m)= .ofNat m:=
 wr_of (by grind [lo_le]) (by simp_all [Qrp])
def kn:IntKind->Nat
 | .i8=>0| .i16=>1| .i32=>2| .i64=>3| .u8=>4| .u16=>5| .u32=>6| .u64=>7
theorem QkH {k k':IntKind} (h:Nat.beq (kn k) (kn k')=true):k=k':=by cases k<;>cases k'<;>first|rfl|(cases h)
def bin2 (A:Ans α) (op:BinOp) (kd:IntKind) (a b:Nat) (slow:α) (k:AV->α):α:=
 match op with
 | .add=>fNat (Nat.add a b) fun r=>ifB (Nat.ble r (hiN kd)) (k (.int kd (.ofNat r))) slow
 | .sub=>ifB (Nat.ble b a) (fNat (Nat.sub a b) fun r=>ifB (Nat.ble r (hiN kd)) (k (.int kd (.ofNat r))) slow) slow
 | .mul=>fNat (Nat.mul a b) fun r=>ifB (Nat.ble r (hiN kd)) (k (.int kd (.ofNat r))) slow
 | .eql=>fBool (Nat.beq a b) fun t=>k (.bool t)
 | .neq=>fBool (Nat.beq a b) fun t=>ifB t (k (.bool false)) (k (.bool true))
 | .lss=>fBool (Nat.ble (Nat.succ a) b) fun t=>k (.bool t)
 | .leq=>fBool (Nat.ble a b) fun t=>k (.bool t)
 | .gtr=>fBool (Nat.ble (Nat.succ b) a) fun t=>k (.bool t)
 | .geq=>fBool (Nat.ble b a) fun t=>k (.bool t)
 |_=>slow
def binN (op:BinOp) (below:Bool) (slow:α) (k:AV->α):α:=
 match op with
 | .eql=>k (.bool false)
 | .neq=>k (.bool true)
 | .lss=>ifB below (k (.bool true)) (k (.bool false))
 | .leq=>ifB below (k (.bool true)) (k (.bool false))
 | .gtr=>ifB below (k (.bool false)) (k (.bool true))
 | .geq=>ifB below (k (.bool false)) (k (.bool true))
 |_=>slow
def binR (A:Ans α) (op:BinOp) (x y:AV) (k:AV->α):α:=
 match x with
 | .int kx (.ofNat a)=>(match y with
  | .int ky (.ofNat b)=>ifB (Nat.beq (kn kx) (kn ky)) (bin2 A op kx a b (optR A (aBin op x y) k) k) (optR A (aBin op x y) k)
  | .int ky (.negSucc b)=>ifB (Nat.beq (kn kx) (kn ky)) (binN op false (optR A (aBin op x y) k) k) (optR A (aBin op x y) k)
  |_=>optR A (aBin op x y) k)
 | .int kx (.negSucc a)=>(match y with
  | .int ky (.ofNat b)=>ifB (Nat.beq (kn kx) (kn ky)) (binN op true (optR A (aBin op x y) k) k) (optR A (aBin op x y) k)
  |_=>optR A (aBin op x y) k)
 |_=>optR A (aBin op x y) k
theorem Qqz (A:Ans α) (op:BinOp) (kd:IntKind) (a b:Nat) (k:AV->α):
  binN op true (optR A (aBin op (.int kd (.negSucc a)) (.int kd (.ofNat b))) k) k=optR A (aBin op (.int kd (.negSucc a)) (.int kd (.ofNat b))) k:=by
 have hlt:(Int.negSucc a:Int)<Int.ofNat b:=by grind
 generalize Int.negSucc a=x at*
 generalize Int.ofNat b=y at*
 unfold binN
 grind [QdY,QbK,decide,QdZ,Qd0,Qd1,Qd2,Qd3]
theorem binN_eq' (A:Ans α) (op:BinOp) (kd:IntKind) (a b:Nat) (k:AV->α):
  binN op false (optR A (aBin op (.int kd (.ofNat a)) (.int kd (.negSucc b))) k) k=optR A (aBin op (.int kd (.ofNat a)) (.int kd (.negSucc b))) k:=by
 have hlt:(Int.negSucc b:Int)<Int.ofNat a:=by grind
 generalize Int.negSucc b=x at*
 generalize Int.ofNat a=y at*
 unfold binN
 grind [QdY,QbK,decide,QdZ,Qd0,Qd1,Qd2,Qd3]
theorem QqA (A:Ans α) (op:BinOp) (kd:IntKind) (a b:Nat) (k:AV->α):
  bin2 A op kd a b (optR A (aBin op (.int kd (.ofNat a)) (.int kd (.ofNat b))) k) k=optR A (aBin op (.int kd (.ofNat a)) (.int kd (.ofNat b))) k:=by
 unfold bin2
 cases op<;>simp only<;>try rfl
 ·rw [Qbv, QaI]
  split
  ·rename_i h1
   rw[Qhb,show(Int.ofNat a+Int.ofNat b:Int)=Int.ofNat (a+b) from rfl,QhQ (m:=a+b) (Nat.le_of_ble_eq_true h1),QbK];rfl
  ·rfl
 ·rw [QaI]
  split
  ·rename_i h0
   have h0:=Nat.le_of_ble_eq_true h0
   rw[Qbv,QaI]
   split
   ·rename_i h1
    rw[Qhc,show(Int.ofNat a-Int.ofNat b:Int)=Int.ofNat (a-b) from(Int.ofNat_sub h0).symm,QhQ (m:=a-b) (Nat.le_of_ble_eq_true h1),QbK];rfl
   ·rfl
  ·rfl
 ·rw [Qbv, QaI]
  split
  ·rename_i h1
   rw[Qhd,show(Int.ofNat a*Int.ofNat b:Int)=Int.ofNat (a*b) from rfl,QhQ (m:=a*b) (Nat.le_of_ble_eq_true h1),QbK];rfl
  ·rfl
 ·rw [QcH, QdY, QbK]
  simp only
  congr 2
  rw[Bool.eq_iff_iff];simp;omega
 ·rw [QcH, QdZ, QbK, QaI]
  simp only
  by_cases e:a=b
  ·subst e;simp
  ·have h1 : Nat.beq a b = false := by simp_all [Bool.eq_false_iff]
   grind [decide]
 ·rw [QcH, Qd0, QbK]
  simp only
  congr 2
  rw[Bool.eq_iff_iff];simp;omega
 ·rw [QcH, Qd1, QbK]
  simp only
  congr 2
  rw[Bool.eq_iff_iff];simp
 ·rw [QcH, Qd2, QbK]
  simp only
  congr 2
  rw[Bool.eq_iff_iff];simp;omega
 ·rw [QcH, Qd3, QbK]
  simp only
  congr 2
  rw[Bool.eq_iff_iff];simp
theorem QqB (A:Ans α) (op:BinOp) (x y:AV) (k:AV->α):binR A op x y k=match aBin op x y with|some v=>k v|none=>A.bad:=by
 rw[<-QbK A]
 unfold binR
 split
 ·split
  ·grind [QaI,QkH,QqA]
  ·grind [QaI,QkH,binN_eq']
  ·rfl
 ·split
  ·grind [QaI,QkH,Qqz]
  ·rfl
 ·rfl
def nthR (A:Ans α) (cs:List AV) (j:Nat) (k:AV->α):α:=
 @List.rec AV (fun _=>Nat->α) (fun _=>A.bad) (fun c _ ih j=>@Nat.rec (fun _=>α) (k c) (fun j _=>ih j) j) cs j
theorem Qmx (A:Ans α) (cs:List AV) (j:Nat) (k:AV->α):nthR A cs j k=match cs[j]? with|some v=>k v|none=>A.bad:=by
 induction cs generalizing j with
 |nil=>rfl
 |cons c cs ih=>
  cases j with
  |zero=>rfl
  |succ j=>exact(ih j).trans (by simp)
def nthSetR (cs:List AV) (j:Nat) (v:AV) (k:List AV->α):α:=
 @List.rec AV (fun _=>Nat->(List AV->α)->α) (fun _ k=>k []) (fun c r ih j k=>@Nat.rec (fun _=>α) (k (v::r)) (fun j _=>ih j fun r=>k (c::r)) j) cs j k
theorem Qno (cs:List AV) (j:Nat) (v:AV) (k:List AV->α):nthSetR cs j v k=k (cs.set j v):=by
 induction cs generalizing j k with
 |nil=>rfl
 |cons c cs ih=>
  cases j with
  |zero=>rfl
  |succ j=>exact ih j _
def dropR (cs:List AV) (j:Nat) (k:List AV->α):α:=
 @List.rec AV (fun _=>Nat->α) (fun _=>k []) (fun c r ih j=>@Nat.rec (fun _=>α) (k (c::r)) (fun j _=>ih j) j) cs j
theorem Qhe (cs:List AV) (j:Nat) (k:List AV->α):dropR cs j k=k (cs.drop j):=by
 induction cs generalizing j with
 |nil=>simp[dropR]
 |cons c cs ih=>
  cases j with
  |zero=>rfl
  |succ j=>exact ih j
def isPtr:AV->Bool
 | .ptr .. =>true
 |_=>false
def loadR (A:Ans α) (m:Option Nat) (x:AV) (h:Heap) (k:AV->α):α:=
 match m with
 | none => (match x with
  | .ptr b g off=>getR h b fun o=>(match o with
   |some (.cells g' cs)=>ifB (Nat.beq g' g) (nthR A cs off k) A.bad
   |_=>A.bad)
  | .fptr cs=>(match cs with
   |c::_=>k c
   |[]=>A.bad)
  |_=>A.bad)
 |some _=>runR A (aLoad m x) h fun v _=>fAV v k
theorem QkI (A:Ans α) (m:Option Nat) (x:AV) (h:Heap) (k:AV->α):loadR A m x h k=match (aLoad m x).run h with|some (v,_)=>k v|none=>A.bad:=by
 unfold loadR
 split
 ·split
  ·rename_i b g off
   rw[QbJ]
   simp only[aLoad,HM.cells,HM.run]
   cases hb:h.get b with
   |none=>rfl
   | some x =>
    cases x with
    |map g' es=>rfl
    |dead g'=>rfl
    |loop=>rfl
    | cells g' cs =>
     simp only
     rw[QaI,Qmx]
     cases hg:Nat.beq g' g with
     |true=>
      simp only[cond_true,if_true]
      cases cs[off]?<;>rfl
     |false=>simp[HM.run]
  ·rename_i cs
   split<;>rfl
  ·rename_i h1 h2
   cases x<;>first|rfl|(exact absurd rfl (h1 _ _ _))|(exact absurd rfl (h2 _))
 grind [QcR,Qc5]
def one1:AV->Bool
 | .any| .agg _| .tup _=>false
 |_=>true
def storeR (A:Ans α) (m:Nat) (x v:AV) (h:Heap) (k:AV->Heap->α):α:=
 match x with
 | .ptr b g off => ifB (one1 v && Nat.beq m 1) (getR h b fun o => (match o with
   |some (.cells g' cs)=>ifB (Nat.beq g' g) (ifB (Nat.ble (Nat.succ off) cs.length) (nthSetR cs off v fun cs=>putBR A h b (.cells g' cs) fun h=>k .any h) A.bad) A.bad
   |_=>A.bad)) (runR A (aStore m x v) h k)
 |_=>runR A (aStore m x v) h k
theorem Qor (A : Ans α) (m : Nat) (x v : AV) (h : Heap) (k : AV -> Heap -> α) : storeR A m x v h k = match (aStore m x v).run h with | some (u, h') => k u h' | none => A.bad := by
  unfold storeR
  split
  · rename_i b g off
    rw[QaI]
    split
    · rename_i h1
      simp only[Bool.and_eq_true]at h1
      obtain⟨h1,h2⟩:=h1
      have:m=1:=by simpa using h2
      subst this
      have hv:v.cells=[v]/\AV.one v=true:=by cases v<;>first|(exact⟨rfl,rfl⟩)|(cases h1)
      rw[QbJ]
      simp only[aStore,HM.cells,HM.run]
      cases hb:h.get b with
      |none=>rfl
      | some x =>
        cases x with
        |map g' es=>rfl
        |dead g'=>rfl
        |loop=>rfl
        | cells g' cs =>
          simp only
          rw[QaI,QaI]
          cases hg:Nat.beq g' g with
          |false=>simp[HM.run]
          | true =>
            have:g'=g:=by simpa using hg
            subst this
            simp only[cond_true,if_true,hv.1]
            by_cases hl:off<cs.length
            · rw [if_pos (Nat.ble_eq_true_of_le hl), if_pos ⟨rfl, hl, by simp [hv.2]⟩, Qno, QbR]
              simp only[HM.run]
              have e:Go.AM.putR cs off [v]=cs.set off v:=rfl
              by_cases hb:b<lim
              · have : Nat.blt b lim = true := by simp_all
                grind
              · have : Nat.blt b lim = false := by simp_all [Bool.eq_false_iff]
                grind
            · rw [if_neg (fun h => hl (Nat.le_of_ble_eq_true h)), if_neg (by simp; omega)]
              rfl
    grind [QcR]
  grind [QcR]
end
end Go.AM
namespace Go.AM
variable {P:Program}
theorem HRel.turnL {ok:Okc} {c:Ctx ok} {h:Heap} {w:World} (H:HRel c h w) {b g cb:Nat} {r:Loop} {x:Blk} (o:Obj) (hb:b<lim) (hl:Live h b g) (hp:c.ρ b g=some (.loc cb 0)) (hr:w.heap[cb]?=some (.loop r))
  (hg:x.gen=g) (hx:∀c',Evo c w c' (w.putObj cb o)->c'.ρ b g=some (.loc cb 0)->c'.O cb->BRel c' (w.putObj cb o) b x):
  ∃c',Evo c w c' (w.putObj cb o)/\HRel c' (h.set b x) (w.putObj cb o)/\c'.ρ b g=some (.loc cb 0):=by
 subst hg
 have hlt:=Qbd hr
 have other:∀k,k≠cb->(w.putObj cb o).heap[k]?=w.heap[k]?:=fun k hk=>World.putObj_heap_other hk
 have hlater:∀y,x.gen<y->c.ρ b y=none:=by
  intro y hy
  obtain⟨z,hz,hzg,_⟩:=hl
  exact H.later b z hz y (by omega)
 have:=H.put (w':=w.putObj cb o) (cb:=cb) (base:=0) hb hlater (.inr hp) (.inr ⟨x.gen,0,hl,hp⟩) rfl rfl rfl (by simp_all) (by simp_all)
  (fun k _ hk=>other k hk) (fun C e fr hc=>by simp_all) (fun E=>hx _ E (by show(if b=b/\x.gen=x.gen then _ else _)=_;simp_all) (.inr rfl))
 exact⟨_,this.1,this.2,by show(if b=b/\x.gen=x.gen then _ else _)=_;simp_all⟩
def upsT:Tmps->List Nat->List AV->Tmps
 |T,p::ps,x::xs=>upsT (up T p x) ps xs
 |T,_,_=>T
theorem QkJ {ok:Okc} {c:Ctx ok} {w:World}:∀(ps:List Nat) (xs:List AV) (vs:List Value) (T:Tmps) (t:Array Value),(∀p∈ps,p<t.size)->xs.length=ps.length->VRels c w xs vs->(∀i,VRel c w (lk T i) (t.getD i undef))->
  (∀i,VRel c w (lk (upsT T ps xs) i) (((ps.zip vs).foldl (fun t (p:Nat×Value)=>t.setIfInBounds p.1 p.2) t).getD i undef))/\((ps.zip vs).foldl (fun t (p:Nat×Value)=>t.setIfInBounds p.1 p.2) t).size=t.size
 |[],xs,vs,T,t,_,_,_,ht=>by cases xs<;>exact⟨ht,rfl⟩
 |p::ps,[],_,_,_,_,hl,_,_=>by simp at hl
 | p :: ps, x :: xs, vs, T, t, hp, hl, hv, ht => by
  simp only[VRels]at hv
  obtain⟨v,vs',rfl,h1,h2⟩:=hv
  have hlt:p<t.size:=hp p (by simp)
  obtain⟨k1,k2⟩:=QkJ ps xs vs' (up T p x) (t.setIfInBounds p v) (fun q hq=>by simp_all) (by simpa using hl) h2 (fun i=>by
   rw[lk_up]
   by_cases e:i=p
   ·simp_all
   ·rw [if_neg e]
    have:=ht i
    simpa[Array.getElem?_setIfInBounds_ne (fun h=>e h.symm)]using this)
  exact⟨k1,by simp_all⟩
def stOf:SX->LSt
 | .normal=> .ready
 |e=> .done e
def SX.isNormal:SX->Bool
 | .normal=>true
 |_=>false
theorem RSpec.of_W {b g N : Nat} {T : Tmps} {ps : List Nat} {asg body : LCode} {args : List AV} {h h' : Heap} {v : AV} (hb : h.get b = some (.loop g N T ps asg body .ready)) (hl : b < lim) (hlen : args.length = ps.length) (hps : ∀ p ∈ ps, p < N)
    (hw : W P N asg.slim (fun e B => e = .normal /\ ∃ N1 T1 ps1 as1 body1, B.h.get b = some (.loop g N1 T1 ps1 as1 body1 .ready) /\
      W P N body.slim (fun e C => ∃ N2 T2 ps2 as2 body2, C.h.get b = some (.loop g N2 T2 ps2 as2 body2 .busy) /\ v = .bool e.isNormal /\ ∀ x, (C.h.set b (.loop g N2 T2 ps2 as2 body2 (stOf e))).get x = h'.get x)
        ⟨B.T,B.h.set b (.loop g N1 T1 ps1 as1 body1 .busy)⟩)
      ⟨upsT T ps args,h⟩):RSpec P b g args h v h':=by
  intro c w cargs cb H ha hcb
  obtain⟨cb0,r,h1,h2,h3,L⟩:=H.blk b _ hb
  rw[hcb]at h1;cases h1
  have hcs:cargs.size=r.params.size:=by
    have e1:=QaC ha
    have e2:r.params.toList.length=ps.length:=by rw[L.params]
    simp_all
  refine⟨r.fn,_,r.assign,r.body,run_yield h3 hcs,roundIn_of_wpIn trivial ?_⟩
  have hfold:(r.params.zip cargs).foldl (fun tmps (x:Nat×Value)=>tmps.setIfInBounds x.1 x.2) r.tmps=(ps.zip cargs.toList).foldl (fun t (p:Nat×Value)=>t.setIfInBounds p.1 p.2) r.tmps:=by
    rw[<-Array.foldl_toList,Array.toList_zip,L.params]
  obtain⟨ht,hts⟩:=QkJ ps args cargs.toList T r.tmps (fun p hp=>by rw[L.size];exact hps p hp) hlen ha L.tmps
  refine hw r.assign L.okA.1 (c.rb 0) ⟨_,[]⟩ w ⟨H.rebase 0,fun i=>?_,?_,Nat.zero_le _⟩ (some cb) (fun e=>by rw[L.okA.2]at e;cases e) _ ?_
  · rw[hfold];exact(ht i).rebase 0
  · rw[hfold,hts,L.size]
  rintro e B c1 a1 w1 ⟨rfl,N1,T1,ps1,as1,body1,hB,hw2⟩ S1 E1
  obtain⟨cb1,r1,g1,g2,g3,L1⟩:=S1.heap.blk b _ hB
  have hcb1:c1.ρ b g=some (.loc cb 0):=E1.rho _ _ _ hcb
  rw[show c1.ρ b g=some (.loc cb1 0) from g1]at hcb1;cases hcb1
  refine⟨_,run_beginRound g3 L1.state,?_⟩
  obtain ⟨c2, E2, H2, hcb2⟩ := S1.heap.turnL (.loop { r1 with state := .busy }) (x := .loop g N1 T1 ps1 as1 body1 .busy) hl ⟨_, hB, rfl, fun k => by simp⟩ g1 g3 rfl (fun c' E' k1 k2 =>
    ⟨cb,_,k1,k2,World.putObj_heap_same (Qbd g3),by
      have L':=L1.mono (E'.ext S1.heap.disj)
      exact⟨L'.params,L'.size,L'.tmps,L'.okA,L'.okB,rfl,L'.pend⟩⟩)
  refine hw2 r.body L.okB.1 c2 a1 _ ⟨H2,fun i=>VRel.mono (E2.ext S1.heap.disj) _ _ (S1.tmps i),S1.size,S1.defers.mono E2⟩ (some cb) (fun e=>by rw[L.okB.2]at e;cases e) _ ?_
  rintro e C c3 a3 w3 ⟨N2,T2,ps2,as2,body2,hC,rfl,hh⟩ S3 E3
  obtain⟨cb3,r3,q1,q2,q3,L3⟩:=S3.heap.blk b _ hC
  have hcb3:c3.ρ b g=some (.loc cb 0):=E3.rho _ _ _ hcb2
  rw[show c3.ρ b g=some (.loc cb3 0) from q1]at hcb3;cases hcb3
  have fin:∀(jump:Option Code),jump.isNone=e.isNormal->(stOf e).pend=jump->(stOf e).state=(if jump.isNone then .ready else .done)->
      ∃v w',(Instr.endRound cb jump).run P w3= .ok v w'/\Rets P c w h' (.bool e.isNormal) (.returned v) w':=by
    intro jump j1 j2 j3
    obtain ⟨c4, E4, H4, _⟩ := S3.heap.turnL (.loop { r3 with state := if jump.isNone then .ready else .done, pending := jump }) (x := .loop g N2 T2 ps2 as2 body2 (stOf e)) hl ⟨_, hC, rfl, fun k => by simp⟩ q1 q3 rfl (fun c' E' k1 k2 =>
      ⟨cb,_,k1,k2,World.putObj_heap_same (Qbd q3),by
        have L':=L3.mono (E'.ext S3.heap.disj)
        exact⟨L'.params,L'.size,L'.tmps,L'.okA,L'.okB,j3.symm,j2.symm⟩⟩)
    have E:=((E1.trans E2).trans E3).trans E4
    exact⟨_,_,run_endRound jump q3,_,(c4.rb (c.base)),rfl,E.rebase,(Qcd hh H4).rebase _,by simp[VRel,j1]⟩
  cases e with
  |normal=>exact fin none rfl rfl rfl
  |exit i=>exact fin (some (.exit i)) rfl rfl rfl
  |ret=>exact fin (some .ret) rfl rfl rfl
def leftQ (Q:SX->St->Prop) (B:St):LSt->Prop
 | .ready=>Q .normal B
 | .busy=>False
 | .done e=>e.isNormal=false/\Q e B
theorem W.rfunc {N : Nat} {Q : SX -> St -> Prop} {A : St} {g : Opd} {ps : List Nat} {asg body : SCode} {f b : Nat} {first cap : List AV} {v : AV} {h2 : Heap} {T2 : Tmps} {N2 : Nat} {ps2 : List Nat} {as2 body2 : LCode} {st : LSt} (las lbody : LCode) (hla : las.slim = asg) (hlb : lbody.slim = body)
    (hg:ev A.T g= .fn f first cap) (hb:A.h.get b=none) (hl:b<lim) (hs:HSpec P f (first++[.yld b 0]++cap) (A.h.set b (.loop 0 N A.T ps las lbody .ready)) v h2)
    (hst:h2.get b=some (.loop 0 N2 T2 ps2 as2 body2 st))
    (hQ:leftQ Q ⟨A.T,h2.set b (.dead 0)⟩ st):W P N (.rfunc g ps N asg body) Q A:=by
  intro code hok c a w S ro hro Q' hQ'
  cases code<;>simp only[okCode,Bool.false_eq_true,Bool.and_eq_true,beq_iff_eq,Bool.not_eq_true']at hok
  rename_i g' ps' asg' body'
  obtain⟨⟨⟨⟨⟨⟨⟨k1,k2⟩,_⟩,_⟩,k3⟩,k4⟩,k5⟩,k6⟩:=hok
  have:=hro rfl
  subst this
  have hg':=Qat S.tmps k1
  rw[hg]at hg'
  simp only[VRel]at hg'
  obtain⟨x',y',hgv,hx,hy⟩:=hg'
  refine wpIn_rangeFunc fun fn _=>?_
  obtain⟨E0,H0⟩:=S.heap.grow (w':=w.alloc (.deferred (some []))) rfl rfl rfl (by simp) (fun k hk=>Go.RowKit.Below.heap_alloc w _ k hk)
  obtain⟨rec,hrec⟩:∃rec:Loop,rec={state:= .ready,pending:=none,fn,tmps:=a.tmps,params:=ps',assign:=asg',body:=body',defers:=w.heap.size}:=⟨_,rfl⟩
  have hsz1:(w.alloc (.deferred (some []))).heap.size=w.heap.size+1:=by simp
  obtain⟨E1,H1⟩:=H0.put (w':=(w.alloc (.deferred (some []))).alloc (.loop rec)) (b:=b) (cb:=w.heap.size+1) (base:=0) (x:= .loop 0 N A.T ps las lbody .ready) hl (fun y hy=>H0.fresh b hb y) (.inl (H0.fresh b hb _)) (.inl hsz1.symm)
    rfl rfl rfl (by simp) (by simp) (fun k hk _ => Go.RowKit.Below.heap_alloc _ _ k hk) (fun C e fr hc => by simp_all) (fun E =>
      ⟨w.heap.size+1,rec,by show(if b=b/\0=0 then _ else _)=_;simp_all,.inr rfl,by have:=World.alloc_heap_new (w.alloc (.deferred (some []))) (.loop rec);simp_all,by
        subst hrec
        exact⟨k2,S.size,fun i=>VRel.mono (E0.trans E|>.ext S.heap.disj) _ _ (S.tmps i),by rw[hla];exact⟨k5,k3⟩,by rw[hlb];exact⟨k6,k4⟩,rfl,rfl⟩⟩)
  generalize hc1:c.with b (Blk.loop 0 N A.T ps las lbody .ready).gen (.loc (w.heap.size+1) 0) (some (w.heap.size+1))=c1 at E1 H1
  have hρ1:c1.ρ b 0=some (.loc (w.heap.size+1) 0):=by rw[<-hc1];show(if b=b/\0=0 then _ else _)=_;simp_all
  have hO1:∀k,c1.O k->c.O k\/k=w.heap.size+1:=by
    intro k hk;rw[<-hc1]at hk
    rcases hk with hk|hk
    · exact .inl hk
    simp_all
  have hF1:∀k,c1.F k->c.F k:=by intro k hk;rw[<-hc1]at hk;exact hk
  generalize hW1:(w.alloc (.deferred (some []))).alloc (.loop rec)=W1 at E1 H1
  have hD1:W1.heap[w.heap.size]?=some (.deferred (some [])):=by
    grind [Go.RowKit.Below.heap_alloc,World.alloc_heap_new]
  have E01:=E0.trans E1
  have hargs:VRels c1 W1 (first++[.yld b 0]++cap) (x'++ #[Value.func (.yield (w.heap.size+1)) #[] #[]]++y').toList:=by
    have e1:=VRels.mono (E01.ext S.heap.disj) _ _ hx
    have e2:=VRels.mono (E01.ext S.heap.disj) _ _ hy
    have e3:VRels c1 W1 [.yld b 0] [.func (.yield (w.heap.size+1)) #[] #[]]:=by
      simp only[VRels,VRel];simp_all
    grind [Qbx]
  refine⟨w.heap.size+1,[{target:= .collected w.heap.size,args:= #[]}],W1,{target:= .fn (.func f) y',args:=x'++ #[.func (.yield (w.heap.size+1)) #[] #[]]},W1,f,x'++ #[.func (.yield (w.heap.size+1)) #[] #[]]++y',W1,?_,?_,fun _ _=>trivial,?_,fun h=>by simp[FW,Fence.wide]at h,?_⟩
  · rw[<-hW1,hrec];exact run_enterLoop_outer _ _ _ _ _
  · simp_all [resolve,Deferred.ofValue,Act.eval]
  · simp only [invoke]
    exact Qfu hs.1 _
  · refine callsFW ((hs.2 c1 W1 _ H1 hargs).mono ?_)
    rintro e w2 ⟨cv,c2,rfl,E2,H2,V2⟩
    obtain⟨cb,r,p1,p2,p3,L⟩:=H2.blk b _ hst
    have hρ2:c2.ρ b 0=some (.loc (w.heap.size+1) 0):=E2.rho _ _ _ hρ1
    rw[show c2.ρ b 0=some (.loc cb 0) from p1]at hρ2;cases hρ2
    have hbusy:r.state≠ .busy:=by
      rw[L.state]
      cases st<;>simp[LSt.state,leftQ]at hQ⊢
    obtain⟨c3,E3,H3,_⟩:=H2.turnL (.loop {r with state:= .exhausted}) (x:= .dead 0) hl ⟨_,hst,rfl,fun k=>by simp⟩ p1 p3 rfl (fun c' _ _ _=>trivial)
    have hel:=run_endLoop (P:=P) p3 hbusy
    generalize w2.putObj (w.heap.size+1) (.loop {r with state:= .exhausted})=W3 at E3 H3 hel
    refine⟨r.pending,W3,hel,?_⟩
    have E:=(E01.trans E2).trans E3
    have hlow:=S.defers.low
    have hD:w.heap.size<W1.heap.size:=Qbd hD1
    have notO1:¬c1.O w.heap.size:=fun h=>by
      rcases hO1 _ h with h|h
      · have:=S.heap.inO _ h;omega
      · omega
    have M : Marks c3 W3 ({ target := .collected w.heap.size, args := #[] } :: a.defers) := by
      have notF1:¬c1.F w.heap.size:=fun h=>by have:=S.heap.inF _ (hF1 _ h);omega
      have step:=(E2.trans E3)
      have m1 : Marks c1 W1 ({ target := .collected w.heap.size, args := #[] } :: a.defers) := by
        refine⟨⟨w.heap.size,rfl,by rw[E01.base];exact hlow,notO1,notF1,hD1,fun d' hd' e=>?_⟩,S.defers.mono E01⟩
        have key:∀{ds:List Deferred},Marks c w ds->∀d∈ds,∀D,d.target= .collected D->D<w.heap.size:=by
          intro ds
          induction ds with
          |nil=>intro _ d hd;cases hd
          | cons x xs ih =>
            rintro⟨⟨D0,x1,x2,x3,x4,x5,x6⟩,hr⟩ d hd D e
            rcases List.mem_cons.1 hd with rfl|hd
            · grind
            · grind
        have:=key S.defers d' hd' _ e
        omega
      exact m1.mono step
    have S3 : SRel N c3 ⟨A.T, h2.set b (.dead 0)⟩ { a with defers := { target := .collected w.heap.size, args := #[] } :: a.defers } W3 :=
      ⟨H3,fun i=>VRel.mono (E.ext S.heap.disj) _ _ (S.tmps i),S.size,M⟩
    have hpend:=L.pend
    cases st with
    | ready =>
      rw[show r.pending=none from hpend]
      exact hQ' .normal _ c3 _ _ hQ S3 E
    |busy=>exact hQ.elim
    | done e =>
      rw[show r.pending=some e.toCode from hpend]
      obtain⟨he,hq⟩:=hQ
      cases e with
      |normal=>cases he
      |exit i=>exact wpIn_exit (hQ' (.exit i) _ c3 _ _ hq S3 E)
      |ret=>exact wpIn_ret (hQ' .ret _ c3 _ _ hq S3 E)
end Go.AM
