/- A part of the proof of GuardsManyCardSaid: lemmas on the way (AmT, AmO, AmOa, AmP, AmQ, AmR, AmLr, AmS, AmNa, AmYa). Conditions: none of ours. -/
import Derived.Laws.IdiomRangeMap
import Derived.Test.YtgfnbkngfedlkaaGreatDoorAmG7
set_option linter.unusedSectionVars false
set_option maxHeartbeats 32000000
set_option maxRecDepth 100000
set_option linter.unusedVariables false
set_option linter.unusedSimpArgs false
namespace Go.AM
variable {P:Program} {ok':Okc} {c:Ctx ok'} {w:World} {h:Heap}
def upo (w:World) (r:Nat) (o:Obj):World:={w with heap:=w.heap.setIfInBounds r o}
theorem Qh0 {r:Nat} {o:Obj} (hr:r<w.heap.size):(upo w r o).heap[r]?=some o:=by
 simp[upo,hr]
theorem QaR {r k:Nat} {o:Obj} (hk:k≠r):(upo w r o).heap[k]?=w.heap[k]?:=by
 simp_all [upo,Ne.symm]
theorem QbF {r:Nat} {o:Obj}:(upo w r o).heap.size=w.heap.size:=by simp[upo]
theorem HRel.other (H:HRel c h w) {r:Nat} {o o':Obj} (hr:w.heap[r]?=some o) (hc:∀C e fr,o≠ .cells C e fr) (hO:¬c.O r) (hF:¬c.F r):
  Ext c w c (upo w r o')/\HRel c h (upo w r o'):=by
 have E:Ext c w c (upo w r o'):=by
  refine⟨fun _ _ _ h=>h,fun _ h=>h,fun cb ob hf hb=>?_,fun cb C e fr hb=>?_⟩
  ·grind [QaR]
  ·refine ⟨C, fr, ?_, rfl⟩
   rw[QaR (fun e2=>by simp_all)];exact hb
 refine⟨E,H.fresh,H.later,fun b x hg=>?_,H.inj,H.disj,fun k hk=>by rw[QbF];exact H.inF k hk,fun k hk=>by rw[QbF];exact H.inO k hk⟩
 refine BRel.mono E (fun cb base hd hp=>?_) (H.blk b x hg)
 have hOc:=H.owned ⟨x,hg,rfl,hd⟩ hp
 grind [QaR]
def Ctx.name {ok':Okc} (c:Ctx ok') (b r:Nat):Ctx ok':={c with ρ:=fun x y=>if x=b/\y=0 then some (.loc r 0)else c.ρ x y}
theorem HRel.name (H:HRel c h w) {b r:Nat} (hb:h.get b=none) (hl:b<lim):Evo c w (c.name b r) w/\HRel (c.name b r) (h.set b (.dead 0)) w:=by
 have E:Evo c w (c.name b r) w:=by
  refine⟨rfl,rfl,rfl,Nat.le_refl _,fun _ C _ fr h=>⟨C,fr,h,rfl⟩,fun _ _ _=>rfl,?_,fun _ h=>h,fun _ h=> .inl h,fun _ h=> .inl h,rfl⟩
  intro x y p hp
  show(if x=b/\y=0 then some (Place.loc r 0)else c.ρ x y)=some p
  by_cases e:x=b/\y=0
  ·obtain ⟨rfl, rfl⟩ := e
   rw[H.fresh _ hb]at hp;cases hp
  simp_all
 have hne:∀{x y:Nat},x≠b->(c.name b r).ρ x y=c.ρ x y:=by
  intro x y hx
  show(if x=b/\y=0 then some (Place.loc r 0)else c.ρ x y)=_
  simp_all
 refine⟨E,?_,?_,?_,?_,H.disj,H.inF,H.inO⟩
 ·intro x hx g
  rw[Tr.Qai _ hl]at hx
  by_cases e:x=b
  ·simp_all
  ·rw[if_neg e]at hx;rw[hne e];exact H.fresh x hx g
 ·intro x z hx g hg
  rw[Tr.Qai _ hl]at hx
  by_cases e:x=b
  ·rw [if_pos e] at hx; cases hx
   subst e
   show(if x=x/\g=0 then some (Place.loc r 0)else c.ρ x g)=none
   rw[if_neg (by omega)]
   exact H.fresh _ hb g
  ·rw[if_neg e]at hx;rw[hne e];exact H.later x z hx g hg
 ·intro x z hx
  rw[Tr.Qai _ hl]at hx
  by_cases e:x=b
  ·rw[if_pos e]at hx;cases hx;trivial
  ·rw [if_neg e] at hx
   refine BRel.mono (E.ext H.disj) (fun cb base hd hp=>?_) (H.blk x z hx)
   exact⟨H.owned ⟨z,hx,rfl,hd⟩ hp,rfl⟩
 ·intro x g x' g' cb base base' l l' p p'
  have live:∀{x g:Nat},Live (h.set b (.dead 0)) x g->x≠b/\Live h x g:=by
   rintro x g ⟨z,hz,hg,hd⟩
   rw[Tr.Qai _ hl]at hz
   by_cases e:x=b
   ·grind
   ·rw[if_neg e]at hz;exact⟨e,z,hz,hg,hd⟩
  obtain⟨n1,l1⟩:=live l
  obtain⟨n2,l2⟩:=live l'
  rw[hne n1]at p
  rw[hne n2]at p'
  exact H.inj _ _ _ _ _ _ _ l1 l2 p p'
theorem Qed:∀{xs:List (AV×AV)} {es:List MapEntry} {n k:Nat},MRel c w xs es n->k+xs.length=n->∀(i:Nat) (e:MapEntry),es[i]?=some e->e.born=k+i/\i<xs.length
 |[],es,n,k,hm,hk,i,e,hi=>by simp_all [MRel]
 | (x, y) :: xs, es, n, k, hm, hk, i, e, hi => by
  simp only[MRel]at hm
  obtain⟨e0,es',rfl,_,_,_,h4,h5⟩:=hm
  simp only[List.length_cons]at hk
  cases i with
  |zero=>simp at hi;subst hi;exact⟨by omega,by simp⟩
  |succ i=>
   simp at hi
   obtain⟨h6,h7⟩:=Qed h5 (k:=k+1) (by omega) i e hi
   exact⟨by omega,by simp;omega⟩
theorem Qf5 {ty:TypeId} {r bm since c0 clock:Nat} {seen:Array Nat} {es:Array MapEntry} (hr:w.heap[r]?=some (.mapIter (some bm) since seen c0)) (hb:w.heap[bm]?=some (.map es clock))
    (hold:∀x∈es.toList,x.born<since) (hsc:since<=c0):
    ((leftOf es seen).size=0/\(Instr.next (.pointer (some ⟨r,0,none⟩)) false ty).run P w= .ok (.tuple #[.bool false]) w)\/
    ∃e∈(leftOf es seen).toList,∃w1:World,(w1=w\/w1=w.drew)/\(Instr.next (.pointer (some ⟨r,0,none⟩)) false ty).run P w= .ok (.tuple #[.bool true,e.key,e.val]) (upo w1 r (.mapIter (some bm) since (seen.push e.born) clock)):=by
  simp only[Instr.next,getObj,Sem.run_bind,Sem.run,hr,hb,Result.andThen,next_test_false seen es since c0 hold hsc,Bool.false_eq_true,if_false]
  unfold leftOf
  have hmem:∀x∈(Array.filter (fun e=> !seen.contains e.born) es).toList,x.born<since:=fun x hx=>hold x (by simp_all)
  generalize Array.filter (fun e=> !seen.contains e.born) es=L at hmem⊢
  have e1:L.filter (fun x=>decide (x.born<since))=L:=Array.filter_eq_self.2 (fun x hx=>by simp_all)
  have e2:L.filter (fun x=>decide (x.born≥since))= #[]:=by
    simp_all
  simp only[e1,e2,Array.append_empty]
  by_cases h0:L.size=0
  · left
    have:L= #[]:=Array.eq_empty_of_size_eq_zero h0
    subst this
    refine⟨rfl,?_⟩
    simp_all [Question.forced]
  · right
    have hne:L.isEmpty=false:=by simp_all
    simp only[hne,Bool.false_eq_true,if_false,Array.empty_append,Array.size_map]
    have hch:∃(j:Nat) (w1:World),j<L.size/\(w1=w\/w1=w.drew)/\(choose (Question.mapNext L.size)).run P w= .ok j w1:=by
      by_cases hf:L.size<=1
      · exact⟨0,w,by omega,.inl rfl,by simp_all [Question.forced]⟩
      · exact⟨_,w.drew,Nat.mod_lt _ (by omega),.inr rfl,by
          simp only[choose,Sem.run,Question.forced,decide_eq_true_eq,hf,if_false,Question.cut]
          rfl⟩
    obtain⟨j,w1,hj,hal,hrun⟩:=hch
    refine⟨L[j],by simp,w1,hal,?_⟩
    have hr1:w1.heap[r]?=some (.mapIter (some bm) since seen c0):=by rcases hal with rfl|rfl<;>exact hr
    simp_all [setObj,upo,Sem.run]
theorem Qfa {r bm since clock:Nat} {seen:Array Nat} {es:Array MapEntry} {e:MapEntry} (hr:w.heap[r]?=some (.mapIter (some bm) since (seen.push e.born) clock)) (hb:w.heap[bm]?=some (.map es clock))
  (he:e∈es.toList) (hn:(es.toList.map (·.born)).Nodup):(Instr.entry (.pointer (some ⟨r,0,none⟩))).run P w= .ok (.tuple #[e.key,e.val]) w:=by
 have hf:es.find? (·.born==e.born)=some e:=by rw[<-Array.find?_toList];grind [find_born]
 simp_all [Instr.entry,getObj,Sem.run]
theorem QaV {ops:Array Oper} {o:Oper} {i:Nat} {Q:Exit->Act->World->Prop} {K:Act->World->Prop} {a:Act} {w':World} {cv:Value} (ho:ops[i]?=some o) (hg:o.guard=none)
  (hr:(execOp a.eval o).run P w= .ok (.value cv) w') (hK:K (a.put o.dst cv) w'):wpOpIn (FW none) 0 P ops Q i K a w:=by
 unfold wpOpIn
 rw[ho]
 have:Region.wanted o (yielded ops a.tmps)=true:=by simp[Region.wanted,hg]
 simp only[this,if_true]
 refine⟨fun _ _=>trivial,?_⟩
 show o.uponIn (FW none) 0 P a K Q ((o.semAt none a.eval).run P w)
 rw[Oper.semAt_none,hr]
 exact hK
theorem QdT {N base:Nat} {ops:Array Oper} {Q:Exit->Act->World->Prop} {C:St} {c0:Ctx (okc P)} {w0:World} {tl:List Nat}
  (hQ:∀c a w,SRel N c C a w->Evo c0 w0 c w->wpOpsIn (FW none) 0 P ops Q tl a w):
  ∀(l:List SOper) (i j:Nat) (fs:List FP) (A:St) (c:Ctx (okc P)) (a:Act) (w:World),(∀k s,l[k]?=some s->∃o,ops[i+k]?=some o/\okOper P N ops o s=true)->RunF P base j l fs A C->SRel N c A a w->Evo c0 w0 c w->
   wpOpsIn (FW none) 0 P ops Q (List.range' i l.length++tl) a w
 |[],i,j,fs,A,c,a,w,hok,hr,S,E=>by
  obtain⟨_,rfl⟩:=hr
  grind
 |s::l,i,j,fs,A,c,a,w,hok,hr,S,E=>by
  obtain⟨f,fs',v,h1,_,hs,hr⟩:=hr
  rw[List.length_cons,List.range'_succ,List.cons_append,wpOpsIn_cons]
  obtain⟨o,ho,hk⟩:=hok 0 s rfl
  rw[Nat.add_zero]at ho
  refine Qcb S ho hk hs fun c' a' w' S' E'=>?_
  refine QdT hQ l (i+1) (j+1) fs' _ c' a' w' ?_ hr S' (E.trans E')
  intro k s' hk'
  obtain⟨o',ho',hok'⟩:=hok (k+1) s' (by simpa using hk')
  grind
theorem QgW {code:Code} {p:MLParts} (h:mlParts code=some p):∃i6 i7 i8,code= .seq (.region i6 p.ops6 false) (.block p.b (.loop (.seq (.region i7 p.ops7 false) (.seq (.cond (.tmp p.c) .skip (.exit p.b')) (.block p.b3 (.seq (.region i8 p.ops8 false) p.body)))))):=by
 unfold mlParts at h
 grind
theorem Qhm {b r:Nat}:VRel (c.name b r) w (.ptr b 0 0) (.pointer (some ⟨r,0,none⟩)):=by
 simp only[VRel]
 exact⟨r,0,by show(if b=b/\0=0 then some (Place.loc r 0)else _)=_;simp,by simp⟩
structure IterAt {ok':Okc} (c:Ctx ok') (w:World) (b r mb mg n:Nat) (vis:List Nat) (m:Nat) (seen:Array Nat):Prop where
 name:c.ρ b 0=some (.loc r 0)
 free:¬c.O r/\¬c.F r/\r<w.heap.size
 obj:w.heap[r]?=some (.mapIter (some m) n seen n)
 place:c.ρ mb mg=some (.loc m 0)
 seen:∀i,i<n->(seen.contains i=true↔i∈vis)
theorem IterAt.evo {b r mb mg n m:Nat} {vis:List Nat} {seen:Array Nat} {c':Ctx ok'} {w':World} (I:IterAt c w b r mb mg n vis m seen) (E:Evo c w c' w'):IterAt c' w' b r mb mg n vis m seen:=
  ⟨E.rho _ _ _ I.name,⟨fun h=>(E.own r h).elim I.free.1 (fun h=>absurd I.free.2.2 (by omega)),fun h=>(E.frzNew r h).elim I.free.2.1 (fun h=>h.elim I.free.1 (fun h=>absurd I.free.2.2 (by omega))),Nat.lt_of_lt_of_le I.free.2.2 E.size⟩,
    by rw[E.keep r I.free.2.2 I.free.1];exact I.obj,E.rho _ _ _ I.place,I.seen⟩
theorem Qb1 {N:Nat} {A:St} {a:Act} {d:Nat} {v:AV} {cv:Value} (S:SRel N c A a w) (hd:d<N) (V:VRel c w v cv):SRel N c ⟨up A.T d v,A.h⟩ (a.put (some d) cv) w:=by
 have:=S.put (dst:=some d) (.refl c w) S.heap (fun e he=>by simp_all) V
 exact this
theorem Marks.turn {r:Nat} {o o':Obj} (hr:w.heap[r]?=some o) (hn:o≠ .deferred (some [])):∀{ds:List Deferred},Marks c w ds->Marks c (upo w r o') ds
 |[],h=>by show c.base<=_;rw[QbF];exact h
 |d::ds,⟨⟨D,h1,h2,h3,h4,h5,h6⟩,hm⟩=>
  ⟨⟨D,h1,h2,h3,h4,by rw[QaR (fun e=>by simp_all)];exact h5,h6⟩,Marks.turn hr hn hm⟩
theorem SRel.turn {N:Nat} {A:St} {a:Act} {r:Nat} {o o':Obj} (S:SRel N c A a w) (hr:w.heap[r]?=some o) (hc:∀C e fr,o≠ .cells C e fr) (hO:¬c.O r) (hF:¬c.F r) (hn:o≠ .deferred (some [])):SRel N c A a (upo w r o'):=by
 obtain⟨E,H⟩:=S.heap.other (o':=o') hr hc hO hF
 exact⟨H,fun i=>VRel.mono E _ _ (S.tmps i),S.size,S.defers.turn hr hn⟩
theorem Evo.turn {c0:Ctx ok'} {w0:World} (E:Evo c0 w0 c w) {r:Nat} {o':Obj} (hr:w0.heap.size<=r):Evo c0 w0 c (upo w r o'):=
  ⟨E.os,E.tape,E.output,by rw[QbF];exact E.size,
    fun cb C e fr hb=>by
      obtain⟨C',fr',h1,h2⟩:=E.shape cb C e fr hb
      grind [QaR],
    fun cb hlt hO=>by rw[QaR (by omega)];exact E.keep cb hlt hO,E.rho,E.frz,E.frzNew,E.own,E.base⟩
theorem Qcv {i:Nat}:∀(L:List Nat),i∈L->(L.filter fun j=>j≠i).length<L.length
 |[],h=>by cases h
 | y :: L, hmem => by
  rcases List.mem_cons.1 hmem with h|h
  ·grind
  ·have := Qcv L h
   grind
theorem W.mloop {N n : Nat} {Q : SX -> St -> Prop} {A B0 : St} {pre rest : List SOper} {x : Opd} {it nx ok en b1 b2 : Nat} {body : SCode} (base : Nat) (fs : List FP) (hr : RunF P base 0 pre fs A B0)
  {mb mg:Nat} {es:List (AV×AV)} (hx:ev B0.T x= .map mb mg) (hm:B0.h.get mb=some (.map mg es)) (hn:B0.h.get n=none) (hnl:n<lim)
  (I:List Nat->St->Prop) (hI:∀vis B,I vis B->lk B.T it= .ptr n 0 0/\∃es',B.h.get mb=some (.map mg es')/\es'.length=es.length)
  (h0:I [] ⟨up B0.T it (.ptr n 0 0),B0.h.set n (.dead 0)⟩)
  (round : ∀ vis B i k v es', I vis B -> i ∉ vis -> B.h.get mb = some (.map mg es') -> es'[i]? = some (k, v) -> ∃ bs fs C, RunF P bs 0 rest fs ⟨up (up (up B.T nx .any) ok (.bool true)) en (.tup [k, v]), B.h⟩ C /\
   W P N body (fun e D=>match e with
    | .normal=>I (i::vis) D
    | .exit j=>if j=b2 then I (i::vis) D else if j=b1 then Q .normal D else Q (.exit j) D
    | .ret=>Q .ret D) C)
  (done:∀vis B,I vis B->(∀i,i<es.length->i∈vis)->Q .normal ⟨up (up B.T nx .any) ok (.bool false),B.h⟩):W P N (.mloop pre x it nx ok en b1 b2 rest body) Q A:=by
 intro code hok c0 a0 w0 S0 ro hro Q' hQ
 have:=hro rfl
 subst this
 simp only[okCode]at hok
 split at hok
 ·rename_i p hp
  simp only[Bool.and_eq_true,beq_iff_eq]at hok
  obtain⟨⟨⟨⟨⟨⟨⟨o6,ob⟩,o7⟩,oc⟩,ob'⟩,ob3⟩,o8⟩,obd⟩:=hok
  obtain⟨i6,i7,i8,rfl⟩:=QgW hp
  rw[ob,oc,ob',ob3]
  unfold okRange at o6
  split at o6
  ·rename_i o ho
   simp only[Bool.and_eq_true,beq_iff_eq,decide_eq_true_eq,Option.isNone_iff_eq_none]at o6
   obtain⟨⟨⟨⟨⟨g1,g2⟩,g3⟩,g4⟩,g5⟩,g6⟩:=o6
   obtain⟨k1,k2⟩:=Qbo g6
   have hpre:∀k s,pre[k]?=some s->∃o,p.ops6[0+k]?=some o/\okOper P N p.ops6 o s=true:=by
    intro k s hs
    have hlt:k<pre.length:=(List.getElem?_eq_some_iff.1 hs).1
    have hlt6:k<p.ops6.size:=by omega
    have e1:(p.ops6.toList.take pre.length)[k]?=some p.ops6[k]:=by
     simp_all
    grind
   refine wpIn_seq (wpIn_region ?_)
   rw[g5,show List.range (pre.length+1)=List.range' 0 pre.length++[pre.length] by rw[List.range_succ,List.range_eq_range']]
   refine QdT (c0:=c0) (w0:=w0) ?_ pre 0 0 fs A c0 a0 w0 hpre hr S0 (.refl _ _)
   intro c a w S E
   rw[wpOpsIn_cons]
   split at g4
   ·rename_i t y hop
    simp only[Bool.and_eq_true]at g4
    obtain⟨gt,gx⟩:=g4
    have hxr:=Qaa S.tmps gx
    rw[hx]at hxr
    simp only[VRel]at hxr
    obtain⟨m,hpm,hym⟩:=hxr
    obtain⟨ms,clock,hOm,hCm,hRm,hcl⟩:=S.heap.atMap hm hpm
    obtain⟨kt,et,hu⟩:∃kt et,P.underlying t=some (.map kt et):=by
     grind [isMapT]
    have hrun:(execOp a.eval o).run P w= .ok (.value (.pointer (some ⟨w.heap.size,0,none⟩))) (w.alloc (.mapIter (some m) clock #[] clock)):=by
     have e1:execOp a.eval o=(do pure (.value (<-Instr.range t (a.eval y)))):=by
      cases o;simp only at hop;subst hop;rfl
     rw[e1,hym]
     simp[run_range_map w t kt et m ms clock hu hCm]
    refine QaV ho g3 hrun ?_
    show Exit.then _ _ .normal _ _
    rw[g1]
    obtain⟨E1,H1⟩:=S.heap.grow (w':=w.alloc (.mapIter (some m) clock #[] clock)) rfl rfl rfl (by simp) (fun k hk=>by simp_all [heap_alloc_old])
    obtain⟨E2,H2⟩:=H1.name (b:=n) (r:=w.heap.size) hn hnl
    have E02:Evo c0 w0 (c.name n w.heap.size) (w.alloc (.mapIter (some m) clock #[] clock)):=(E.trans E1).trans E2
    have S2:SRel N (c.name n w.heap.size) ⟨up B0.T it (.ptr n 0 0),B0.h.set n (.dead 0)⟩ (a.put (some it) (.pointer (some ⟨w.heap.size,0,none⟩))) (w.alloc (.mapIter (some m) clock #[] clock)):=
     S.put (dst:=some it) (E1.trans E2) H2 (fun d hd=>by simp_all) Qhm
    have hsz:w.heap.size<(w.alloc (.mapIter (some m) clock #[] clock)).heap.size:=by simp
    have J2:IterAt (c.name n w.heap.size) (w.alloc (.mapIter (some m) clock #[] clock)) n w.heap.size mb mg es.length [] m #[]:=by
     refine⟨?_,⟨fun hO=>absurd (S.heap.inO _ hO) (Nat.lt_irrefl _),fun hF=>absurd (S.heap.inF _ hF) (Nat.lt_irrefl _),hsz⟩,?_,E2.rho _ _ _ hpm,fun i _=>by simp⟩
     ·show(if n=n/\0=0 then some (Place.loc w.heap.size 0)else _)=_;simp
     ·rw[heap_alloc_new,hcl]
    have hr0':w0.heap.size<=w.heap.size:=E.size
    generalize w.heap.size=r at*
    generalize w.alloc (.mapIter (some m) clock #[] clock)=w2 at*
    generalize a.put (some it) (.pointer (some ⟨r,0,none⟩))=a2 at*
    generalize hB2:(⟨up B0.T it (.ptr n 0 0),B0.h.set n (.dead 0)⟩:St)=B2 at*
    generalize c.name n r=c2 at*
    refine wpIn_block ?_
    have key : ∀ (left : Nat) (vis : List Nat) (B : St) (c : Ctx (okc P)) (a : Act) (w : World) (m : Nat) (seen : Array Nat), ((List.range es.length).filter fun i => i ∉ vis).length = left -> I vis B -> SRel N c B a w -> Evo c0 w0 c w -> IterAt c w n r mb mg es.length vis m seen ->
      Lp none P (.seq (.region i7 p.ops7 false) (.seq (.cond (.tmp ok) .skip (.exit b1)) (.block b2 (.seq (.region i8 p.ops8 false) p.body)))) (fun e a' w'=>match e with| .exit j=>if j=b1 then Q' .normal a' w' else Q' (.exit j) a' w'|e=>Q' e a' w') a w:=by
     intro left
     induction left using Nat.strongRecOn with
     | _ left ih =>
      intro vis B c a w m seen hleft hIB S E J
      obtain⟨hit,es',hmapB,hel⟩:=hI vis B hIB
      have hv:=S.tmps it
      rw[hit]at hv
      simp only[VRel]at hv
      obtain⟨cb,bs,hp1,hv⟩:=hv
      rw[J.name]at hp1;cases hp1
      obtain⟨ms,clock,hOm,hCm,hRm,hcl⟩:=S.heap.atMap hmapB J.place
      have hlen:=Qbm hRm
      have hborn:∀(i:Nat) (e:MapEntry),ms.toList[i]?=some e->e.born=i/\i<es.length:=by
       intro i e hi
       have:=Qed hRm (k:=0) (by omega) i e hi
       omega
      have hold:∀y∈ms.toList,y.born<es.length:=by
       grind [List.mem_iff_getElem?]
      unfold okNext at o7
      split at o7
      ·rename_i oa ob7 h7
       simp only[Bool.and_eq_true,beq_iff_eq,decide_eq_true_eq,Option.isNone_iff_eq_none,Bool.not_eq_true',beq_eq_false_iff_ne]at o7
       obtain⟨⟨⟨⟨⟨⟨⟨⟨⟨q1,q2⟩,q3⟩,q4⟩,q5⟩,q6⟩,q7⟩,q8⟩,q9⟩,q10⟩:=o7
       have h7':p.ops7= #[oa,ob7]:=by grind
       have hround : (Code.seq (.region i7 p.ops7 false) (.seq (.cond (.tmp ok) .skip (.exit b1)) (.block b2 (.seq (.region i8 p.ops8 false) p.body)))).wpIn (FW none) 0 P (fun e a' w' => match e with
         | .normal=>∃left' vis' B' c' m' seen',left'<left/\((List.range es.length).filter fun i=>i∉vis').length=left'/\I vis' B'/\SRel N c' B' a' w'/\Evo c0 w0 c' w'/\IterAt c' w' n r mb mg es.length vis' m' seen'
         | .exit j=>if j=b1 then Q' .normal a' w' else Q' (.exit j) a' w'
         |e=>Q' e a' w') a w:=by
        refine wpIn_seq (wpIn_region ?_)
        rw[h7']
        show wpOpsIn (FW none) 0 P _ _ [0,1] a w
        rw[wpOpsIn_cons]
        split at q4
        ·rename_i j hopa
         have hji:j=it:=by simpa using q4
         subst hji
         split at q8
         ·rename_i j2 hopb
          have hj2:j2=nx:=by simpa using q8
          subst hj2
          have hevi:a.eval (.tmp j)= .pointer (some ⟨r,0,none⟩):=by grind [Act.eval]
          have eA:execOp a.eval oa=(do pure (.value (<-Instr.next (a.eval (.tmp j)) false oa.type))):=by
           cases oa;simp only at hopa;subst hopa;rfl
          have eB:∀(a:Act),execOp a.eval ob7=(do pure (.value (<-Instr.extract (a.eval (.tmp j2)) 0))):=by
           intro a
           cases ob7;simp only at hopb;subst hopb;rfl
          rcases Qf5 (P:=P) (ty:=oa.type) J.obj hCm hold (Nat.le_refl _)with⟨h1,h2⟩|⟨e,he,w1,hw1,h2⟩
          ·-- nothing is left
           refine QaV (by simp) q3 (cv:= .tuple #[.bool false]) (w':=w) (by simp_all) ?_
           rw[q1]
           have S1:SRel N c ⟨up B.T j2 .any,B.h⟩ (a.put (some j2) (.tuple #[.bool false])) w:=Qb1 S q2 (by simp[VRel])
           have hl1:j2<(a.put (some j2) (.tuple #[.bool false])).tmps.size:=by rw[S1.size];exact q2
           have hev1:(a.put (some j2) (.tuple #[.bool false])).eval (.tmp j2)= .tuple #[.bool false]:=by
            simp_all [Act.eval,Act.put]
           rw[wpOpsIn_cons]
           refine QaV (by simp) q7 (cv:= .bool false) (w':=w) (by simp_all [Instr.extract]) ?_
           rw[q5]
           have S2:SRel N c ⟨up (up B.T j2 .any) ok (.bool false),B.h⟩ ((a.put (some j2) (.tuple #[.bool false])).put (some ok) (.bool false)) w:=Qb1 S1 q6 (by simp[VRel])
           show Exit.then _ _ .normal _ _
           refine wpIn_seq ?_
           have hc2:((a.put (some j2) (.tuple #[.bool false])).put (some ok) (.bool false)).eval (.tmp ok)= .bool false:=by
            have:=S2.tmps ok
            simp_all [lk_up,VRel,Act.eval]
           refine wpIn_cond hc2 ?_
           refine wpIn_exit ?_
           show(if b1=b1 then Q' .normal _ _ else _)
           rw[if_pos rfl]
           refine hQ .normal _ c _ w (done vis B hIB ?_) S2 E
           intro i hi
           have hmi:i<ms.toList.length:=by omega
           have hbi:=hborn i ms.toList[i] (List.getElem?_eq_getElem hmi)
           refine(J.seen i hi).1 ?_
           cases hcs:seen.contains i with
           |true=>rfl
           | false =>
            exfalso
            have hmem:ms.toList[i]∈(leftOf ms seen).toList:=by
             grind [leftOf]
            have:(leftOf ms seen).toList.length=0:=by simpa using h1
            rw[List.length_eq_zero_iff.1 this]at hmem
            cases hmem
          ·-- an entry
           have hem:e∈ms.toList/\seen.contains e.born=false:=by
            simp_all [leftOf]
           obtain⟨i,hi⟩:=List.mem_iff_getElem?.1 hem.1
           obtain⟨hb1,hilt⟩:=hborn i e hi
           have hnv:i∉vis:=by
            intro hiv
            have:=(J.seen i hilt).2 hiv
            simp_all
           have hilt':i<es'.length:=by omega
           have hesi:es'[i]?=some es'[i]:=List.getElem?_eq_getElem hilt'
           obtain⟨e',he',hk1,hk2⟩:=QbB i hRm hesi
           rw[hi]at he';cases he'
           obtain⟨E1,H1⟩:=S.heap.drew
           have Sd:SRel N c B a w1/\Evo c w c w1:=by
            rcases hw1 with rfl|rfl
            ·exact⟨S,.refl _ _⟩
            ·exact⟨⟨H1,fun i=>VRel.mono (E1.ext S.heap.disj) _ _ (S.tmps i),S.size,S.defers.mono E1⟩,E1⟩
           have hr1:w1.heap[r]?=some (.mapIter (some m) es.length seen es.length):=by rcases hw1 with rfl|rfl<;>exact J.obj
           have hC1:w1.heap[m]?=some (.map ms clock):=by rcases hw1 with rfl|rfl<;>exact hCm
           have hmr:m≠r:=by grind
           have S1:=Sd.1.turn (o':= .mapIter (some m) es.length (seen.push e.born) clock) hr1 (by simp_all) J.free.1 J.free.2.1 (by simp_all)
           have E1':Evo c0 w0 c (upo w1 r (.mapIter (some m) es.length (seen.push e.born) clock)):=(E.trans Sd.2).turn hr0'
           have hsz1:r<w1.heap.size:=by grind
           have J1:IterAt c (upo w1 r (.mapIter (some m) es.length (seen.push e.born) clock)) n r mb mg es.length (i::vis) m (seen.push e.born):=by
            refine⟨J.name,⟨J.free.1,J.free.2.1,by grind [QbF]⟩,by simp_all [Qh0],J.place,?_⟩
            intro j hj
            rw[Array.contains_push,List.mem_cons,hb1]
            by_cases hji:j=i
            ·simp[hji]
            ·have : (j == i) = false := by simpa using hji
             simp only[this,Bool.or_false,hji,false_or]
             exact J.seen j hj
           have hC2:(upo w1 r (.mapIter (some m) es.length (seen.push e.born) clock)).heap[m]?=some (.map ms clock):=by simp_all [QaR]
           generalize hw2:upo w1 r (.mapIter (some m) es.length (seen.push e.born) clock)=w2' at*
           refine QaV (by simp) q3 (cv:= .tuple #[.bool true,e.key,e.val]) (w':=w2') (by simp_all) ?_
           rw[q1]
           have S2:SRel N c ⟨up B.T j2 .any,B.h⟩ (a.put (some j2) (.tuple #[.bool true,e.key,e.val])) w2':=Qb1 S1 q2 (by simp[VRel])
           have hev1:(a.put (some j2) (.tuple #[.bool true,e.key,e.val])).eval (.tmp j2)= .tuple #[.bool true,e.key,e.val]:=by
            have hl0:j2<a.tmps.size:=by rw[S.size];exact q2
            simp[Act.eval,Act.put,hl0]
           rw[wpOpsIn_cons]
           refine QaV (by simp) q7 (cv:= .bool true) (w':=w2') (by simp_all [Instr.extract]) ?_
           rw[q5]
           have S3:SRel N c ⟨up (up B.T j2 .any) ok (.bool true),B.h⟩ ((a.put (some j2) (.tuple #[.bool true,e.key,e.val])).put (some ok) (.bool true)) w2':=Qb1 S2 q6 (by simp[VRel])
           show Exit.then _ _ .normal _ _
           refine wpIn_seq ?_
           have hc2:((a.put (some j2) (.tuple #[.bool true,e.key,e.val])).put (some ok) (.bool true)).eval (.tmp ok)= .bool true:=by
            have:=S3.tmps ok
            simp_all [lk_up,VRel,Act.eval]
           refine wpIn_cond hc2 ?_
           refine wpIn_skip ?_
           show Exit.then _ _ .normal _ _
           refine wpIn_block (wpIn_seq (wpIn_region ?_))
           unfold okEntry at o8
           split at o8
           ·rename_i oe le h8
            simp only[Bool.and_eq_true,beq_iff_eq,decide_eq_true_eq,Option.isNone_iff_eq_none]at o8
            obtain⟨⟨⟨⟨z1,z2⟩,z3⟩,z4⟩,z5⟩:=o8
            obtain⟨y1,y2⟩:=Qbo z5
            have hs8:p.ops8.size=1+rest.length:=by
             have:p.ops8.toList.length=(oe::le).length:=by rw[h8]
             grind
            have hg8:∀k,p.ops8[k]?=(oe::le)[k]?:=fun k=>by rw[<-h8,Array.getElem?_toList]
            rw[hs8,show List.range (1+rest.length)=0::(List.range' 1 rest.length++[]) by rw[List.range_eq_range',Nat.add_comm,List.range'_succ];simp]
            rw[wpOpsIn_cons]
            split at z4
            ·rename_i j3 hope
             have hj3:j3=j:=by simpa using z4
             subst hj3
             have eE:∀(a:Act),execOp a.eval oe=(do pure (.value (<-Instr.entry (a.eval (.tmp j3))))):=by
              intro a
              cases oe;simp only at hope;subst hope;rfl
             have hev3:((a.put (some j2) (.tuple #[.bool true,e.key,e.val])).put (some ok) (.bool true)).eval (.tmp j3)= .pointer (some ⟨r,0,none⟩):=by
              simp_all [Act.eval,Act.put]
             have hnd:(ms.toList.map (·.born)).Nodup:=by
              grind [List.pairwise_iff_getElem]
             have hobj2:w2'.heap[r]?=some (.mapIter (some m) es.length (seen.push e.born) clock):=by rw[J1.obj,hcl,hel]
             refine QaV (by rw[hg8];rfl) z3 (cv:= .tuple #[e.key,e.val]) (w':=w2') (by rw[eE,hev3];simp[Qfa (P:=P) hobj2 hC2 hem.1 hnd]) ?_
             rw[z1]
             have vk:VRel c w2' (es'[i]).1 e.key/\VRel c w2' (es'[i]).2 e.val:=by
              obtain⟨X,_⟩:=Sd.1.heap.other (o':= .mapIter (some m) es.length (seen.push e.born) clock) hr1 (by simp_all) J.free.1 J.free.2.1
              rw[hw2]at X
              exact⟨VRel.mono X _ _ (VRel.mono (Sd.2.ext S.heap.disj) _ _ hk1),VRel.mono X _ _ (VRel.mono (Sd.2.ext S.heap.disj) _ _ hk2)⟩
             have S4:SRel N c ⟨up (up (up B.T j2 .any) ok (.bool true)) en (.tup [(es'[i]).1,(es'[i]).2]),B.h⟩ (((a.put (some j2) (.tuple #[.bool true,e.key,e.val])).put (some ok) (.bool true)).put (some en) (.tuple #[e.key,e.val])) w2':=
              Qb1 S3 z2 (by simp only[VRel];exact⟨_,rfl,by simp only[VRels];grind⟩)
             obtain⟨bs,fs8,C8,hr8,hbody⟩:=round vis B i (es'[i]).1 (es'[i]).2 es' hIB hnv hmapB hesi
             have hrest:∀k s,rest[k]?=some s->∃o,p.ops8[1+k]?=some o/\okOper P N p.ops8 o s=true:=by
              intro k s hs
              have hlt:k<rest.length:=(List.getElem?_eq_some_iff.1 hs).1
              have hlt8:k<le.length:=by omega
              obtain⟨s',hs',hk⟩:=y2 k le[k] (List.getElem?_eq_getElem hlt8)
              grind
             refine QdT (c0:=c) (w0:=w2') ?_ rest 1 0 fs8 _ c _ w2' hrest hr8 S4 (.refl _ _)
             intro c5 a5 w5 S5 E5
             show Exit.then _ _ .normal _ _
             refine hbody p.body obd c5 a5 w5 S5 none (fun _=>rfl) _ ?_
             intro e2 D c6 a6 w6 hq6 S6 E6
             have E06:Evo c0 w0 c6 w6:=(E1'.trans E5).trans E6
             have J6:=(J1.evo E5).evo E6
             have again:I (i::vis) D->∃left' vis' B' c' m' seen',left'<left/\((List.range es.length).filter fun i=>i∉vis').length=left'/\I vis' B'/\SRel N c' B' a6 w6/\Evo c0 w0 c' w6/\IterAt c' w6 n r mb mg es.length vis' m' seen':=by
              intro hI6
              refine⟨_,i::vis,D,c6,m,_,?_,rfl,hI6,S6,E06,J6⟩
              rw[<-hleft]
              have hsub:((List.range es.length).filter fun j=>j∉i::vis)=(((List.range es.length).filter fun j=>j∉vis).filter fun j=>j≠i):=by
               simp_all
              rw[hsub]
              have hmem:i∈(List.range es.length).filter fun j=>j∉vis:=List.mem_filter.2 ⟨List.mem_range.2 hilt,by simpa using hnv⟩
              exact Qcv _ hmem
             cases e2 with
             |normal=>exact again hq6
             |ret=>exact hQ .ret D c6 a6 w6 hq6 S6 E06
             | exit jj =>
              simp only at hq6
              show(if jj=b2 then _ else _)
              split at hq6
              ·simp_all
              ·rename_i e3
               rw[if_neg e3]
               show(if jj=b1 then Q' .normal _ _ else Q' (.exit jj) _ _)
               split at hq6
               ·rename_i e4;rw[if_pos e4];exact hQ .normal D c6 a6 w6 hq6 S6 E06
               ·rename_i e4;rw[if_neg e4];exact hQ (.exit jj) D c6 a6 w6 hq6 S6 E06
            ·cases z4
           ·cases o8
         ·cases q8
        ·cases q4
       refine Lp.round (wpIn_mono hround ?_)
       intro e a' w' hq
       cases e with
       |normal=>
        obtain⟨left',vis',B',c',m',seen',hlt,hl',hI',S',E',J'⟩:=hq
        exact ih left' hlt vis' B' c' a' w' m' seen' hl' hI' S' E' J'
       |exit j=>exact hq
       |goto l=>exact hq
       |ret=>exact hq
       |panic ch=>exact hq
       |outgrown=>exact hq
      ·cases o7
    exact wpIn_mono (key _ [] B2 c2 a2 w2 m #[] rfl h0 S2 E02 J2).loop fun e a' w' hq=>by cases e<;>exact hq
   ·cases g4
  ·cases o6
 ·cases hok
end Go.AM
namespace Go.AM
open Go.RowKit
variable {P:Program}
def WR (P:Program) (base:Nat):Nat->List SOper->Tmps->Heap->(Tmps->Heap->Prop)->Prop
 |_,[],T,h,K=>K T h
 |i,s::r,T,h,K=>∃f v h1,StepV P (base+i) s T h v h1 f/\WR P base (i+1) r (putD T s.dst v) h1 K
theorem WR.toF {base:Nat}:∀{r:List SOper} {i:Nat} {T:Tmps} {h:Heap} {K:Tmps->Heap->Prop},WR P base i r T h K->∃fs T' h',RunF P base i r fs ⟨T,h⟩ ⟨T',h'⟩/\K T' h'
 |[],i,T,h,K,hk=>⟨[],T,h,⟨rfl,rfl⟩,hk⟩
 |s::r,i,T,h,K,⟨f,v,h1,hs,hr⟩=>by
  obtain⟨fs,T',h',h2,hk⟩:=WR.toF hr
  exact⟨f::fs,T',h',⟨f,fs,v,h1,rfl,hs,h2⟩,hk⟩
theorem W.regionR {N:Nat} {Q:SX->St->Prop} {T:Tmps} {h:Heap} {sops:List SOper} {dead:List Nat} (base:Nat)
  (hr:WR P base 0 sops T h fun T h=>Q .normal ⟨rm T dead,h⟩):W P N (.region sops [] dead) Q ⟨T,h⟩:=by
 grind [WR.toF,W.regionF]
section
variable {base i:Nat} {d:Option Nat} {s:SOp} {af:List Nat} {r:List SOper} {T:Tmps} {h h1:Heap} {K:Tmps->Heap->Prop} {v:AV}
end
end Go.AM
namespace Go.AM
variable {P:Program}
structure NM where
 n:Nat
 m:Nat
variable {ok:Okc}
structure Evo2 (m:Nat) (c:Ctx ok) (w:World) (c':Ctx ok) (w':World):Prop where
 os:w'.os=w.os
 tape:w'.tape=w.tape
 output:w'.output=w.output
 size:w.heap.size<=w'.heap.size
 shape:∀(cb:Nat) (C:Array Value) (e:TypeId) (fr:Nat×Nat),w.heap[cb]?=some (.cells C e fr)->∃(C':Array Value) (fr':Nat×Nat),w'.heap[cb]?=some (.cells C' e fr')/\C'.size=C.size
 keep:∀cb,cb<w.heap.size->¬c.O cb->w'.heap[cb]?=w.heap[cb]?
 rho:∀b g p,b<m->c.ρ b g=some p->c'.ρ b g=some p
 frz:∀cb,c.F cb->c'.F cb
 frzNew:∀cb,c'.F cb->c.F cb\/c.O cb\/w.heap.size<=cb
 own:∀cb,c'.O cb->c.O cb\/w.heap.size<=cb
 base:c'.base=c.base
theorem Evo.to2 {m:Nat} {c c':Ctx ok} {w w':World} (E:Evo c w c' w'):Evo2 m c w c' w':=
 ⟨E.os,E.tape,E.output,E.size,E.shape,E.keep,fun b g p _ h=>E.rho b g p h,E.frz,E.frzNew,E.own,E.base⟩
theorem Evo2.trans {m:Nat} {c1 c2 c3:Ctx ok} {w1 w2 w3:World} (a:Evo2 m c1 w1 c2 w2) (b:Evo2 m c2 w2 c3 w3):Evo2 m c1 w1 c3 w3 where
 os:=b.os.trans a.os
 tape:=b.tape.trans a.tape
 output:=b.output.trans a.output
 size:=Nat.le_trans a.size b.size
 shape:=fun cb C e fr h=>by
  obtain⟨C',fr',h',e'⟩:=a.shape cb C e fr h
  obtain⟨C'',fr'',h'',e''⟩:=b.shape cb C' e fr' h'
  simp_all
 keep:=fun cb hlt hO=>by
  rw[b.keep cb (Nat.lt_of_lt_of_le hlt a.size) (fun h=>(a.own cb h).elim hO (by omega)),a.keep cb hlt hO]
 rho:=fun b' g p hb h=>b.rho _ _ _ hb (a.rho _ _ _ hb h)
 frz:=fun cb h=>b.frz _ (a.frz _ h)
 frzNew:=fun cb h=>by
  rcases b.frzNew cb h with h|h|h
  ·exact a.frzNew cb h
  ·rcases a.own cb h with h | h
   ·simp_all
   omega
  ·exact .inr (.inr (Nat.le_trans a.size h))
 own:=fun cb h=>by
  rcases b.own cb h with h|h
  ·exact a.own cb h
  ·exact .inr (Nat.le_trans a.size h)
 base:=b.base.trans a.base
def W2 (P:Program) (N:NM) (sc:SCode) (Q:SX->St->Prop) (A:St):Prop:=
 ∀code,okCode P N.n code sc=true->∀(c:Ctx (okc P)) (a:Act) (w:World),SRel N.n c A a w->∀(ro:Option Nat),(sc.rf=true->ro=none)->∀(Q':Exit->Act->World->Prop),
  (∀e B c' a' w',Q e B->SRel N.n c' B a' w'->Evo2 N.m c w c' w'->Q' e.toExit a' w')->code.wpIn (FW ro) 0 P Q' a w
section rules
variable {N:NM} {Q:SX->St->Prop} {A:St}
theorem W2.of_W {sc:SCode} (h:W P N.n sc Q A):W2 P N sc Q A:=
 fun code hok c a w S ro hro R hR=>h code hok c a w S ro hro R fun e B c' a' w' hQ S' E'=>hR e B c' a' w' hQ S' E'.to2
theorem W2.mono {sc:SCode} {Q':SX->St->Prop} (h:W2 P N sc Q A) (hq:∀e B,Q e B->Q' e B):W2 P N sc Q' A:=
 fun code hok c a w S ro hro R hR=>h code hok c a w S ro hro R fun e B c' a' w' hQ S' E'=>hR e B c' a' w' (hq e B hQ) S' E'
theorem W2.skip (h:Q .normal A):W2 P N .skip Q A:= .of_W (.skip h)
theorem W2.ret (h:Q .ret A):W2 P N .ret Q A:= .of_W (.ret h)
theorem W2.exit {i:Nat} (h:Q (.exit i) A):W2 P N (.exit i) Q A:= .of_W (.exit h)
theorem W2.seq {x y:SCode} (h:W2 P N x (fun e B=>match e with| .normal=>W2 P N y Q B|e=>Q e B) A):W2 P N (.seq x y) Q A:=by
 intro code hok c a w S ro hro Q' hQ
 cases code<;>simp only[okCode,Bool.false_eq_true,Bool.and_eq_true]at hok
 rename_i cx cy
 refine wpIn_seq (h cx hok.1 c a w S ro (fun e=>hro (by simp[SCode.rf,e])) _ ?_)
 intro e B c' a' w' hq S' E'
 cases e with
 |normal=>exact hq cy hok.2 c' a' w' S' ro (fun e=>hro (by simp[SCode.rf,e])) Q' fun e2 B2 c2 a2 w2 h2 S2 E2=>hQ e2 B2 c2 a2 w2 h2 S2 (E'.trans E2)
 |exit i=>exact hQ (.exit i) B c' a' w' hq S' E'
 |ret=>exact hQ .ret B c' a' w' hq S' E'
theorem W2.cond {x:Opd} {y z:SCode} {t:Bool} (hx:ev A.T x= .bool t) (h1:t=true->W2 P N y Q A) (h2:t=false->W2 P N z Q A):W2 P N (.cond x y z) Q A:=by
 intro code hok c a w S ro hro Q' hQ
 cases code<;>simp only[okCode,Bool.false_eq_true,Bool.and_eq_true]at hok
 rename_i o cy cz
 have hr:=Qaa S.tmps hok.1.1
 rw[hx]at hr
 simp only[VRel]at hr
 refine wpIn_cond hr ?_
 cases t with
 |true=>exact h1 rfl cy hok.1.2 c a w S ro (fun e=>hro (by simp[SCode.rf,e])) Q' hQ
 |false=>exact h2 rfl cz hok.2 c a w S ro (fun e=>hro (by simp[SCode.rf,e])) Q' hQ
theorem W2.block {i:Nat} {b:SCode} (h:W2 P N b (fun e B=>match e with| .exit j=>if j=i then Q .normal B else Q (.exit j) B|e=>Q e B) A):W2 P N (.block i b) Q A:=by
 intro code hok c a w S ro hro Q' hQ
 cases code<;>simp only[okCode,Bool.false_eq_true,Bool.and_eq_true,beq_iff_eq]at hok
 rename_i j cb
 obtain⟨rfl,hok⟩:=hok
 refine wpIn_block (h cb hok c a w S ro (fun e=>hro (by simp[SCode.rf,e])) _ ?_)
 intro e B c' a' w' hq S' E'
 cases e with
 |normal=>exact hQ .normal B c' a' w' hq S' E'
 |ret=>exact hQ .ret B c' a' w' hq S' E'
 |exit k=>
  simp only at hq
  show(if k=j then Q' .normal a' w' else Q' (.exit k) a' w')
  split
  ·rename_i e;rw[if_pos e]at hq;exact hQ .normal B c' a' w' hq S' E'
  ·rename_i e;rw[if_neg e]at hq;exact hQ (.exit k) B c' a' w' hq S' E'
def WL2 (P:Program) (N:NM) (b:SCode) (Q:SX->St->Prop) (A:St):Prop:=
 ∀cb,okCode P N.n cb b=true->∀(c:Ctx (okc P)) (a:Act) (w:World),SRel N.n c A a w->∀(ro:Option Nat),(b.rf=true->ro=none)->∀(Q':Exit->Act->World->Prop),
  (∀e B c' a' w',Q e B->SRel N.n c' B a' w'->Evo2 N.m c w c' w'->Q' e.toExit a' w')->Lp ro P cb Q' a w
end rules
inductive Src where
 |nil
 |blk (b g:Nat)
def Mapped (m:Nat) (π:Nat->Option Src) (h:Heap) (c:Ctx ok) (k:Nat):Prop:=
 (∃b g base,b<m/\Live h b g/\c.ρ b g=some (.loc k base))\/∃b' b g base,m<=b'/\π b'=some (.blk b g)/\c.ρ b g=some (.loc k base)
def nctx (m:Nat) (π:Nat->Option Src) (h:Heap) (c:Ctx ok):Ctx ok where
 ρ:=fun b' g'=>if b'<m then c.ρ b' g' else if g'=0 then(match π b' with|some .nil=>some .nil|some (.blk b g)=>c.ρ b g|none=>none)else none
 F:=fun k=>c.F k\/(c.O k/\¬Mapped m π h c k)
 O:=fun k=>c.O k/\Mapped m π h c k
 base:=c.base
structure Maps (m:Nat) (π:Nat->Option Src) (h:Heap):Prop where
 live:∀b' b g,m<=b'->π b'=some (.blk b g)->Live h b g/\m<=b
 inj:∀b1 b2 b g g2,m<=b1->m<=b2->π b1=some (.blk b g)->π b2=some (.blk b g2)->b1=b2
def Rn (m:Nat) (π:Nat->Option Src) (h:Heap) (x y:AV):Prop:=∀(ok:Okc) (c:Ctx ok) (w:World) (v:Value),HRel c h w->Maps m π h->VRel c w y v->VRel (nctx m π h c) w x v
def RnL (m:Nat) (π:Nat->Option Src) (h:Heap):List AV->List AV->Prop
 |[],[]=>True
 |x::xs,y::ys=>Rn m π h x y/\RnL m π h xs ys
 |_,_=>False
def RnM (m:Nat) (π:Nat->Option Src) (h:Heap):List (AV×AV)->List (AV×AV)->Prop
 |[],[]=>True
 |x::xs,y::ys=>(Rn m π h x.1 y.1/\Rn m π h x.2 y.2)/\RnM m π h xs ys
 |_,_=>False
section
variable {m:Nat} {π:Nat->Option Src} {h:Heap}
def BRn (m:Nat) (π:Nat->Option Src) (h:Heap):Option Src->Blk->Prop
 |some .nil,.cells _ cs=>cs=[]
 |some (.blk b g),.cells _ cs=>∃ds k,h.get b=some (.cells g ds)/\RnL m π h cs (ds.take k)
 |some (.blk b g),.map _ es=>∃fs,h.get b=some (.map g fs)/\RnM m π h es fs
 |some (.blk b g),.loop _ N T ps asg body st=>∃T0,h.get b=some (.loop g N T0 ps asg body st)/\∀i,Rn m π h (lk T i) (lk T0 i)
 |some (.blk b g),.dead _=>h.get b=some (.dead g)
 |_,_=>False
def RT (m:Nat) (π:Nat->Option Src) (h:Heap) (T' T:Tmps):Prop:=∀i,Rn m π h (lk T' i) (lk T i)
end
theorem Evo2.rebase {m:Nat} {c c':Ctx ok} {w w':World} {n:Nat} (E:Evo2 m (c.rb n) w c' w'):Evo2 m c w (c'.rb (c.base)) w':=
 ⟨E.os,E.tape,E.output,E.size,E.shape,E.keep,E.rho,E.frz,E.frzNew,E.own,rfl⟩
theorem Qdy {m:Nat} {c0:Ctx (okc P)} {w0:World} {fn:Func} {a:Act} {T:Tmps} {h:Heap} {c:Ctx (okc P)} {R:Ending->World->Prop} (hb:w0.heap.size<=c.base)
  (fin:∀w,HRel c h w->TRel c w T a->Evo2 m c0 w0 c w->∃v,(results fn a.tmps).run P w= .ok v w/\R (.returned v) w):
  ∀(ds:List Deferred) (w:World),Marks c w ds->HRel c h w->TRel c w T a->Evo2 m c0 w0 c w->LeavesInM Fence.wide 0 P fn a.tmps R ds .returning w
 |[],w,_,H,ht,E=>fin w H ht E
 | d :: ds, w, ⟨⟨D, h1, h2, h3, h4, h5, h6⟩, hr⟩, H, ht, E => by
  obtain⟨H',X⟩:=H.mark (o:= .deferred none) h3 h4 h5
  have other:∀k,k≠D->(w.putObj D (.deferred none)).heap[k]?=w.heap[k]?:=fun k hk=>World.putObj_heap_other hk
  refine⟨by simp,.inl ⟨D,w.putObj D (.deferred none),by rw[h1],run_takeDeferred h5,?_⟩⟩
  refine Qdy hb fin ds _ ?_ H' (fun i=>VRel.mono X _ _ (ht i)) ?_
  ·clear fin
   induction ds with
   |nil=>show c.base<=_;rw[World.putObj_size];exact hr
   |cons d2 ds ih=>
    obtain⟨⟨D2,k1,k2,k3,k4,k5,k6⟩,kr⟩:=hr
    refine⟨⟨D2,k1,k2,k3,k4,?_,k6⟩,ih (fun d' hd'=>h6 d' (List.mem_cons_of_mem _ hd')) kr⟩
    rw[other D2 (fun e=>?_)]
    ·exact k5
    ·simp_all
  ·refine ⟨E.os, E.tape, E.output, by grind [World.putObj_size], fun cb C e fr hc => ?_, fun cb hlt hO => ?_, E.rho, E.frz, E.frzNew, E.own, E.base⟩
   ·obtain ⟨C', fr', g1, g2⟩ := E.shape cb C e fr hc
    grind
   ·rw[other cb (by omega)];exact E.keep cb hlt hO
theorem QgX {f m:Nat} {sf:SFn} {args:List AV} {h:Heap} {R:List AV->Heap->Prop} (hok:okFn P f sf=true) (hl:args.length<=sf.n)
  (hw:W2 P ⟨sf.n,m⟩ sf.body (fun e B=>(e= .normal\/e= .ret)/\∃vs,resV B.T B.h sf.res=some vs/\R vs B.h) ⟨argT 0 args,h⟩)
  {c:Ctx (okc P)} {w:World} {cargs:Array Value} (H:HRel c h w) (ha:VRels c w args cargs.toList):
  Calls P f cargs w fun e w'=>∃cv c' vs h',e= .returned cv/\Evo2 m c w c' w'/\HRel c' h' w'/\VRel c' w' (resOf vs) cv/\R vs h':=by
 obtain⟨fn,code,hf,hb,hc,hn,hr,_⟩:=QbP hok
 have hlen:=Qab ha
 have hlen:args.length=cargs.size:=by omega
 refine(callsIn_wide (n:=0)).1 (callsIn_of_wp_marks hf hb trivial ?_)
 refine hw code hc (c.rb (w.heap.size)) _ w ⟨H.rebase _,?_,?_,Nat.le_refl _⟩ none (fun _=>rfl) _ ?_
 ·intro i
  refine VRel.rebase _ ?_
  by_cases hi:i<args.length
  ·have := Qdd args cargs.toList 0 [] i ha rfl
   simp only[List.nil_append]at this
   have e:(cargs++Array.replicate (fn.ntmps-cargs.size) undef).getD i undef=cargs.toList.getD i undef:=by
    simp_all [Array.getElem?_append_left]
   simp_all
  simp_all [Qde,VRel]
 ·simp;omega
 ·intro e B c' a' w' hq S' E'
  obtain⟨he,vs,hvs,hR⟩:=hq
  have out:LeavesInM Fence.wide 0 P fn a'.tmps (fun e w'=>∃cv c' vs h',e= .returned cv/\Evo2 m c w c' w'/\HRel c' h' w'/\VRel c' w' (resOf vs) cv/\R vs h') a'.defers .returning w':=by
   refine Qdy (m:=m) (c0:=(c.rb (w.heap.size))) (w0:=w) (T:=B.T) (h:=B.h) (c:=c') (by rw[E'.base];simp_all) ?_ a'.defers w' S'.defers S'.heap S'.tmps E'
   intro w2 H2 ht2 E2
   obtain⟨cv,k1,k2⟩:=Qcg H2 ht2 hr hvs
   exact⟨cv,k1,cv,(c'.rb (c.base)),vs,B.h,rfl,E2.rebase,H2.rebase _,k2.rebase _,hR⟩
  rcases he with rfl|rfl
  ·exact out
  ·exact out
end Go.AM
namespace Go.AM
variable {P:Program}
def wpR (P:Program):Nat->List SOper->Tmps->Heap->(Tmps->Heap->Nat->Prop)->Prop
 |n,[],T,h,K=>K T h n
 |n,s::r,T,h,K=>∃v h1 f,StepV P n s T h v h1 f/\wpR P (n+1) r (putD T s.dst v) h1 K
theorem wpR.toWR:∀{r:List SOper} {n i:Nat} {T:Tmps} {h:Heap} {K:Tmps->Heap->Nat->Prop},wpR P (n+i) r T h K->WR P n i r T h fun T h=>K T h (n+i+r.length)
 |[],n,i,T,h,K,hk=>hk
 |s::r,n,i,T,h,K,⟨v,h1,f,hs,hr⟩=>by
  refine⟨f,v,h1,hs,?_⟩
  have:=wpR.toWR (i:=i+1) hr
  grind
def wpRF (P:Program):Nat->List SOper->Tmps->Heap->(List FP->Tmps->Heap->Nat->Prop)->Prop
 |n,[],T,h,K=>K [] T h n
 |n,s::r,T,h,K=>∃v h1 f,StepV P n s T h v h1 f/\wpRF P (n+1) r (putD T s.dst v) h1 fun fs T h n=>K (f::fs) T h n
theorem wpRF.toF:∀{r:List SOper} {n i:Nat} {T:Tmps} {h:Heap} {K:List FP->Tmps->Heap->Nat->Prop},wpRF P (n+i) r T h K->
  ∃fs T' h',RunF P n i r fs ⟨T,h⟩ ⟨T',h'⟩/\K fs T' h' (n+i+r.length)
 |[],n,i,T,h,K,hk=>⟨[],T,h,⟨rfl,rfl⟩,hk⟩
 |s::r,n,i,T,h,K,⟨v,h1,f,hs,hr⟩=>by
  obtain⟨fs,T',h',h2,hk⟩:=wpRF.toF (i:=i+1) hr
  refine⟨f::fs,T',h',⟨f,fs,v,h1,rfl,hs,h2⟩,?_⟩
  grind
abbrev QC:=SX->Tmps->Heap->Nat->Prop
def wpC (P:Program) (N:NM):SCode->Nat->Tmps->Heap->QC->Prop
 | .skip,n,T,h,Q=>Q .normal T h n
 | .ret,n,T,h,Q=>Q .ret T h n
 | .exit i,n,T,h,Q=>Q (.exit i) T h n
 | .bad,_,_,_,_=>False
 | .mloop pre x it nx ok en b1 b2 rest body,n,T,h,Q=>W2 P N (.mloop pre x it nx ok en b1 b2 rest body) (fun e B=>∃n,Q e B.T B.h n) ⟨T,h⟩
 | .rfunc g ps M asg body,n,T,h,Q=>W2 P N (.rfunc g ps M asg body) (fun e B=>∃n,Q e B.T B.h n) ⟨T,h⟩
 | .region ops [] dead,n,T,h,Q=>wpR P n ops T h fun T h n=>Q .normal (rm T dead) h n
 | .region ops (p::ps) dead,n,T,h,Q=>wpRF P n ops T h fun fs T h n=>((p::ps).all fun p=>(fs.getD p.1 ⟨false,[],[]⟩).apart (fs.getD p.2 ⟨false,[],[]⟩))=true/\Q .normal (rm T dead) h n
 | .seq a b,n,T,h,Q=>wpC P N a n T h fun e T h n=>match e with
  | .normal=>wpC P N b n T h Q
  |e=>Q e T h n
 | .cond x a b,n,T,h,Q=>∃t,ev T x= .bool t/\if t=true then wpC P N a n T h Q else wpC P N b n T h Q
 | .block i b,n,T,h,Q=>wpC P N b n T h fun e T h n=>match e with
  | .exit j=>if j=i then Q .normal T h n else Q (.exit j) T h n
  |e=>Q e T h n
 | .loop b,n,T,h,Q=>W2 P N (.loop b) (fun e B=>∃n,Q e B.T B.h n) ⟨T,h⟩
theorem wpC.toW {N:NM}:∀{c:SCode} {n:Nat} {T:Tmps} {h:Heap} {Q:QC},wpC P N c n T h Q->W2 P N c (fun e B=>∃n,Q e B.T B.h n) ⟨T,h⟩
 | .skip,n,T,h,Q,hk=>W2.skip ⟨n,hk⟩
 | .ret,n,T,h,Q,hk=>W2.ret ⟨n,hk⟩
 | .exit i,n,T,h,Q,hk=>W2.exit ⟨n,hk⟩
 | .bad,_,_,_,_,hk=>hk.elim
 | .mloop ..,n,T,h,Q,hk=>hk
 | .rfunc ..,n,T,h,Q,hk=>hk
 | .region ops [] dead,n,T,h,Q,hk=>by
  have:=wpR.toWR (i:=0) hk
  exact W2.of_W<|W.regionR n (this|>fun h=>by simpa using(show _ from(wr_mono h)))
 | .region ops (p::ps) dead,n,T,h,Q,hk=>by
  obtain⟨fs,T',h',h1,h2,h3⟩:=wpRF.toF (i:=0) hk
  exact W2.of_W<|W.regionF n fs h1 h2 ⟨_,h3⟩
 | .seq a b,n,T,h,Q,hk=>by
  simp only[wpC]at hk
  refine W2.seq ((wpC.toW (c:=a) hk).mono ?_)
  rintro e B ⟨n',hq⟩
  cases e with
  |normal=>exact wpC.toW hq
  |exit i=>exact⟨n',hq⟩
  |ret=>exact⟨n',hq⟩
 | .cond x a b,n,T,h,Q,⟨t,hx,hk⟩=>by
  refine W2.cond hx ?_ ?_
  ·intro e;rw[if_pos e]at hk;exact wpC.toW hk
  ·intro e;rw[if_neg (by simp[e])]at hk;exact wpC.toW hk
 | .block i b, n, T, h, Q, hk => by
  simp only[wpC]at hk
  refine W2.block ((wpC.toW (c:=b) hk).mono ?_)
  rintro e B ⟨n',hq⟩
  cases e with
  |normal=>exact⟨n',hq⟩
  |ret=>exact⟨n',hq⟩
  |exit j=>
   simp only at hq⊢
   split
   ·rename_i e;rw[if_pos e]at hq;exact⟨n',hq⟩
   ·rename_i e;rw[if_neg e]at hq;exact⟨n',hq⟩
 | .loop b,n,T,h,Q,hk=>hk
where
 wr_mono {ops:List SOper} {n:Nat} {T:Tmps} {h:Heap} {dead:List Nat} {Q:QC} {m:Nat} (hk:WR P n 0 ops T h fun T h=>Q .normal (rm T dead) h m):WR P n 0 ops T h fun T h=>∃n,Q .normal (rm T dead) h n:=by
  have:∀{r:List SOper} {i:Nat} {T:Tmps} {h:Heap} {K K':Tmps->Heap->Prop},WR P n i r T h K->(∀T h,K T h->K' T h)->WR P n i r T h K':=by
   intro r
   induction r with
   |nil=>intro i T h K K' hk hK;exact hK _ _ hk
   |cons s r ih=>
    intro i T h K K' ⟨f,v,h1,hs,hr⟩ hK
    exact⟨f,v,h1,hs,ih hr hK⟩
  exact this hk fun T h hq=>⟨m,hq⟩
end Go.AM
namespace Go.AM
variable {P:Program}
inductive Fr where
 |sq (b:SCode)
 |blk (i:Nat)
def ct (P:Program) (N:NM):List Fr->QC->QC
 |[],Q=>Q
 | .sq b::fs,Q=>fun e T h n=>match e with
  | .normal=>wpC P N b n T h (ct P N fs Q)
  |e=>ct P N fs Q e T h n
 | .blk i::fs,Q=>fun e T h n=>match e with
  | .exit j=>if j=i then ct P N fs Q .normal T h n else ct P N fs Q (.exit j) T h n
  |e=>ct P N fs Q e T h n
def wS (P:Program) (N:NM) (c:SCode) (fs:List Fr) (n:Nat) (T:Tmps) (h:Heap) (Q:QC):Prop:=wpC P N c n T h (ct P N fs Q)
def wR (P:Program) (N:NM) (ops:List SOper) (dead:List Nat) (fs:List Fr) (n:Nat) (T:Tmps) (h:Heap) (Q:QC):Prop:=wpR P n ops T h fun T h n=>ct P N fs Q .normal (rm T dead) h n
def wX (P:Program) (N:NM) (e:SX) (fs:List Fr) (n:Nat) (T:Tmps) (h:Heap) (Q:QC):Prop:=ct P N fs Q e T h n
def wO (P:Program) (N:NM) (o:Option AV) (d:Option Nat) (ops:List SOper) (dead:List Nat) (fs:List Fr) (n:Nat) (T:Tmps) (h:Heap) (Q:QC):Prop:=
 ∃v,o=some v/\wR P N ops dead fs (n+1) (putD T d v) h Q
def wM (P:Program) (N:NM) (m:HM AV) (d:Option Nat) (ops:List SOper) (dead:List Nat) (fs:List Fr) (n:Nat) (T:Tmps) (h:Heap) (Q:QC):Prop:=
 ∃v h1,m.run h=some (v,h1)/\wR P N ops dead fs (n+1) (putD T d v) h1 Q
def wG (P:Program) (N:NM) (o:Option Bool) (d:Option Nat) (op:SOp) (ops:List SOper) (dead:List Nat) (fs:List Fr) (n:Nat) (T:Tmps) (h:Heap) (Q:QC):Prop:=
 match o with
 |some true=>wR P N (⟨d,op,[],none⟩::ops) dead fs n T h Q
 |some false=>wR P N ops dead fs (n+1) (putD T d (.tup [])) h Q
 |none=>False
def wC (P:Program) (N:NM) (x:AV) (a b:SCode) (fs:List Fr) (n:Nat) (T:Tmps) (h:Heap) (Q:QC):Prop:=
 ∃t,x= .bool t/\if t=true then wS P N a fs n T h Q else wS P N b fs n T h Q
def wCall (P:Program) (N:NM) (m:CallM) (x:AV) (args:List AV) (d:Option Nat) (ops:List SOper) (dead:List Nat) (fs:List Fr) (n:Nat) (T:Tmps) (h:Heap) (Q:QC):Prop:=
 match x with
 | .fn f a c=>match m with
  | .pure=>∃v,PSpec P f (a++args++c) v/\wR P N ops dead fs (n+1) (putD T d v) h Q
  | .heap=>∃v h1,HSpec P f (a++args++c) h v h1/\wR P N ops dead fs (n+1) (putD T d v) h1 Q
  | .borrow=>∃asg h1 v,(mapH (frzH 4) (a++args++c)).run h=some (asg,h1)/\PSpec P f asg v/\flatV v=true/\wR P N ops dead fs (n+1) (putD T d v) h1 Q
 | .yld b g=>match m with
  | .heap=>∃v h1,RSpec P b g args h v h1/\wR P N ops dead fs (n+1) (putD T d v) h1 Q
  |_=>False
 |_=>False
section
variable {N:NM} {n:Nat} {T:Tmps} {h:Heap} {Q:QC} {fs:List Fr}
theorem Qgd:wS P N .skip fs n T h Q=wX P N .normal fs n T h Q:=rfl
theorem Qhn:wS P N .ret fs n T h Q=wX P N .ret fs n T h Q:=rfl
theorem Qge {i:Nat}:wS P N (.exit i) fs n T h Q=wX P N (.exit i) fs n T h Q:=rfl
theorem Qee {ops:List SOper} {dead:List Nat}:wS P N (.region ops [] dead) fs n T h Q=wR P N ops dead fs n T h Q:=rfl
theorem Qho {a b:SCode}:wS P N (.seq a b) fs n T h Q=wS P N a (.sq b::fs) n T h Q:=rfl
theorem Qgf {x:Opd} {a b:SCode}:wS P N (.cond x a b) fs n T h Q=wC P N (ev T x) a b fs n T h Q:=rfl
theorem Qfb {i:Nat} {b:SCode}:wS P N (.block i b) fs n T h Q=wS P N b (.blk i::fs) n T h Q:=rfl
theorem Qgg {a b:SCode}:wC P N (.bool true) a b fs n T h Q=wS P N a fs n T h Q:=by simp[wC]
theorem Qfc {a b:SCode}:wC P N (.bool false) a b fs n T h Q=wS P N b fs n T h Q:=by simp[wC]
theorem Qgh {t:Bool} {a b:SCode}:wC P N (.bool t) a b fs n T h Q=if t=true then wS P N a fs n T h Q else wS P N b fs n T h Q:=by simp_all [wC]
theorem Qhp {e:SX}:wX P N e [] n T h Q=Q e T h n:=rfl
theorem wX_sq {b:SCode}:wX P N .normal (.sq b::fs) n T h Q=wS P N b fs n T h Q:=rfl
theorem Qef {b:SCode}:wX P N .ret (.sq b::fs) n T h Q=wX P N .ret fs n T h Q:=rfl
theorem Qdz {b:SCode} {i:Nat}:wX P N (.exit i) (.sq b::fs) n T h Q=wX P N (.exit i) fs n T h Q:=rfl
theorem Qhq {i:Nat}:wX P N .normal (.blk i::fs) n T h Q=wX P N .normal fs n T h Q:=rfl
theorem QdA {i:Nat}:wX P N .ret (.blk i::fs) n T h Q=wX P N .ret fs n T h Q:=rfl
theorem QcR {i j:Nat}:wX P N (.exit j) (.blk i::fs) n T h Q=if j=i then wX P N .normal fs n T h Q else wX P N (.exit j) fs n T h Q:=rfl
end
theorem ev_t (T:Tmps) (i:Nat):ev T (.t i)=lk T i:=rfl
theorem ev_c (T:Tmps) (v:AV):ev T (.c v)=v:=rfl
theorem ev_f (T:Tmps) (n:Nat):ev T (.f n)= .fn n [] []:=rfl
theorem Qhr (i:Nat):lk [] i= .any:=rfl
theorem Qa4 (j:Nat) (v:AV) (r:Tmps) (i:Nat):lk ((j,v)::r) i=if j=i then v else lk r i:=by
 simp_all [lk]
theorem QdU (j:Nat) (u:AV) (r:Tmps) (i:Nat) (v:AV):up ((j,u)::r) i v=if j=i then(j,v)::r else(j,u)::up r i v:=by
 simp_all [up]
theorem Qhs (i:Nat) (v:AV):up [] i v=[(i,v)]:=rfl
theorem Qht (l:List Nat):rm [] l=[]:=rfl
theorem rm_no (T:Tmps):rm T []=T:=by
 induction T with
 |nil=>rfl
 |cons p T ih=>obtain⟨j,u⟩:=p;simp[rm,ih]
theorem Qgi (j:Nat) (u:AV) (r:Tmps) (l:List Nat):rm ((j,u)::r) l=if l.elem j=true then rm r l else(j,u)::rm r l:=by
 simp_all [rm]
theorem Qeg (T:Tmps) (d:Nat) (v:AV):putD T (some d) v=up T d v:=rfl
theorem Qeh (T:Tmps) (v:AV):putD T none v=T:=rfl
theorem Qfd (k:Nat):argT k []=[]:=rfl
theorem Qei (k:Nat) (x:AV) (xs:List AV):argT k (x::xs)=(k,x)::argT (k+1) xs:=rfl
theorem Qgj (T:Tmps):evs T []=[]:=rfl
theorem Qfe (T:Tmps) (x:Opd) (r:List Opd):evs T (x::r)=ev T x::evs T r:=rfl
theorem Qff (T:Tmps):evo T none=none:=rfl
theorem Qfg (T:Tmps) (x:Opd):evo T (some x)=some (ev T x):=rfl
theorem QcS (T:Tmps):evParts T []=[]:=rfl
theorem Qcw (T:Tmps) (a b:Nat) (x:Opd) (r:List (Nat×Nat×Opd)):evParts T ((a,b,x)::r)=(a,b,ev T x)::evParts T r:=rfl
section
variable {N:NM} {n:Nat} {d:Option Nat} {af dead:List Nat} {r:List SOper} {T:Tmps} {h:Heap} {Q:QC} {fs:List Fr}
theorem Qhu:wR P N [] dead fs n T h Q=wX P N .normal fs n (rm T dead) h Q:=rfl
theorem Qfh {op:SOp} {g:Nat} {w:Bool}:wR P N (⟨d,op,af,some (g,w)⟩::r) dead fs n T h Q=wG P N (wantedA (lk T g) w) d op r dead fs n T h Q:=by
 apply propext
 unfold wG
 constructor
 ·rintro ⟨v, h1, f, ⟨b, hw, hb⟩, hk⟩
  rw[hw]
  cases b with
  |true=>rw[if_pos rfl]at hb;exact⟨v,h1,f,hb,hk⟩
  |false=>
   rw[if_neg (by simp)]at hb
   obtain⟨rfl,rfl,rfl⟩:=hb
   exact hk
 ·intro hk
  cases hw:wantedA (lk T g) w with
  |none=>rw[hw]at hk;exact hk.elim
  | some b =>
   rw[hw]at hk
   cases b with
   |true=>
    obtain⟨v,h1,f,hs,hk⟩:=hk
    exact⟨v,h1,f,⟨true,hw,by rw[if_pos rfl];exact hs⟩,hk⟩
   |false=>exact⟨.tup [],h,⟨false,[],[]⟩,⟨false,hw,by simp⟩,hk⟩
theorem Qgk {b w:Bool} {op:SOp}:wG P N (wantedA (.bool b) w) d op r dead fs n T h Q=if b=w then wR P N (⟨d,op,[],none⟩::r) dead fs n T h Q else wR P N r dead fs (n+1) (putD T d (.tup [])) h Q:=by
 grind [wG,wantedA]
theorem Qgl {w:Bool} {op:SOp}:wG P N (wantedA (.tup []) w) d op r dead fs n T h Q=wR P N r dead fs (n+1) (putD T d (.tup [])) h Q:=by simp[wG,wantedA]
theorem Qar {op:SOp} {o:Option AV} (e:aop n T op=lift o):wR P N (⟨d,op,af,none⟩::r) dead fs n T h Q=wO P N o d r dead fs n T h Q:=by
 apply propext
 constructor
 ·rintro ⟨v, h1, f, ⟨out, h2, hm, ho⟩, hk⟩
  rw[e]at hm
  obtain⟨u,hu,he⟩:=Qah hm
  cases he
  obtain⟨rfl,rfl,_⟩:=ho
  exact⟨_,hu,hk⟩
 ·rintro ⟨v, hv, hk⟩
  refine⟨v,h,_,⟨.val v,h,?_,rfl,rfl,rfl⟩,hk⟩
  rw[e,hv];rfl
theorem run_hval' {v:AV} {h1:Heap}:∀(m:HM AV) (h:Heap),m.run h=some (v,h1)->(hval m).run h=some (.val v,h1):=by
 intro m
 induction m with
 |ret a=>intro h hm;simp only[HM.run,Option.some.injEq,Prod.mk.injEq]at hm;obtain⟨rfl,rfl⟩:=hm;rfl
 |fail=>intro h hm;simp[HM.run]at hm
 |look b k ih=>intro h hm;exact ih _ h hm
 |put b x k ih=>
  intro h hm
  obtain⟨hl,hm⟩:=Qak hm
  have:=ih _ hm
  simp only[hval,HM.bind,HM.run]
  have hl':Nat.blt b lim=true:=by simp_all
  rw[hl'];exact this
theorem QaE {op:SOp} {m:HM AV} (e:aop n T op=hval m):wR P N (⟨d,op,af,none⟩::r) dead fs n T h Q=wM P N m d r dead fs n T h Q:=by
 apply propext
 constructor
 ·rintro ⟨v, h1, f, ⟨out, h2, hm, ho⟩, hk⟩
  rw[e]at hm
  obtain⟨u,h3,hu,he⟩:=Qaf hm
  cases he
  obtain⟨rfl,rfl,_⟩:=ho
  exact⟨_,_,hu,hk⟩
 ·rintro ⟨v, h1, hv, hk⟩
  exact⟨v,h1,_,⟨.val v,h1,by grind [run_hval'],rfl,rfl,rfl⟩,hk⟩
theorem Qhv {x:Opd}:wR P N (⟨d,.mov x,af,none⟩::r) dead fs n T h Q=wR P N r dead fs (n+1) (putD T d (ev T x)) h Q:=by
 rw[Qar (o:=some (ev T x)) rfl];simp[wO]
theorem Qgm {f:Nat} {xs ys:List Opd}:wR P N (⟨d,.mkfn f xs ys,af,none⟩::r) dead fs n T h Q=wR P N r dead fs (n+1) (putD T d (.fn f (evs T xs) (evs T ys))) h Q:=by
 rw[Qar (o:=some (.fn f (evs T xs) (evs T ys))) rfl];simp[wO]
theorem Qgn {c a b:Opd}:wR P N (⟨d,.pick c a b,af,none⟩::r) dead fs n T h Q=wO P N (aPick (ev T c) (ev T a) (ev T b)) d r dead fs n T h Q:=Qar rfl
theorem Qfi {z:List AV} {ps:List (Nat×Nat×Opd)}:wR P N (⟨d,.build z ps,af,none⟩::r) dead fs n T h Q=wO P N (aBuild z (evParts T ps)) d r dead fs n T h Q:=Qar rfl
theorem Qej {x:Opd}:wR P N (⟨d,.nilchk x,af,none⟩::r) dead fs n T h Q=wO P N (aNil (ev T x)) d r dead fs n T h Q:=Qar rfl
theorem Qhw {op:BinOp} {x y:Opd}:wR P N (⟨d,.bin op x y,af,none⟩::r) dead fs n T h Q=wO P N (aBin op (ev T x) (ev T y)) d r dead fs n T h Q:=Qar rfl
theorem wR_eq {k:EqK} {neg:Bool} {x y:Opd}:wR P N (⟨d,.eq k neg x y,af,none⟩::r) dead fs n T h Q=wO P N (aEq k neg (ev T x) (ev T y)) d r dead fs n T h Q:=Qar rfl
theorem wR_un {op:UnOp} {x:Opd}:wR P N (⟨d,.un op x,af,none⟩::r) dead fs n T h Q=wO P N (aUn op (ev T x)) d r dead fs n T h Q:=Qar rfl
theorem Qgo {k:IntKind} {x:Opd}:wR P N (⟨d,.conv k x,af,none⟩::r) dead fs n T h Q=wO P N (aConv k (ev T x)) d r dead fs n T h Q:=Qar rfl
theorem Qfj {x:Opd}:wR P N (⟨d,.convS x,af,none⟩::r) dead fs n T h Q=wO P N (aConvS (ev T x)) d r dead fs n T h Q:=Qar rfl
theorem Qfk {sz:Option Nat} {x:Opd} {l hh m:Option Opd}:wR P N (⟨d,.slice sz x l hh m,af,none⟩::r) dead fs n T h Q=wO P N (aSliceC sz (ev T x) (evo T l) (evo T hh) (evo T m)) d r dead fs n T h Q:=Qar rfl
theorem Qfl {o:Nat} {x:Opd}:wR P N (⟨d,.faddr o x,af,none⟩::r) dead fs n T h Q=wO P N (aFAddr o (ev T x)) d r dead fs n T h Q:=Qar rfl
theorem Qfm {k:Option Nat} {o:Nat} {x:Opd}:wR P N (⟨d,.field k o x,af,none⟩::r) dead fs n T h Q=wO P N (aField k o (ev T x)) d r dead fs n T h Q:=Qar rfl
theorem Qfn {a:Option Nat} {sz:Nat} {x j:Opd}:wR P N (⟨d,.iaddr a sz x j,af,none⟩::r) dead fs n T h Q=wO P N (aIAddr a sz (ev T x) (ev T j)) d r dead fs n T h Q:=Qar rfl
theorem Qfo {a:Option (Nat×Nat×Bool)} {x j:Opd}:wR P N (⟨d,.index a x j,af,none⟩::r) dead fs n T h Q=wO P N (aIndex a (ev T x) (ev T j)) d r dead fs n T h Q:=Qar rfl
theorem QdB {j:Nat} {x:Opd}:wR P N (⟨d,.extract j x,af,none⟩::r) dead fs n T h Q=wO P N (aExtract j (ev T x)) d r dead fs n T h Q:=Qar rfl
theorem Qek {mn:Bool} {xs:List Opd}:wR P N (⟨d,.maxmin mn xs,af,none⟩::r) dead fs n T h Q=wO P N (aMax mn (evs T xs)) d r dead fs n T h Q:=Qar rfl
theorem Qfp {s:Site} {z:AV}:wR P N (⟨d,.alloc s z,af,none⟩::r) dead fs n T h Q=wM P N (aBox s n z) d r dead fs n T h Q:=QaE rfl
theorem Qhx {s:Site} {x:Opd}:wR P N (⟨d,.box s x,af,none⟩::r) dead fs n T h Q=wM P N (aBox s n (ev T x)) d r dead fs n T h Q:=QaE rfl
theorem Qel {fz:Bool} {s:Site} {sz len:Nat} {z:List AV} {ps:List (Nat×Nat×Opd)}:wR P N (⟨d,.bslice fz s sz len z ps,af,none⟩::r) dead fs n T h Q=wM P N (aBuildSlice fz s n sz len z (evParts T ps)) d r dead fs n T h Q:=QaE rfl
theorem Qgp {k:Option Nat} {x:Opd}:wR P N (⟨d,.load k x,af,none⟩::r) dead fs n T h Q=wM P N (aLoad k (ev T x)) d r dead fs n T h Q:=QaE rfl
theorem Qfq {k:Nat} {x v:Opd}:wR P N (⟨d,.store k x v,af,none⟩::r) dead fs n T h Q=wM P N (aStore k (ev T x) (ev T v)) d r dead fs n T h Q:=QaE rfl
theorem Qfr {s:Site}:wR P N (⟨d,.mkmap s,af,none⟩::r) dead fs n T h Q=wM P N (aMakeMap s n) d r dead fs n T h Q:=QaE rfl
theorem QdC {s:Site} {sz b:Nat} {z:List AV} {l c:Opd}:wR P N (⟨d,.mkslice s sz b z l c,af,none⟩::r) dead fs n T h Q=wM P N (aMakeSlice s n sz b z (ev T l) (ev T c)) d r dead fs n T h Q:=QaE rfl
theorem Qem {row:Bool} {ks:List LK} {z:AV} {ok:Bool} {x k:Opd}:wR P N (⟨d,.lookup row ks z ok x k,af,none⟩::r) dead fs n T h Q=wM P N (aLookup row ks z ok (ev T x) (ev T k)) d r dead fs n T h Q:=QaE rfl
theorem Qgq {row:Bool} {ks:List LK} {x k v:Opd}:wR P N (⟨d,.mupd row ks x k v,af,none⟩::r) dead fs n T h Q=wM P N (aMapUpd row ks (ev T x) (ev T k) (ev T v)) d r dead fs n T h Q:=QaE rfl
theorem Qhy {k:Nat} {x:Opd}:wR P N (⟨d,.len k x,af,none⟩::r) dead fs n T h Q=wM P N (aLenC k (ev T x)) d r dead fs n T h Q:=QaE rfl
theorem Qen {s:Site} {sz b:Nat} {x y:Opd}:wR P N (⟨d,.append s sz b x y,af,none⟩::r) dead fs n T h Q=wM P N (aAppend s n sz b (ev T x) (ev T y)) d r dead fs n T h Q:=QaE rfl
theorem Qgr {sz:Nat} {x y:Opd}:wR P N (⟨d,.copy sz x y,af,none⟩::r) dead fs n T h Q=wM P N (aCopy sz (ev T x) (ev T y)) d r dead fs n T h Q:=QaE rfl
theorem Qgs {m:CallM} {x:Opd} {args:List Opd}:wR P N (⟨d,.call m x args,af,none⟩::r) dead fs n T h Q=wCall P N m (ev T x) (evs T args) d r dead fs n T h Q:=by
 apply propext
 have e:aop n T (.call m x args)=aCall m (ev T x) (evs T args):=rfl
 constructor
 ·rintro ⟨v, h1, f, ⟨out, h2, hm, ho⟩, hk⟩
  rw[e]at hm
  unfold aCall at hm
  unfold wCall
  cases hx:ev T x<;>rw[hx]at hm<;>first|(simp[HM.run]at hm;done)|skip
  rotate_left
  ·cases m <;> simp only [HM.run, Option.some.injEq, Prod.mk.injEq, reduceCtorEq] at hm
   obtain⟨rfl,rfl⟩:=hm
   exact⟨_,_,ho.1,hk⟩
  simp only at hm
  rename_i g a c
  cases m
  ·simp only [HM.run, Option.some.injEq, Prod.mk.injEq] at hm
   obtain⟨rfl,rfl⟩:=hm
   rcases ho with⟨ho,_⟩|⟨b,y,xs,hg,hb,rfl,_⟩|ho|ho
   ·exact⟨_,_,ho,hk⟩
   ·exact⟨_,_,hg.heap hb,hk⟩
   ·exact⟨_,_,ho.heap,hk⟩
   ·exact⟨_,_,ho.heap,hk⟩
  ·simp only [HM.run, Option.some.injEq, Prod.mk.injEq] at hm
   obtain⟨rfl,rfl⟩:=hm
   obtain⟨hp,rfl,_⟩:=ho
   exact⟨_,hp,hk⟩
  ·obtain ⟨asg, h3, k1, k2⟩ := run_bind hm
   simp only[HM.run,Option.some.injEq,Prod.mk.injEq]at k2
   obtain⟨rfl,rfl⟩:=k2
   obtain⟨hp,hf,rfl,_⟩:=ho
   exact⟨_,_,_,k1,hp,hf,hk⟩
 ·intro hk
  unfold wCall at hk
  cases hx:ev T x<;>rw[hx]at hk<;>first|exact hk.elim|skip
  rotate_left
  ·rename_i b g
   cases m
   ·obtain ⟨v, h1, hs, hk⟩ := hk
    exact⟨v,h1,_,⟨.round b g (evs T args),h,by rw[e,hx];rfl,hs,rfl⟩,hk⟩
   ·exact hk.elim
   simp_all
  rename_i g a c
  cases m
  ·obtain ⟨v, h1, hs, hk⟩ := hk
   exact⟨v,h1,_,⟨.call .heap g (a++evs T args++c),h,by rw[e,hx];rfl,.inl ⟨hs,rfl⟩⟩,hk⟩
  ·obtain ⟨v, hs, hk⟩ := hk
   exact⟨v,h,_,⟨.call .pure g (a++evs T args++c),h,by rw[e,hx];rfl,hs,rfl,rfl⟩,hk⟩
  ·obtain ⟨asg, h1, v, hm, hs, hf, hk⟩ := hk
   refine⟨v,h1,_,⟨.call .borrow g asg,h1,?_,hs,hf,rfl,rfl⟩,hk⟩
   rw[e,hx]
   have:∀(m:HM (List AV)) (h:Heap) (k:List AV->AOut),m.run h=some (asg,h1)->(m.bind fun asg=> .ret (k asg)).run h=some (k asg,h1):=by
    intro m
    induction m with
    |ret a=>intro h k hm;simp only[HM.run,Option.some.injEq,Prod.mk.injEq]at hm;obtain⟨rfl,rfl⟩:=hm;rfl
    |fail=>intro h k hm;simp[HM.run]at hm
    |look b k' ih=>intro h k hm;exact ih _ h k hm
    |put b x k' ih=>
     intro h k hm
     obtain⟨hl,hm⟩:=Qak hm
     have:=ih _ k hm
     simp only[HM.bind,HM.run]
     have hl':Nat.blt b lim=true:=by simp_all
     rw[hl'];exact this
   exact this _ h (fun asg=> .call .borrow g asg) hm
theorem Qbx {v:AV}:wO P N (some v) d r dead fs n T h Q=wR P N r dead fs (n+1) (putD T d v) h Q:=by simp[wO]
theorem Qgt:wO P N none d r dead fs n T h Q=False:=by simp[wO]
theorem Qfs {c:Prop} [Decidable c] {a b:Option AV} (hc:c):wO P N (if c then a else b) d r dead fs n T h Q=wO P N a d r dead fs n T h Q:=by rw[if_pos hc]
theorem Qhz {c:Prop} [Decidable c] {a b:Option AV} (hc:¬c):wO P N (if c then a else b) d r dead fs n T h Q=wO P N b d r dead fs n T h Q:=by rw[if_neg hc]
theorem Qiv {c:Prop} [Decidable c] {a:Option AV}:wO P N (if c then a else none) d r dead fs n T h Q=(c/\wO P N a d r dead fs n T h Q):=by grind [Qgt]
theorem cp {f:Nat} {args:List AV} {v:AV} (hp:PSpec P f args v) (k:wR P N r dead fs (n+1) (putD T d v) h Q):wCall P N .pure (.fn f [] []) args d r dead fs n T h Q:=⟨v,by simpa using hp,k⟩
theorem ch {f:Nat} {args:List AV} {v:AV} {h1:Heap} (hp:HSpec P f args h v h1) (k:wR P N r dead fs (n+1) (putD T d v) h1 Q):wCall P N .heap (.fn f [] []) args d r dead fs n T h Q:=⟨v,h1,by simpa using hp,k⟩
def ldB (o:Option Blk) (g off:Nat) (m:Option Nat):Option AV:=
 match o with
 |some (.cells g' cs)=>if g'=g then(match m with|none=>cs[off]?|some m=>if off+m<=cs.length then some (.agg ((cs.drop off).take m))else none)else none
 |_=>none
def stB (o:Option Blk) (g off m:Nat) (v:AV):Option Blk:=
 match o with
 |some (.cells g' cs)=>if g'=g/\v.cells.length=m/\off+m<=cs.length/\v.cells.all AV.one=true then some (.cells g (putR cs off v.cells))else none
 |_=>none
def wB (P:Program) (N:NM) (o:Option Blk) (b:Nat) (v:AV) (d:Option Nat) (ops:List SOper) (dead:List Nat) (fs:List Fr) (n:Nat) (T:Tmps) (h:Heap) (Q:QC):Prop:=
 ∃x,o=some x/\b<lim/\wR P N ops dead fs (n+1) (putD T d v) (h.set b x) Q
def wN (P:Program) (N:NM) (x:List AV) (v:AV) (d:Option Nat) (ops:List SOper) (dead:List Nat) (fs:List Fr) (n:Nat) (T:Tmps) (h:Heap) (Q:QC):Prop:=
 h.get n=none/\n<lim/\wR P N ops dead fs (n+1) (putD T d v) (h.set n (.cells 0 x)) Q
theorem QaS {v:AV}:wM P N (.ret v) d r dead fs n T h Q=wR P N r dead fs (n+1) (putD T d v) h Q:=by
 apply propext;constructor
 ·rintro⟨v',h1,hm,k⟩;simp only[HM.run,Option.some.injEq,Prod.mk.injEq]at hm;simp_all
 ·intro k;exact⟨v,h,rfl,k⟩
theorem Qby:wM P N .fail d r dead fs n T h Q=False:=by simp[wM,HM.run]
theorem Qft {o:Option AV}:wM P N (.opt o) d r dead fs n T h Q=wO P N o d r dead fs n T h Q:=by
 cases o with
 |none=>simp[HM.opt,Qby,Qgt]
 |some v=>simp[HM.opt,QaS,Qbx]
theorem Qcx {c:Prop} [Decidable c] {m:HM AV}:wM P N (if c then m else .fail) d r dead fs n T h Q=(c/\wM P N m d r dead fs n T h Q):=by
 grind [Qby]
theorem Qfu {b:Nat} {x:Blk} {v:AV}:wM P N (.put b x (.ret v)) d r dead fs n T h Q=wB P N (some x) b v d r dead fs n T h Q:=by
 apply propext;constructor
 ·rintro ⟨v', h1, hm, k⟩
  obtain⟨hl,hm⟩:=Qak hm
  simp only[HM.run,Option.some.injEq,Prod.mk.injEq]at hm
  obtain⟨rfl,rfl⟩:=hm
  exact⟨x,rfl,hl,k⟩
 ·rintro ⟨x', hx, hl, k⟩
  cases hx
  refine⟨v,_,?_,k⟩
  simp only[HM.run]
  have hl':Nat.blt b lim=true:=by simp_all
  rw[hl'];rfl
theorem QdV {x:Blk} {b:Nat} {v:AV} (hl:b<lim):wB P N (some x) b v d r dead fs n T h Q=wR P N r dead fs (n+1) (putD T d v) (h.set b x) Q:=by simp[wB,hl]
theorem Qdf {b g:Nat} {k:List AV->HM AV}:wM P N (.cells b g k) d r dead fs n T h Q=∃cs,h.get b=some (.cells g cs)/\wM P N (k cs) d r dead fs n T h Q:=by
 apply propext;constructor
 ·rintro ⟨v', h1, hm, hk⟩
  obtain⟨cs,hb,hm⟩:=Qal hm
  exact⟨cs,hb,v',h1,hm,hk⟩
 ·rintro ⟨cs, hb, v', h1, hm, hk⟩
  refine⟨v',h1,?_,hk⟩
  simp_all [HM.cells,HM.run]
theorem Qeo {g g' off:Nat} {cs:List AV}:ldB (some (.cells g' cs)) g off none=if g'=g then cs[off]? else none:=rfl
theorem Qep {g g' off m:Nat} {cs:List AV}:ldB (some (.cells g' cs)) g off (some m)=if g'=g then(if off+m<=cs.length then some (.agg ((cs.drop off).take m))else none)else none:=rfl
theorem Qeq {m:Option Nat} {b g off:Nat}:wM P N (aLoad m (.ptr b g off)) d r dead fs n T h Q=wO P N (ldB (h.get b) g off m) d r dead fs n T h Q:=by
 simp only[aLoad,Qdf]
 apply propext;constructor
 ·rintro ⟨cs, hb, hk⟩
  rw[hb]
  cases m with
  |none=>simpa[ldB,Qft]using hk
  |some m=>
   simp only[Qcx,QaS]at hk
   simp only[ldB,if_true]
   rw[Qfs hk.1,Qbx];exact hk.2
 ·rintro ⟨v, hv, hk⟩
  unfold ldB at hv
  split at hv
  ·rename_i g' cs hb
   split at hv
   ·rename_i e
    subst e
    refine⟨cs,hb,?_⟩
    cases m with
    |none=>simp only at hv;simp only[Qft,hv,Qbx];exact hk
    |some m=>
     simp only at hv
     split at hv
     ·simp_all [QaS]
     ·cases hv
   ·cases hv
  ·cases hv
theorem QcT {cs:List AV}:wM P N (aLoad none (.fptr cs)) d r dead fs n T h Q=wO P N cs.head? d r dead fs n T h Q:=by simp only[aLoad,Qft]
theorem QcU {m:Nat} {cs:List AV}:wM P N (aLoad (some m) (.fptr cs)) d r dead fs n T h Q=wO P N (if m<=cs.length then some (.agg (cs.take m))else none) d r dead fs n T h Q:=by
 simp only[aLoad,Qcx,QaS,Qiv,Qbx]
theorem Qdg {g g' off m:Nat} {cs:List AV} {v:AV}:stB (some (.cells g' cs)) g off m v=if g'=g/\v.cells.length=m/\off+m<=cs.length/\v.cells.all AV.one=true then some (.cells g (putR cs off v.cells))else none:=rfl
theorem QdD {m b g off:Nat} {v:AV}:wM P N (aStore m (.ptr b g off) v) d r dead fs n T h Q=wB P N (stB (h.get b) g off m v) b .any d r dead fs n T h Q:=by
 simp only[aStore,Qdf]
 apply propext;constructor
 ·rintro ⟨cs, hb, hk⟩
  simp only[Qcx,Qfu]at hk
  rw[hb,Qdg,if_pos ⟨rfl,hk.1⟩]
  exact hk.2
 ·rintro ⟨x, hx, hl, hk⟩
  unfold stB at hx
  split at hx
  ·rename_i g' cs hb
   split at hx
   ·rename_i e
    obtain⟨rfl,e⟩:=e
    cases hx
    refine⟨cs,hb,?_⟩
    simp only[Qcx,Qfu]
    exact⟨e,_,rfl,hl,hk⟩
   ·cases hx
  ·cases hx
theorem Qh1 {x:AV} (hx:x.boxable=true):wM P N (aBox .dyn n x) d r dead fs n T h Q=wN P N x.cells (.ptr n 0 0) d r dead fs n T h Q:=by
 simp only[aBox,if_pos hx]
 apply propext;constructor
 ·rintro ⟨v', h1, hm, hk⟩
  unfold HM.new at hm
  simp only[HM.run]at hm
  cases hn:h.get n with
  |none=>
   rw[hn]at hm
   obtain⟨hl,hm⟩:=Qak hm
   simp only[HM.run,Option.some.injEq,Prod.mk.injEq]at hm
   obtain⟨rfl,rfl⟩:=hm
   exact⟨hn,hl,hk⟩
  |some z=>rw[hn]at hm;cases hm
 ·rintro ⟨hn, hl, hk⟩
  refine⟨_,_,?_,hk⟩
  unfold HM.new
  simp only[HM.run,hn]
  have hl':Nat.blt n lim=true:=by simp_all
  rw[hl'];rfl
theorem Qiw {x:List AV} {v:AV} (hn:h.get n=none) (hl:n<lim):wN P N x v d r dead fs n T h Q=wR P N r dead fs (n+1) (putD T d v) (h.set n (.cells 0 x)) Q:=by grind [wN]
theorem Qer {s:List UInt8}:wM P N (aLenC 0 (.str s)) d r dead fs n T h Q=wR P N r dead fs (n+1) (putD T d (.int .i64 s.length)) h Q:=by simp[aLenC,lenKind,aLen,QaS]
theorem Qfv {b g off len sz:Nat}:wM P N (aLenC 1 (.sl b g off len sz)) d r dead fs n T h Q=wR P N r dead fs (n+1) (putD T d (.int .i64 len)) h Q:=by simp[aLenC,lenKind,aLen,QaS]
theorem Qes {cs:List AV} {len sz:Nat}:wM P N (aLenC 1 (.fsl cs len sz)) d r dead fs n T h Q=wR P N r dead fs (n+1) (putD T d (.int .i64 len)) h Q:=by simp[aLenC,lenKind,aLen,QaS]
theorem QcV:wM P N (aLenC 1 .nilsl) d r dead fs n T h Q=wR P N r dead fs (n+1) (putD T d (.int .i64 0)) h Q:=by simp[aLenC,lenKind,aLen,QaS]
theorem Qet:wM P N (aLenC 1 .esl) d r dead fs n T h Q=wR P N r dead fs (n+1) (putD T d (.int .i64 0)) h Q:=by simp[aLenC,lenKind,aLen,QaS]
end
section
variable {k:IntKind} {a b:Int}
theorem Qdh:aBin .add (.int k a) (.int k b)=some (.int k (wr k (a+b))):=by simp[aBin]
theorem Qdi:aBin .sub (.int k a) (.int k b)=some (.int k (wr k (a-b))):=by simp[aBin]
theorem Qdj:aBin .mul (.int k a) (.int k b)=some (.int k (wr k (a*b))):=by simp[aBin]
theorem Qfw:aBin .quo (.int k a) (.int k b)=if b=0 then none else some (.int k (wr k (a.tdiv b))):=by simp[aBin]
theorem Qfx:aBin .rem (.int k a) (.int k b)=if b=0 then none else some (.int k (a.tmod b)):=by simp[aBin]
theorem QbG:aBin .eql (.int k a) (.int k b)=some (.bool (decide (a=b))):=by simp[aBin]
theorem QbH:aBin .neq (.int k a) (.int k b)=some (.bool (!decide (a=b))):=by simp[aBin]
theorem QbI:aBin .lss (.int k a) (.int k b)=some (.bool (decide (a<b))):=by simp[aBin]
theorem QbJ:aBin .leq (.int k a) (.int k b)=some (.bool (decide (a<=b))):=by simp[aBin]
theorem QbK:aBin .gtr (.int k a) (.int k b)=some (.bool (decide (b<a))):=by simp[aBin]
theorem QbL:aBin .geq (.int k a) (.int k b)=some (.bool (decide (b<=a))):=by simp[aBin]
theorem Qgu {b:Bool}:aUn .not (.bool b)=some (.bool (!b)):=rfl
theorem Qgv:aUn .neg (.int k a)=some (.int k (wr k (0-a))):=rfl
theorem Qcy {k':IntKind}:aConv k (.int k' a)=some (.int k (wr k a)):=rfl
theorem QdE {t:Bool} {x y:AV}:aPick (.bool t) x y=some (if t then x else y):=rfl
theorem QdF {x y:AV}:aPick (.bool true) x y=some x:=rfl
theorem QcW {x y:AV}:aPick (.bool false) x y=some y:=rfl
theorem Qcz {j:Nat} {vs:List AV}:aExtract j (.tup vs)=vs[j]?:=rfl
theorem Qfy {v:AV} {vs:List AV}:(v::vs)[0]?=some v:=rfl
theorem Qfz {v:AV} {vs:List AV} {j:Nat}:(v::vs)[j+1]?=vs[j]?:=rfl
theorem QhA {n:Int} (h1: -9223372036854775808<=n) (h2:n<=9223372036854775807):wr .i64 n=n:=wr_of h1 h2
theorem QhB {n:Int} (h1:0<=n) (h2:n<=18446744073709551615):wr .u64 n=n:=wr_of h1 h2
theorem wr_u8 {n:Int} (h1:0<=n) (h2:n<=255):wr .u8 n=n:=wr_of h1 h2
theorem QhC {n:Int} (h1:0<=n) (h2:n<=65535):wr .u16 n=n:=wr_of h1 h2
theorem QhD {n:Int} (h1:0<=n) (h2:n<=4294967295):wr .u32 n=n:=wr_of h1 h2
theorem QhE {n:Int} (h1: -2147483648<=n) (h2:n<=2147483647):wr .i32 n=n:=wr_of h1 h2
theorem QdG {sz len s:Nat} {cs:List AV}:aIAddr none sz (.fsl cs len s) (.int k a)=if 0<=a/\a<len/\s=sz then some (.fptr (cs.drop (a.toNat*sz)))else none:=rfl
theorem Qeu {sz len s b g off:Nat}:aIAddr none sz (.sl b g off len s) (.int k a)=if 0<=a/\a<len/\s=sz then some (.ptr b g (off+a.toNat*sz))else none:=rfl
theorem QdH {m sz b g off:Nat}:aIAddr (some m) sz (.ptr b g off) (.int k a)=if 0<=a/\a<m then some (.ptr b g (off+a.toNat*sz))else none:=rfl
theorem QcX {m sz:Nat} {cs:List AV}:aIAddr (some m) sz (.fptr cs) (.int k a)=if 0<=a/\a<m then some (.fptr (cs.drop (a.toNat*sz)))else none:=rfl
theorem QdI {o off b g:Nat}:aFAddr off (.ptr b g o)=some (.ptr b g (o+off)):=rfl
theorem QcY {off:Nat} {cs:List AV}:aFAddr off (.fptr cs)=some (.fptr (cs.drop off)):=rfl
theorem QdJ {m sz:Nat} {cs:List AV}:aIndex (some (m,sz,false)) (.agg cs) (.int k a)=if 0<=a/\a<m then cs[a.toNat*sz]? else none:=by simp[aIndex]
theorem QcZ {off:Nat} {cs:List AV}:aField none off (.agg cs)=cs[off]?:=rfl
theorem Qc0 {m off:Nat} {cs:List AV}:aField (some m) off (.agg cs)=if off+m<=cs.length then some (.agg ((cs.drop off).take m))else none:=rfl
end
def Sub (L T:Tmps):Prop:=∀i,lk L i= .any\/lk L i=lk T i
theorem Sub.of_eq {L T:Tmps} (h:∀i,lk L i=lk T i):Sub L T:=fun i=> .inr (h i)
theorem W2.weak {N:NM} {c:SCode} {Q:SX->St->Prop} {T L:Tmps} {h:Heap} (hT:Sub L T) (hw:W2 P N c Q ⟨L,h⟩):W2 P N c Q ⟨T,h⟩:=by
 intro code hok ctx a w S ro hro Q' hQ
 refine hw code hok ctx a w ⟨S.heap,fun i=>?_,S.size,S.defers⟩ ro hro Q' hQ
 rcases hT i with e|e
 ·simp_all [VRel]
 ·show VRel ctx w (lk L i) _
  rw[e];exact S.tmps i
def loopQ (P:Program) (N:NM) {α:Type} (env:α->Tmps) (H:α->Heap->Nat->Prop) (μ:α->Nat) (a:α) (fs:List Fr) (Q:QC):QC:=fun e T h n=>
 match e with
 | .normal=>∃a',μ a'<μ a/\Sub (env a') T/\H a' h n
 |e=>wX P N e fs n T h Q
section
variable {N:NM} {n:Nat} {T:Tmps} {h:Heap} {Q:QC} {fs:List Fr} {α:Type} {env:α->Tmps} {H:α->Heap->Nat->Prop} {μ:α->Nat} {a:α}
theorem QcA:loopQ P N env H μ a fs Q .normal T h n=∃a',μ a'<μ a/\Sub (env a') T/\H a' h n:=rfl
theorem QdK {i:Nat}:loopQ P N env H μ a fs Q (.exit i) T h n=wX P N (.exit i) fs n T h Q:=rfl
theorem Qev:loopQ P N env H μ a fs Q .ret T h n=wX P N .ret fs n T h Q:=rfl
end
def wLp (P:Program) (N:NM) (b:SCode) (fs:List Fr) (n:Nat) (T:Tmps) (h:Heap) (Q:QC):Prop:=WL2 P N b (fun e B=>∃n,ct P N fs Q e B.T B.h n) ⟨T,h⟩
def unQ (P:Program) (N:NM) (b:SCode) (fs:List Fr) (Q:QC):QC:=fun e T h n=>
 match e with
 | .normal=>wLp P N b fs n T h Q
 |e=>wX P N e fs n T h Q
section
variable {N:NM} {n:Nat} {T:Tmps} {h:Heap} {Q:QC} {fs:List Fr} {b:SCode}
theorem QdL:unQ P N b fs Q .normal T h n=wLp P N b fs n T h Q:=rfl
theorem QfA {i:Nat}:unQ P N b fs Q (.exit i) T h n=wX P N (.exit i) fs n T h Q:=rfl
theorem Qgw:unQ P N b fs Q .ret T h n=wX P N .ret fs n T h Q:=rfl
end
theorem QeP {ok:Okc} {F:Nat->Prop} {m:Nat} {c':Ctx ok} {w w':World} (E:Evo2 m (only F) w c' w'):Go.RowKit.Below w.heap.size w w':=
 ⟨E.os,E.tape,E.output,E.size,fun k hk=>E.keep k hk (fun h=>h)⟩
open Go.RowKit in
theorem law_of_W2 {f:Nat} {sf:SFn} {args:List AV} (hok:okFn P f sf=true) (hl:Nat.ble args.length sf.n=true)
  (hw:W2 P ⟨sf.n,0⟩ sf.body (fun e B=>(e= .normal\/e= .ret)/\resV B.T B.h sf.res=some [.bool true]) ⟨argT 0 args,.e⟩)
  {F:Nat->Prop} {w:World} {cargs:Array Value} (hF:∀k,F k->k<w.heap.size) (ha:VRels (only (ok:=okc P) F) w args cargs.toList):
  Calls P f cargs w fun e w'=>e= .returned (.bool true)/\Below w.heap.size w w':=by
 refine(QgX (R:=fun vs _=>vs=[.bool true]) hok (Nat.le_of_ble_eq_true hl) (hw.mono ?_) (HRel.only hF) ha).mono ?_
 ·simp_all
 ·rintro e w' ⟨cv, c', vs, h', rfl, E, H, V, rfl⟩
  simp only[resOf,VRel]at V
  subst V
  exact⟨rfl,QeP E⟩
end Go.AM
namespace Go.AM
variable {P:Program}
noncomputable section
structure FFn where
 n:Nat
 res:List SRes
 body:FCode
def FFn.slim (f:FFn):SFn:=⟨f.n,f.res,f.body.slim⟩
structure Ans (α:Type) where
 bad:α
 asm:List AV->List AV->α->α
 holds:α->Prop
def ansB:Ans Bool:=⟨false,fun _ _ _=>false,fun b=>b=true⟩
def ansP:Ans Prop:=⟨False,fun x y p=>x=y/\p,id⟩
structure Ans.OK {α:Type} (A:Ans α):Prop where
 bad:¬A.holds A.bad
 asm:∀x y p,A.holds (A.asm x y p)->x=y/\A.holds p
theorem QdW:ansB.OK:=⟨fun h=>(by cases h),fun _ _ _ h=>(by cases h)⟩
theorem Qig:ansP.OK:=⟨fun h=>h,fun _ _ _ h=>h⟩
variable {α:Type}
abbrev ifB (c:Bool) (a b:α):α:=@Bool.rec (fun _=>α) b a c
theorem Qad (c:Bool) (a b:α):ifB c a b=if c=true then a else b:=by cases c<;>rfl
def fNat (m:Nat) (k:Nat->α):α:=@Nat.rec (fun _=>α) (k 0) (fun n _=>k (Nat.succ n)) m
theorem Qas (m:Nat) (k:Nat->α):fNat m k=k m:=by cases m<;>rfl
def fInt (n:Int) (k:Int->α):α:=@Int.rec (fun _=>α) (fun m=>fNat m fun m=>k (.ofNat m)) (fun m=>fNat m fun m=>k (.negSucc m)) n
theorem Qih (n:Int) (k:Int->α):fInt n k=k n:=by cases n<;>simp[fInt,Qas]
def fBool (b:Bool) (k:Bool->α):α:=@Bool.rec (fun _=>α) (k false) (k true) b
theorem QaY (b:Bool) (k:Bool->α):fBool b k=k b:=by cases b<;>rfl
def fList {β:Type} (l:List β) (k:List β->α):α:=@List.rec β (fun _=>(List β->α)->α) (fun k=>k []) (fun x _ ih k=>ih fun r=>k (x::r)) l k
theorem QaZ {β:Type} (l:List β) (k:List β->α):fList l k=k l:=by
 have:∀(l:List β) (k:List β->α),@List.rec β (fun _=>(List β->α)->α) (fun k=>k []) (fun x _ ih k=>ih fun r=>k (x::r)) l k=k l:=by
  intro l
  induction l with
  |nil=>intro k;rfl
  |cons x r ih=>intro k;exact ih _
 exact this l k
def fAV (v:AV) (k:AV->α):α:=
 match v with
 | .int t n=>fInt n fun n=>k (.int t n)
 | .bool b=>fBool b fun b=>k (.bool b)
 | .any=>k .any
 | .str s=>fList s fun s=>k (.str s)
 | .agg cs=>fList cs fun cs=>k (.agg cs)
 | .tup cs=>fList cs fun cs=>k (.tup cs)
 | .nilptr=>k .nilptr
 | .ptr b g o=>fNat o fun o=>k (.ptr b g o)
 | .fptr cs=>fList cs fun cs=>k (.fptr cs)
 | .nilsl=>k .nilsl
 | .sl b g o l s=>fNat o fun o=>fNat l fun l=>k (.sl b g o l s)
 | .fsl cs l s=>fNat l fun l=>fList cs fun cs=>k (.fsl cs l s)
 | .esl=>k .esl
 | .nsl=>k .nsl
 | .nilmap=>k .nilmap
 | .map b g=>k (.map b g)
 | .fmap x y=>fList x fun x=>fList y fun y=>k (.fmap x y)
 | .nilfn=>k .nilfn
 | .fn f x y=>fList x fun x=>fList y fun y=>k (.fn f x y)
 | .yld b g=>k (.yld b g)
 | .nilif=>k .nilif
 | .ifc t v=>k (.ifc t v)
 | .typed t n v=>fNat t fun t=>fNat n fun n=>k (.typed t n v)
theorem Qbb (v:AV) (k:AV->α):fAV v k=k v:=by
 unfold fAV
 grind [Qih,QaY,QaZ,Qas]
def fBlk (x:Blk) (k:Blk->α):α:=
 match x with
 | .cells g cs=>fList cs fun cs=>k (.cells g cs)
 |x=>k x
theorem Qii (x:Blk) (k:Blk->α):fBlk x k=k x:=by
 unfold fBlk;grind [QaZ]
def lkK (T:Tmps) (i:Nat) (k:AV->α):α:=@List.rec (Nat×AV) (fun _=>α) (k .any) (fun p _ ih=>ifB (Nat.beq p.1 i) (k p.2) ih) T
theorem Qb2 (T:Tmps) (i:Nat) (k:AV->α):lkK T i k=k (lk T i):=by
 induction T with
 |nil=>rfl
 |cons p T ih=>
  show ifB (Nat.beq p.1 i) (k p.2) (lkK T i k)=_
  rw[ih,Qad,Qa4]
  by_cases h:p.1=i
  ·subst h;simp
  ·simp_all [Bool.eq_false_iff]
def evK (T:Tmps) (x:Opd) (k:AV->α):α:=@Opd.rec (fun _=>α) (fun i=>lkK T i k) (fun v=>k v) (fun n=>k (.fn n [] [])) (fun _=>k .any) x
theorem Qao (T:Tmps) (x:Opd) (k:AV->α):evK T x k=k (ev T x):=by
 cases x
 ·exact Qb2 _ _ _
 ·rfl
 ·rfl
 ·rfl
def upR (T:Tmps) (i:Nat) (v:AV) (k:Tmps->α):α:=
 @List.rec (Nat×AV) (fun _=>(Tmps->α)->α) (fun k=>k [(i,v)]) (fun p r ih k=>ifB (Nat.beq p.1 i) (k ((i,v)::r)) (ih fun r'=>k (p::r'))) T k
theorem Qbs (T:Tmps) (i:Nat) (v:AV) (k:Tmps->α):upR T i v k=k (up T i v):=by
 have:∀(T:Tmps) (k:Tmps->α),@List.rec (Nat×AV) (fun _=>(Tmps->α)->α) (fun k=>k [(i,v)]) (fun p r ih k=>ifB (Nat.beq p.1 i) (k ((i,v)::r)) (ih fun r'=>k (p::r'))) T k=k (up T i v):=by
  intro T
  induction T with
  |nil=>intro k;rfl
  |cons p T ih=>
   intro k
   show ifB (Nat.beq p.1 i) (k ((i,v)::T)) (@List.rec (Nat×AV) (fun _=>(Tmps->α)->α) (fun k=>k [(i,v)]) (fun p r ih k=>ifB (Nat.beq p.1 i) (k ((i,v)::r)) (ih fun r'=>k (p::r'))) T fun r'=>k (p::r'))=_
   rw[ih,Qad,QdU]
   by_cases h:p.1=i
   ·subst h;simp
   ·simp_all [Bool.eq_false_iff]
 exact this T k
def putS (nw:Bool) (T:Tmps) (dst:Option Nat) (v:AV) (k:Tmps->α):α:=
 @Option.rec Nat (fun _=>α) (k T) (fun d=>ifB nw (k ((d,v)::T)) (upR T d v k)) dst
theorem Qew (nw:Bool) (T:Tmps) (dst:Option Nat) (v:AV) (k:Tmps->α):∃T',putS nw T dst v k=k T'/\∀i,lk T' i=lk (putD T dst v) i:=by
 cases dst with
 |none=>exact⟨T,rfl,fun _=>rfl⟩
 | some d =>
  cases nw with
  |false=>exact⟨up T d v,Qbs T d v k,fun _=>rfl⟩
  |true=>
   refine⟨(d,v)::T,rfl,fun i=>?_⟩
   rw[Qa4,QaO]
   by_cases h:d=i
   ·subst h;simp
   ·simp_all
def rmR (m:Nat) (T:Tmps) (k:Tmps->α):α:=
 @List.rec (Nat×AV) (fun _=>(Tmps->α)->α) (fun k=>k []) (fun p r ih k=>ifB (Nat.beq (Nat.land (Nat.shiftRight m p.1) 1) 1) (ih k) (ih fun r'=>k (p::r'))) T k
def rmM (m:Nat):Tmps->Tmps
 |[]=>[]
 |p::r=>if Nat.beq (Nat.land (Nat.shiftRight m p.1) 1) 1=true then rmM m r else p::rmM m r
theorem QhF (m:Nat) (T:Tmps) (k:Tmps->α):rmR m T k=k (rmM m T):=by
 have:∀(T:Tmps) (k:Tmps->α),@List.rec (Nat×AV) (fun _=>(Tmps->α)->α) (fun k=>k []) (fun p r ih k=>ifB (Nat.beq (Nat.land (Nat.shiftRight m p.1) 1) 1) (ih k) (ih fun r'=>k (p::r'))) T k=k (rmM m T):=by
  intro T
  induction T with
  |nil=>intro k;rfl
  |cons p T ih=>
   intro k
   show ifB (Nat.beq (Nat.land (Nat.shiftRight m p.1) 1) 1) (@List.rec (Nat×AV) (fun _=>(Tmps->α)->α) (fun k=>k []) (fun p r ih k=>ifB (Nat.beq (Nat.land (Nat.shiftRight m p.1) 1) 1) (ih k) (ih fun r'=>k (p::r'))) T k) (@List.rec (Nat×AV) (fun _=>(Tmps->α)->α) (fun k=>k []) (fun p r ih k=>ifB (Nat.beq (Nat.land (Nat.shiftRight m p.1) 1) 1) (ih k) (ih fun r'=>k (p::r'))) T fun r'=>k (p::r'))=_
   rw[ih,ih,Qad]
   simp only[rmM]
   split<;>rfl
 exact this T k
theorem Qgx (m:Nat) (T:Tmps):Sub (rmM m T) T:=by
 have dead:∀(T:Tmps) (i:Nat),Nat.beq (Nat.land (Nat.shiftRight m i) 1) 1=true->lk (rmM m T) i= .any:=by
  intro T i hi
  induction T with
  |nil=>rfl
  | cons p T ih =>
   simp only[rmM]
   split
   ·exact ih
   ·rename_i h
    rw[Qa4,if_neg (by grind)];exact ih
 have live:∀(T:Tmps) (i:Nat),¬Nat.beq (Nat.land (Nat.shiftRight m i) 1) 1=true->lk (rmM m T) i=lk T i:=by
  intro T i hi
  induction T with
  |nil=>rfl
  | cons p T ih =>
   simp only[rmM]
   split
   ·rename_i h
    rw[Qa4,if_neg (by grind)];exact ih
   ·grind [Qa4]
 intro i
 grind
def getR {β:Type} (t:Tr β) (b:Nat) (k:Option β->α):α:=
 @Tr.rec β (fun _=>Nat->α) (fun _=>k none) (fun _ v _ il ir b=>ifB (Nat.beq b 0) (k v) (ifB (Nat.beq (Nat.mod b 2) 1) (il (Nat.div b 2)) (ir (Nat.sub (Nat.div b 2) 1)))) t b
theorem Qax {β:Type} (t:Tr β) (b:Nat) (k:Option β->α):getR t b k=k (t.get b):=by
 induction t generalizing b with
 |e=>rfl
 |n l v r il ir=>
  show ifB (Nat.beq b 0) (k v) (ifB (Nat.beq (Nat.mod b 2) 1) (getR l (Nat.div b 2) k) (getR r (Nat.sub (Nat.div b 2) 1) k))=_
  rw[il,ir,Qad,Qad]
  simp only[Tr.get]
  have e1:Nat.mod b 2=b % 2:=rfl
  have e2:Nat.div b 2=b/2:=rfl
  have e3:Nat.sub (b/2) 1=b/2-1:=rfl
  rw[e1,e2,e3]
  cases Nat.beq b 0<;>cases Nat.beq (b % 2) 1<;>rfl
def setE {β:Type} (f:Nat) (b:Nat) (x:β) (k:Tr β->α):α:=
 @Nat.rec (fun _=>Nat->(Tr β->α)->α) (fun _ k=>k .e) (fun _ ih b k=>ifB (Nat.beq b 0) (k (.n .e (some x) .e)) (ifB (Nat.beq (Nat.mod b 2) 1) (ih (Nat.div b 2) fun l=>k (.n l none .e)) (ih (Nat.sub (Nat.div b 2) 1) fun r=>k (.n .e none r)))) f b k
theorem Qij {β:Type} (f:Nat) (b:Nat) (x:β) (k:Tr β->α):setE f b x k=k (Tr.setF f .e b x):=by
 induction f generalizing b k with
 |zero=>rfl
 |succ f ih=>
  show ifB (Nat.beq b 0) (k (.n .e (some x) .e)) (ifB (Nat.beq (Nat.mod b 2) 1) (setE f (Nat.div b 2) x fun l=>k (.n l none .e)) (setE f (Nat.sub (Nat.div b 2) 1) x fun r=>k (.n .e none r)))=_
  rw[ih,ih,Qad,Qad]
  simp only[Tr.setF]
  have e1:Nat.mod b 2=b % 2:=rfl
  have e2:Nat.div b 2=b/2:=rfl
  have e3:Nat.sub (b/2) 1=b/2-1:=rfl
  rw[e1,e2,e3]
  cases Nat.beq b 0<;>cases Nat.beq (b % 2) 1<;>rfl
def setR {β:Type} (t:Tr β) (f:Nat) (b:Nat) (x:β) (k:Tr β->α):α:=
 @Tr.rec β (fun _ => Nat -> Nat -> (Tr β -> α) -> α) (fun f b k => setE f b x k)
  (fun l v r il ir f b k=>@Nat.rec (fun _=>α) (k (.n l v r)) (fun f _=>ifB (Nat.beq b 0) (k (.n l (some x) r)) (ifB (Nat.beq (Nat.mod b 2) 1) (il f (Nat.div b 2) fun l=>k (.n l v r)) (ir f (Nat.sub (Nat.div b 2) 1) fun r=>k (.n l v r)))) f) t f b k
theorem Qik {β:Type} (t:Tr β) (f:Nat) (b:Nat) (x:β) (k:Tr β->α):setR t f b x k=k (Tr.setF f t b x):=by
 induction t generalizing f b k with
 |e=>exact Qij f b x k
 | n l v r il ir =>
  cases f with
  |zero=>rfl
  |succ f=>
   show ifB (Nat.beq b 0) (k (.n l (some x) r)) (ifB (Nat.beq (Nat.mod b 2) 1) (setR l f (Nat.div b 2) x fun l=>k (.n l v r)) (setR r f (Nat.sub (Nat.div b 2) 1) x fun r=>k (.n l v r)))=_
   rw[il,ir,Qad,Qad]
   simp only[Tr.setF]
   have e1:Nat.mod b 2=b % 2:=rfl
   have e2:Nat.div b 2=b/2:=rfl
   have e3:Nat.sub (b/2) 1=b/2-1:=rfl
   rw[e1,e2,e3]
   cases Nat.beq b 0<;>cases Nat.beq (b % 2) 1<;>rfl
def putBR (A:Ans α) (h:Heap) (b:Nat) (x:Blk) (k:Heap->α):α:=ifB (Nat.ble (Nat.succ b) lim) (setR h 40 b x k) A.bad
theorem QaC (A:Ans α) (h:Heap) (b:Nat) (x:Blk) (k:Heap->α):putBR A h b x k=if b<lim then k (h.set b x)else A.bad:=by
 unfold putBR
 rw[Qik,Qad]
 by_cases hb:b<lim
 ·rw[if_pos (Nat.ble_eq_true_of_le hb),if_pos hb];rfl
 ·rw[if_neg (fun h=>hb (Nat.le_of_ble_eq_true h)),if_neg hb]
def runR {β:Type} (A:Ans α) (m:HM β) (h:Heap) (k:β->Heap->α):α:=
 @HM.rec β (fun _=>Heap->α) (fun a h=>k a h) (fun _=>A.bad) (fun b _ ih h=>getR h b fun o=>ih o h) (fun b x _ ih h=>fBlk x fun x=>putBR A h b x fun h=>ih h) m h
theorem Qa5 {β:Type} (A:Ans α) (m:HM β):∀(h:Heap) (k:β->Heap->α),runR A m h k=match m.run h with|some (a,h')=>k a h'|none=>A.bad:=by
 induction m with
 |ret a=>intro h k;rfl
 |fail=>intro h k;rfl
 |look b m ih=>
  intro h k
  show getR h b (fun o=>runR A (m o) h k)=_
  rw[Qax]
  exact ih _ h k
 | put b x m ih =>
  intro h k
  show fBlk x (fun x=>putBR A h b x fun h=>runR A m h k)=_
  rw[Qii,QaC]
  simp only[HM.run]
  by_cases hb:b<lim
  ·have : Nat.blt b lim = true := by simp_all
   grind
  ·have : Nat.blt b lim = false := by simp_all [Bool.eq_false_iff]
   grind
def optR (A:Ans α) (o:Option AV) (k:AV->α):α:=@Option.rec AV (fun _=>α) A.bad (fun v=>fAV v k) o
theorem Qay (A:Ans α) (o:Option AV) (k:AV->α):optR A o k=match o with|some v=>k v|none=>A.bad:=by
 cases o with
 |none=>rfl
 |some v=>exact Qbb v k
def hiN:IntKind->Nat
 | .i8=>127| .i16=>32767| .i32=>2147483647| .i64=>9223372036854775807
 | .u8=>255| .u16=>65535| .u32=>4294967295| .u64=>18446744073709551615
theorem Qix (k:IntKind):hi k=hiN k:=by cases k<;>rfl
theorem lo_le (k:IntKind):lo k<=0:=by cases k<;>decide
theorem QdM {k:IntKind} {m:Nat} (h:m<=hiN k):wr k (.ofNat m)= .ofNat m:=
 wr_of (by grind [lo_le]) (by simp_all [Qix])
def kn:IntKind->Nat
 | .i8=>0| .i16=>1| .i32=>2| .i64=>3| .u8=>4| .u16=>5| .u32=>6| .u64=>7
theorem QfB {k k':IntKind} (h:Nat.beq (kn k) (kn k')=true):k=k':=by cases k<;>cases k'<;>first|rfl|(cases h)
def bin2 (A:Ans α) (op:BinOp) (kd:IntKind) (a b:Nat) (slow:α) (k:AV->α):α:=
 match op with
 | .add=>fNat (Nat.add a b) fun r=>ifB (Nat.ble r (hiN kd)) (k (.int kd (.ofNat r))) slow
 | .sub=>ifB (Nat.ble b a) (fNat (Nat.sub a b) fun r=>ifB (Nat.ble r (hiN kd)) (k (.int kd (.ofNat r))) slow) slow
 | .mul=>fNat (Nat.mul a b) fun r=>ifB (Nat.ble r (hiN kd)) (k (.int kd (.ofNat r))) slow
 | .eql=>fBool (Nat.beq a b) fun t=>k (.bool t)
 | .neq=>fBool (Nat.beq a b) fun t=>ifB t (k (.bool false)) (k (.bool true))
 | .lss=>fBool (Nat.ble (Nat.succ a) b) fun t=>k (.bool t)
 | .leq=>fBool (Nat.ble a b) fun t=>k (.bool t)
 | .gtr=>fBool (Nat.ble (Nat.succ b) a) fun t=>k (.bool t)
 | .geq=>fBool (Nat.ble b a) fun t=>k (.bool t)
 |_=>slow
def binN (op:BinOp) (below:Bool) (slow:α) (k:AV->α):α:=
 match op with
 | .eql=>k (.bool false)
 | .neq=>k (.bool true)
 | .lss=>ifB below (k (.bool true)) (k (.bool false))
 | .leq=>ifB below (k (.bool true)) (k (.bool false))
 | .gtr=>ifB below (k (.bool false)) (k (.bool true))
 | .geq=>ifB below (k (.bool false)) (k (.bool true))
 |_=>slow
def binR (A:Ans α) (op:BinOp) (x y:AV) (k:AV->α):α:=
 match x with
 | .int kx (.ofNat a)=>(match y with
  | .int ky (.ofNat b)=>ifB (Nat.beq (kn kx) (kn ky)) (bin2 A op kx a b (optR A (aBin op x y) k) k) (optR A (aBin op x y) k)
  | .int ky (.negSucc b)=>ifB (Nat.beq (kn kx) (kn ky)) (binN op false (optR A (aBin op x y) k) k) (optR A (aBin op x y) k)
  |_=>optR A (aBin op x y) k)
 | .int kx (.negSucc a)=>(match y with
  | .int ky (.ofNat b)=>ifB (Nat.beq (kn kx) (kn ky)) (binN op true (optR A (aBin op x y) k) k) (optR A (aBin op x y) k)
  |_=>optR A (aBin op x y) k)
 |_=>optR A (aBin op x y) k
theorem Qil (A:Ans α) (op:BinOp) (kd:IntKind) (a b:Nat) (k:AV->α):
  binN op true (optR A (aBin op (.int kd (.negSucc a)) (.int kd (.ofNat b))) k) k=optR A (aBin op (.int kd (.negSucc a)) (.int kd (.ofNat b))) k:=by
 have hlt:(Int.negSucc a:Int)<Int.ofNat b:=by grind
 generalize Int.negSucc a=x at*
 generalize Int.ofNat b=y at*
 unfold binN
 grind [QbG,Qay,decide,QbH,QbI,QbJ,QbK,QbL]
theorem binN_eq' (A:Ans α) (op:BinOp) (kd:IntKind) (a b:Nat) (k:AV->α):
  binN op false (optR A (aBin op (.int kd (.ofNat a)) (.int kd (.negSucc b))) k) k=optR A (aBin op (.int kd (.ofNat a)) (.int kd (.negSucc b))) k:=by
 have hlt:(Int.negSucc b:Int)<Int.ofNat a:=by grind
 generalize Int.negSucc b=x at*
 generalize Int.ofNat a=y at*
 unfold binN
 grind [QbG,Qay,decide,QbH,QbI,QbJ,QbK,QbL]
theorem Qim (A:Ans α) (op:BinOp) (kd:IntKind) (a b:Nat) (k:AV->α):
  bin2 A op kd a b (optR A (aBin op (.int kd (.ofNat a)) (.int kd (.ofNat b))) k) k=optR A (aBin op (.int kd (.ofNat a)) (.int kd (.ofNat b))) k:=by
 unfold bin2
 cases op<;>simp only<;>try rfl
 ·rw [Qas, Qad]
  split
  ·rename_i h1
   rw[Qdh,show(Int.ofNat a+Int.ofNat b:Int)=Int.ofNat (a+b) from rfl,QdM (m:=a+b) (Nat.le_of_ble_eq_true h1),Qay];rfl
  ·rfl
 ·rw [Qad]
  split
  ·rename_i h0
   have h0:=Nat.le_of_ble_eq_true h0
   rw[Qas,Qad]
   split
   ·rename_i h1
    rw[Qdi,show(Int.ofNat a-Int.ofNat b:Int)=Int.ofNat (a-b) from(Int.ofNat_sub h0).symm,QdM (m:=a-b) (Nat.le_of_ble_eq_true h1),Qay];rfl
   ·rfl
  ·rfl
 ·rw [Qas, Qad]
  split
  ·rename_i h1
   rw[Qdj,show(Int.ofNat a*Int.ofNat b:Int)=Int.ofNat (a*b) from rfl,QdM (m:=a*b) (Nat.le_of_ble_eq_true h1),Qay];rfl
  ·rfl
 ·rw [QaY, QbG, Qay]
  simp only
  congr 2
  rw[Bool.eq_iff_iff];simp;omega
 ·rw [QaY, QbH, Qay, Qad]
  simp only
  by_cases e:a=b
  ·subst e;simp
  ·have h1 : Nat.beq a b = false := by simp_all [Bool.eq_false_iff]
   grind [decide]
 ·rw [QaY, QbI, Qay]
  simp only
  congr 2
  rw[Bool.eq_iff_iff];simp;omega
 ·rw [QaY, QbJ, Qay]
  simp only
  congr 2
  rw[Bool.eq_iff_iff];simp
 ·rw [QaY, QbK, Qay]
  simp only
  congr 2
  rw[Bool.eq_iff_iff];simp;omega
 ·rw [QaY, QbL, Qay]
  simp only
  congr 2
  rw[Bool.eq_iff_iff];simp
theorem Qin (A:Ans α) (op:BinOp) (x y:AV) (k:AV->α):binR A op x y k=match aBin op x y with|some v=>k v|none=>A.bad:=by
 rw[<-Qay A]
 unfold binR
 split
 ·split
  ·grind [Qad,QfB,Qim]
  ·grind [Qad,QfB,binN_eq']
  ·rfl
 ·split
  ·grind [Qad,QfB,Qil]
  ·rfl
 ·rfl
def nthR (A:Ans α) (cs:List AV) (j:Nat) (k:AV->α):α:=
 @List.rec AV (fun _=>Nat->α) (fun _=>A.bad) (fun c _ ih j=>@Nat.rec (fun _=>α) (k c) (fun j _=>ih j) j) cs j
theorem Qgy (A:Ans α) (cs:List AV) (j:Nat) (k:AV->α):nthR A cs j k=match cs[j]? with|some v=>k v|none=>A.bad:=by
 induction cs generalizing j with
 |nil=>rfl
 |cons c cs ih=>
  cases j with
  |zero=>rfl
  |succ j=>exact(ih j).trans (by simp)
def nthSetR (cs:List AV) (j:Nat) (v:AV) (k:List AV->α):α:=
 @List.rec AV (fun _=>Nat->(List AV->α)->α) (fun _ k=>k []) (fun c r ih j k=>@Nat.rec (fun _=>α) (k (v::r)) (fun j _=>ih j fun r=>k (c::r)) j) cs j k
theorem QgY (cs:List AV) (j:Nat) (v:AV) (k:List AV->α):nthSetR cs j v k=k (cs.set j v):=by
 induction cs generalizing j k with
 |nil=>rfl
 |cons c cs ih=>
  cases j with
  |zero=>rfl
  |succ j=>exact ih j _
def dropR (cs:List AV) (j:Nat) (k:List AV->α):α:=
 @List.rec AV (fun _=>Nat->α) (fun _=>k []) (fun c r ih j=>@Nat.rec (fun _=>α) (k (c::r)) (fun j _=>ih j) j) cs j
theorem Qdk (cs:List AV) (j:Nat) (k:List AV->α):dropR cs j k=k (cs.drop j):=by
 induction cs generalizing j with
 |nil=>simp[dropR]
 |cons c cs ih=>
  cases j with
  |zero=>rfl
  |succ j=>exact ih j
def isPtr:AV->Bool
 | .ptr .. =>true
 |_=>false
def loadR (A:Ans α) (m:Option Nat) (x:AV) (h:Heap) (k:AV->α):α:=
 match m with
 | none => (match x with
  | .ptr b g off=>getR h b fun o=>(match o with
   |some (.cells g' cs)=>ifB (Nat.beq g' g) (nthR A cs off k) A.bad
   |_=>A.bad)
  | .fptr cs=>(match cs with
   |c::_=>k c
   |[]=>A.bad)
  |_=>A.bad)
 |some _=>runR A (aLoad m x) h fun v _=>fAV v k
theorem QfC (A:Ans α) (m:Option Nat) (x:AV) (h:Heap) (k:AV->α):loadR A m x h k=match (aLoad m x).run h with|some (v,_)=>k v|none=>A.bad:=by
 unfold loadR
 split
 ·split
  ·rename_i b g off
   rw[Qax]
   simp only[aLoad,HM.cells,HM.run]
   cases hb:h.get b with
   |none=>rfl
   | some x =>
    cases x with
    |map g' es=>rfl
    |dead g'=>rfl
    |loop=>rfl
    | cells g' cs =>
     simp only
     rw[Qad,Qgy]
     cases hg:Nat.beq g' g with
     |true=>
      simp only[cond_true,if_true]
      cases cs[off]?<;>rfl
     |false=>simp[HM.run]
  ·rename_i cs
   split<;>rfl
  ·rename_i h1 h2
   cases x<;>first|rfl|(exact absurd rfl (h1 _ _ _))|(exact absurd rfl (h2 _))
 grind [Qa5,Qbb]
def one1:AV->Bool
 | .any| .agg _| .tup _=>false
 |_=>true
def storeR (A:Ans α) (m:Nat) (x v:AV) (h:Heap) (k:AV->Heap->α):α:=
 match x with
 | .ptr b g off => ifB (one1 v && Nat.beq m 1) (getR h b fun o => (match o with
   |some (.cells g' cs)=>ifB (Nat.beq g' g) (ifB (Nat.ble (Nat.succ off) cs.length) (nthSetR cs off v fun cs=>putBR A h b (.cells g' cs) fun h=>k .any h) A.bad) A.bad
   |_=>A.bad)) (runR A (aStore m x v) h k)
 |_=>runR A (aStore m x v) h k
theorem QhG (A : Ans α) (m : Nat) (x v : AV) (h : Heap) (k : AV -> Heap -> α) : storeR A m x v h k = match (aStore m x v).run h with | some (u, h') => k u h' | none => A.bad := by
  unfold storeR
  split
  · rename_i b g off
    rw[Qad]
    split
    · rename_i h1
      simp only[Bool.and_eq_true]at h1
      obtain⟨h1,h2⟩:=h1
      have:m=1:=by simpa using h2
      subst this
      have hv:v.cells=[v]/\AV.one v=true:=by cases v<;>first|(exact⟨rfl,rfl⟩)|(cases h1)
      rw[Qax]
      simp only[aStore,HM.cells,HM.run]
      cases hb:h.get b with
      |none=>rfl
      | some x =>
        cases x with
        |map g' es=>rfl
        |dead g'=>rfl
        |loop=>rfl
        | cells g' cs =>
          simp only
          rw[Qad,Qad]
          cases hg:Nat.beq g' g with
          |false=>simp[HM.run]
          | true =>
            have:g'=g:=by simpa using hg
            subst this
            simp only[cond_true,if_true,hv.1]
            by_cases hl:off<cs.length
            · rw [if_pos (Nat.ble_eq_true_of_le hl), if_pos ⟨rfl, hl, by simp [hv.2]⟩, QgY, QaC]
              simp only[HM.run]
              have e:Go.AM.putR cs off [v]=cs.set off v:=rfl
              by_cases hb:b<lim
              · have : Nat.blt b lim = true := by simp_all
                grind
              · have : Nat.blt b lim = false := by simp_all [Bool.eq_false_iff]
                grind
            · rw [if_neg (fun h => hl (Nat.le_of_ble_eq_true h)), if_neg (by simp; omega)]
              rfl
    grind [Qa5]
  grind [Qa5]
end
end Go.AM
namespace Go.AM
variable {P:Program}
theorem HRel.turnL {ok:Okc} {c:Ctx ok} {h:Heap} {w:World} (H:HRel c h w) {b g cb:Nat} {r:Loop} {x:Blk} (o:Obj) (hb:b<lim) (hl:Live h b g) (hp:c.ρ b g=some (.loc cb 0)) (hr:w.heap[cb]?=some (.loop r))
  (hg:x.gen=g) (hx:∀c',Evo c w c' (w.putObj cb o)->c'.ρ b g=some (.loc cb 0)->c'.O cb->BRel c' (w.putObj cb o) b x):
  ∃c',Evo c w c' (w.putObj cb o)/\HRel c' (h.set b x) (w.putObj cb o)/\c'.ρ b g=some (.loc cb 0):=by
 subst hg
 have hlt:=Qan hr
 have other:∀k,k≠cb->(w.putObj cb o).heap[k]?=w.heap[k]?:=fun k hk=>World.putObj_heap_other hk
 have hlater:∀y,x.gen<y->c.ρ b y=none:=by
  intro y hy
  obtain⟨z,hz,hzg,_⟩:=hl
  exact H.later b z hz y (by omega)
 have:=H.put (w':=w.putObj cb o) (cb:=cb) (base:=0) hb hlater (.inr hp) (.inr ⟨x.gen,0,hl,hp⟩) rfl rfl rfl (by simp_all) (by simp_all)
  (fun k _ hk=>other k hk) (fun C e fr hc=>by simp_all) (fun E=>hx _ E (by show(if b=b/\x.gen=x.gen then _ else _)=_;simp_all) (.inr rfl))
 exact⟨_,this.1,this.2,by show(if b=b/\x.gen=x.gen then _ else _)=_;simp_all⟩
def upsT:Tmps->List Nat->List AV->Tmps
 |T,p::ps,x::xs=>upsT (up T p x) ps xs
 |T,_,_=>T
theorem QfD {ok:Okc} {c:Ctx ok} {w:World}:∀(ps:List Nat) (xs:List AV) (vs:List Value) (T:Tmps) (t:Array Value),(∀p∈ps,p<t.size)->xs.length=ps.length->VRels c w xs vs->(∀i,VRel c w (lk T i) (t.getD i undef))->
  (∀i,VRel c w (lk (upsT T ps xs) i) (((ps.zip vs).foldl (fun t (p:Nat×Value)=>t.setIfInBounds p.1 p.2) t).getD i undef))/\((ps.zip vs).foldl (fun t (p:Nat×Value)=>t.setIfInBounds p.1 p.2) t).size=t.size
 |[],xs,vs,T,t,_,_,_,ht=>by cases xs<;>exact⟨ht,rfl⟩
 |p::ps,[],_,_,_,_,hl,_,_=>by simp at hl
 | p :: ps, x :: xs, vs, T, t, hp, hl, hv, ht => by
  simp only[VRels]at hv
  obtain⟨v,vs',rfl,h1,h2⟩:=hv
  have hlt:p<t.size:=hp p (by simp)
  obtain⟨k1,k2⟩:=QfD ps xs vs' (up T p x) (t.setIfInBounds p v) (fun q hq=>by simp_all) (by simpa using hl) h2 (fun i=>by
   rw[lk_up]
   by_cases e:i=p
   ·simp_all
   ·rw [if_neg e]
    have:=ht i
    simpa[Array.getElem?_setIfInBounds_ne (fun h=>e h.symm)]using this)
  exact⟨k1,by simp_all⟩
def stOf:SX->LSt
 | .normal=> .ready
 |e=> .done e
def SX.isNormal:SX->Bool
 | .normal=>true
 |_=>false
theorem RSpec.of_W {b g N : Nat} {T : Tmps} {ps : List Nat} {asg body : LCode} {args : List AV} {h h' : Heap} {v : AV} (hb : h.get b = some (.loop g N T ps asg body .ready)) (hl : b < lim) (hlen : args.length = ps.length) (hps : ∀ p ∈ ps, p < N)
    (hw : W P N asg.slim (fun e B => e = .normal /\ ∃ N1 T1 ps1 as1 body1, B.h.get b = some (.loop g N1 T1 ps1 as1 body1 .ready) /\
      W P N body.slim (fun e C => ∃ N2 T2 ps2 as2 body2, C.h.get b = some (.loop g N2 T2 ps2 as2 body2 .busy) /\ v = .bool e.isNormal /\ ∀ x, (C.h.set b (.loop g N2 T2 ps2 as2 body2 (stOf e))).get x = h'.get x)
        ⟨B.T,B.h.set b (.loop g N1 T1 ps1 as1 body1 .busy)⟩)
      ⟨upsT T ps args,h⟩):RSpec P b g args h v h':=by
  intro c w cargs cb H ha hcb
  obtain⟨cb0,r,h1,h2,h3,L⟩:=H.blk b _ hb
  rw[hcb]at h1;cases h1
  have hcs:cargs.size=r.params.size:=by
    have e1:=Qab ha
    have e2:r.params.toList.length=ps.length:=by rw[L.params]
    simp_all
  refine⟨r.fn,_,r.assign,r.body,run_yield h3 hcs,roundIn_of_wpIn trivial ?_⟩
  have hfold:(r.params.zip cargs).foldl (fun tmps (x:Nat×Value)=>tmps.setIfInBounds x.1 x.2) r.tmps=(ps.zip cargs.toList).foldl (fun t (p:Nat×Value)=>t.setIfInBounds p.1 p.2) r.tmps:=by
    rw[<-Array.foldl_toList,Array.toList_zip,L.params]
  obtain⟨ht,hts⟩:=QfD ps args cargs.toList T r.tmps (fun p hp=>by rw[L.size];exact hps p hp) hlen ha L.tmps
  refine hw r.assign L.okA.1 (c.rb 0) ⟨_,[]⟩ w ⟨H.rebase 0,fun i=>?_,?_,Nat.zero_le _⟩ (some cb) (fun e=>by rw[L.okA.2]at e;cases e) _ ?_
  · rw[hfold];exact(ht i).rebase 0
  · rw[hfold,hts,L.size]
  rintro e B c1 a1 w1 ⟨rfl,N1,T1,ps1,as1,body1,hB,hw2⟩ S1 E1
  obtain⟨cb1,r1,g1,g2,g3,L1⟩:=S1.heap.blk b _ hB
  have hcb1:c1.ρ b g=some (.loc cb 0):=E1.rho _ _ _ hcb
  rw[show c1.ρ b g=some (.loc cb1 0) from g1]at hcb1;cases hcb1
  refine⟨_,run_beginRound g3 L1.state,?_⟩
  obtain ⟨c2, E2, H2, hcb2⟩ := S1.heap.turnL (.loop { r1 with state := .busy }) (x := .loop g N1 T1 ps1 as1 body1 .busy) hl ⟨_, hB, rfl, fun k => by simp⟩ g1 g3 rfl (fun c' E' k1 k2 =>
    ⟨cb,_,k1,k2,World.putObj_heap_same (Qan g3),by
      have L':=L1.mono (E'.ext S1.heap.disj)
      exact⟨L'.params,L'.size,L'.tmps,L'.okA,L'.okB,rfl,L'.pend⟩⟩)
  refine hw2 r.body L.okB.1 c2 a1 _ ⟨H2,fun i=>VRel.mono (E2.ext S1.heap.disj) _ _ (S1.tmps i),S1.size,S1.defers.mono E2⟩ (some cb) (fun e=>by rw[L.okB.2]at e;cases e) _ ?_
  rintro e C c3 a3 w3 ⟨N2,T2,ps2,as2,body2,hC,rfl,hh⟩ S3 E3
  obtain⟨cb3,r3,q1,q2,q3,L3⟩:=S3.heap.blk b _ hC
  have hcb3:c3.ρ b g=some (.loc cb 0):=E3.rho _ _ _ hcb2
  rw[show c3.ρ b g=some (.loc cb3 0) from q1]at hcb3;cases hcb3
  have fin:∀(jump:Option Code),jump.isNone=e.isNormal->(stOf e).pend=jump->(stOf e).state=(if jump.isNone then .ready else .done)->
      ∃v w',(Instr.endRound cb jump).run P w3= .ok v w'/\Rets P c w h' (.bool e.isNormal) (.returned v) w':=by
    intro jump j1 j2 j3
    obtain ⟨c4, E4, H4, _⟩ := S3.heap.turnL (.loop { r3 with state := if jump.isNone then .ready else .done, pending := jump }) (x := .loop g N2 T2 ps2 as2 body2 (stOf e)) hl ⟨_, hC, rfl, fun k => by simp⟩ q1 q3 rfl (fun c' E' k1 k2 =>
      ⟨cb,_,k1,k2,World.putObj_heap_same (Qan q3),by
        have L':=L3.mono (E'.ext S3.heap.disj)
        exact⟨L'.params,L'.size,L'.tmps,L'.okA,L'.okB,j3.symm,j2.symm⟩⟩)
    have E:=((E1.trans E2).trans E3).trans E4
    exact⟨_,_,run_endRound jump q3,_,(c4.rb (c.base)),rfl,E.rebase,(Qba hh H4).rebase _,by simp[VRel,j1]⟩
  cases e with
  |normal=>exact fin none rfl rfl rfl
  |exit i=>exact fin (some (.exit i)) rfl rfl rfl
  |ret=>exact fin (some .ret) rfl rfl rfl
def leftQ (Q:SX->St->Prop) (B:St):LSt->Prop
 | .ready=>Q .normal B
 | .busy=>False
 | .done e=>e.isNormal=false/\Q e B
theorem W.rfunc {N : Nat} {Q : SX -> St -> Prop} {A : St} {g : Opd} {ps : List Nat} {asg body : SCode} {f b : Nat} {first cap : List AV} {v : AV} {h2 : Heap} {T2 : Tmps} {N2 : Nat} {ps2 : List Nat} {as2 body2 : LCode} {st : LSt} (las lbody : LCode) (hla : las.slim = asg) (hlb : lbody.slim = body)
    (hg:ev A.T g= .fn f first cap) (hb:A.h.get b=none) (hl:b<lim) (hs:HSpec P f (first++[.yld b 0]++cap) (A.h.set b (.loop 0 N A.T ps las lbody .ready)) v h2)
    (hst:h2.get b=some (.loop 0 N2 T2 ps2 as2 body2 st))
    (hQ:leftQ Q ⟨A.T,h2.set b (.dead 0)⟩ st):W P N (.rfunc g ps N asg body) Q A:=by
  intro code hok c a w S ro hro Q' hQ'
  cases code<;>simp only[okCode,Bool.false_eq_true,Bool.and_eq_true,beq_iff_eq,Bool.not_eq_true']at hok
  rename_i g' ps' asg' body'
  obtain⟨⟨⟨⟨⟨⟨⟨k1,k2⟩,_⟩,_⟩,k3⟩,k4⟩,k5⟩,k6⟩:=hok
  have:=hro rfl
  subst this
  have hg':=Qaa S.tmps k1
  rw[hg]at hg'
  simp only[VRel]at hg'
  obtain⟨x',y',hgv,hx,hy⟩:=hg'
  refine wpIn_rangeFunc fun fn _=>?_
  obtain⟨E0,H0⟩:=S.heap.grow (w':=w.alloc (.deferred (some []))) rfl rfl rfl (by simp) (fun k hk=>Go.RowKit.Below.heap_alloc w _ k hk)
  obtain⟨rec,hrec⟩:∃rec:Loop,rec={state:= .ready,pending:=none,fn,tmps:=a.tmps,params:=ps',assign:=asg',body:=body',defers:=w.heap.size}:=⟨_,rfl⟩
  have hsz1:(w.alloc (.deferred (some []))).heap.size=w.heap.size+1:=by simp
  obtain⟨E1,H1⟩:=H0.put (w':=(w.alloc (.deferred (some []))).alloc (.loop rec)) (b:=b) (cb:=w.heap.size+1) (base:=0) (x:= .loop 0 N A.T ps las lbody .ready) hl (fun y hy=>H0.fresh b hb y) (.inl (H0.fresh b hb _)) (.inl hsz1.symm)
    rfl rfl rfl (by simp) (by simp) (fun k hk _ => Go.RowKit.Below.heap_alloc _ _ k hk) (fun C e fr hc => by simp_all) (fun E =>
      ⟨w.heap.size+1,rec,by show(if b=b/\0=0 then _ else _)=_;simp_all,.inr rfl,by have:=World.alloc_heap_new (w.alloc (.deferred (some []))) (.loop rec);simp_all,by
        subst hrec
        exact⟨k2,S.size,fun i=>VRel.mono (E0.trans E|>.ext S.heap.disj) _ _ (S.tmps i),by rw[hla];exact⟨k5,k3⟩,by rw[hlb];exact⟨k6,k4⟩,rfl,rfl⟩⟩)
  generalize hc1:c.with b (Blk.loop 0 N A.T ps las lbody .ready).gen (.loc (w.heap.size+1) 0) (some (w.heap.size+1))=c1 at E1 H1
  have hρ1:c1.ρ b 0=some (.loc (w.heap.size+1) 0):=by rw[<-hc1];show(if b=b/\0=0 then _ else _)=_;simp_all
  have hO1:∀k,c1.O k->c.O k\/k=w.heap.size+1:=by
    intro k hk;rw[<-hc1]at hk
    rcases hk with hk|hk
    · exact .inl hk
    simp_all
  have hF1:∀k,c1.F k->c.F k:=by intro k hk;rw[<-hc1]at hk;exact hk
  generalize hW1:(w.alloc (.deferred (some []))).alloc (.loop rec)=W1 at E1 H1
  have hD1:W1.heap[w.heap.size]?=some (.deferred (some [])):=by
    grind [Go.RowKit.Below.heap_alloc,World.alloc_heap_new]
  have E01:=E0.trans E1
  have hargs:VRels c1 W1 (first++[.yld b 0]++cap) (x'++ #[Value.func (.yield (w.heap.size+1)) #[] #[]]++y').toList:=by
    have e1:=VRels.mono (E01.ext S.heap.disj) _ _ hx
    have e2:=VRels.mono (E01.ext S.heap.disj) _ _ hy
    have e3:VRels c1 W1 [.yld b 0] [.func (.yield (w.heap.size+1)) #[] #[]]:=by
      simp only[VRels,VRel];simp_all
    grind [Qat]
  refine⟨w.heap.size+1,[{target:= .collected w.heap.size,args:= #[]}],W1,{target:= .fn (.func f) y',args:=x'++ #[.func (.yield (w.heap.size+1)) #[] #[]]},W1,f,x'++ #[.func (.yield (w.heap.size+1)) #[] #[]]++y',W1,?_,?_,fun _ _=>trivial,?_,fun h=>by simp[FW,Fence.wide]at h,?_⟩
  · rw[<-hW1,hrec];exact run_enterLoop_outer _ _ _ _ _
  · simp_all [resolve,Deferred.ofValue,Act.eval]
  · simp only [invoke]
    exact Qcp hs.1 _
  · refine callsFW ((hs.2 c1 W1 _ H1 hargs).mono ?_)
    rintro e w2 ⟨cv,c2,rfl,E2,H2,V2⟩
    obtain⟨cb,r,p1,p2,p3,L⟩:=H2.blk b _ hst
    have hρ2:c2.ρ b 0=some (.loc (w.heap.size+1) 0):=E2.rho _ _ _ hρ1
    rw[show c2.ρ b 0=some (.loc cb 0) from p1]at hρ2;cases hρ2
    have hbusy:r.state≠ .busy:=by
      rw[L.state]
      cases st<;>simp[LSt.state,leftQ]at hQ⊢
    obtain⟨c3,E3,H3,_⟩:=H2.turnL (.loop {r with state:= .exhausted}) (x:= .dead 0) hl ⟨_,hst,rfl,fun k=>by simp⟩ p1 p3 rfl (fun c' _ _ _=>trivial)
    have hel:=run_endLoop (P:=P) p3 hbusy
    generalize w2.putObj (w.heap.size+1) (.loop {r with state:= .exhausted})=W3 at E3 H3 hel
    refine⟨r.pending,W3,hel,?_⟩
    have E:=(E01.trans E2).trans E3
    have hlow:=S.defers.low
    have hD:w.heap.size<W1.heap.size:=Qan hD1
    have notO1:¬c1.O w.heap.size:=fun h=>by
      rcases hO1 _ h with h|h
      · have:=S.heap.inO _ h;omega
      · omega
    have M : Marks c3 W3 ({ target := .collected w.heap.size, args := #[] } :: a.defers) := by
      have notF1:¬c1.F w.heap.size:=fun h=>by have:=S.heap.inF _ (hF1 _ h);omega
      have step:=(E2.trans E3)
      have m1 : Marks c1 W1 ({ target := .collected w.heap.size, args := #[] } :: a.defers) := by
        refine⟨⟨w.heap.size,rfl,by rw[E01.base];exact hlow,notO1,notF1,hD1,fun d' hd' e=>?_⟩,S.defers.mono E01⟩
        have key:∀{ds:List Deferred},Marks c w ds->∀d∈ds,∀D,d.target= .collected D->D<w.heap.size:=by
          intro ds
          induction ds with
          |nil=>intro _ d hd;cases hd
          | cons x xs ih =>
            rintro⟨⟨D0,x1,x2,x3,x4,x5,x6⟩,hr⟩ d hd D e
            rcases List.mem_cons.1 hd with rfl|hd
            · grind
            · grind
        have:=key S.defers d' hd' _ e
        omega
      exact m1.mono step
    have S3 : SRel N c3 ⟨A.T, h2.set b (.dead 0)⟩ { a with defers := { target := .collected w.heap.size, args := #[] } :: a.defers } W3 :=
      ⟨H3,fun i=>VRel.mono (E.ext S.heap.disj) _ _ (S.tmps i),S.size,M⟩
    have hpend:=L.pend
    cases st with
    | ready =>
      rw[show r.pending=none from hpend]
      exact hQ' .normal _ c3 _ _ hQ S3 E
    |busy=>exact hQ.elim
    | done e =>
      rw[show r.pending=some e.toCode from hpend]
      obtain⟨he,hq⟩:=hQ
      cases e with
      |normal=>cases he
      |exit i=>exact wpIn_exit (hQ' (.exit i) _ c3 _ _ hq S3 E)
      |ret=>exact wpIn_ret (hQ' .ret _ c3 _ _ hq S3 E)
end Go.AM
namespace Go.AM
variable {P:Program}
noncomputable section
variable {α:Type}
inductive CM where
 |c (m:CallM)
 |rnd (g:Nat)
 |give (b g:Nat) (xs:List AV)
 |new
 |fr (hB:Heap)
abbrev CallerA (α:Type):=CM->Nat->List AV->Heap->Nat->(AV->Heap->Nat->α)->α
abbrev KcA (α:Type):=SX->Tmps->Heap->Nat->α
def evsK (T:Tmps) (xs:List Opd) (k:List AV->α):α:=
 @List.rec Opd (fun _=>(List AV->α)->α) (fun k=>k []) (fun x _ ih k=>evK T x fun v=>ih fun vs=>k (v::vs)) xs k
theorem QdX (T:Tmps) (xs:List Opd) (k:List AV->α):evsK T xs k=k (evs T xs):=by
 have:∀(xs:List Opd) (k:List AV->α),@List.rec Opd (fun _=>(List AV->α)->α) (fun k=>k []) (fun x _ ih k=>evK T x fun v=>ih fun vs=>k (v::vs)) xs k=k (evs T xs):=by
  intro xs
  induction xs with
  |nil=>intro k;rfl
  |cons x r ih=>
   intro k
   show evK T x (fun v=>@List.rec Opd (fun _=>(List AV->α)->α) (fun k=>k []) (fun x _ ih k=>evK T x fun v=>ih fun vs=>k (v::vs)) r fun vs=>k (v::vs))=_
   rw[Qao];exact ih _
 exact this xs k
def iaddrR (A:Ans α) (arr:Option Nat) (sz:Nat) (x i:AV) (k:AV->α):α:=
 match i with
 | .int _ (.ofNat j) => (match arr with
  |none=>(match x with
   | .sl b g off len s=>ifB (Nat.ble (Nat.succ j) len&&Nat.beq s sz) (fNat (Nat.add off (Nat.mul j sz)) fun o=>k (.ptr b g o)) A.bad
   | .fsl cs len s=>ifB (Nat.ble (Nat.succ j) len&&Nat.beq s sz) (fNat (Nat.mul j sz) fun o=>dropR cs o fun cs=>k (.fptr cs)) A.bad
   |_=>A.bad)
  |some m=>(match x with
   | .ptr b g off=>ifB (Nat.ble (Nat.succ j) m) (fNat (Nat.add off (Nat.mul j sz)) fun o=>k (.ptr b g o)) A.bad
   | .fptr cs=>ifB (Nat.ble (Nat.succ j) m) (fNat (Nat.mul j sz) fun o=>dropR cs o fun cs=>k (.fptr cs)) A.bad
   |_=>A.bad))
 |_=>A.bad
theorem QhH (A:Ans α) (arr:Option Nat) (sz:Nat) (x i:AV) (k:AV->α):iaddrR A arr sz x i k=A.bad\/∃v,aIAddr arr sz x i=some v/\iaddrR A arr sz x i k=k v:=by
 unfold iaddrR
 split
 ·rename_i kd j
  have cond2:∀(len s:Nat),(Nat.ble (Nat.succ j) len&&Nat.beq s sz)=true->((0:Int)<=Int.ofNat j/\Int.ofNat j<(len:Int)/\s=sz):=by
   intro len s h
   simp only[Bool.and_eq_true]at h
   refine⟨Int.natCast_nonneg j,Int.ofNat_lt.2 (Nat.le_of_ble_eq_true h.1),by simpa using h.2⟩
  have cond1:∀(len:Nat),Nat.ble (Nat.succ j) len=true->((0:Int)<=Int.ofNat j/\Int.ofNat j<(len:Int)):=by
   simp_all
  split
  ·split
   ·rw [Qad]; split
    ·simp_all [aIAddr,Qas]
    simp_all
   ·rw [Qad]; split
    ·simp_all [aIAddr,Qas,Qdk]
    simp_all
   simp_all
  ·split
   ·rw [Qad]; split
    ·simp_all [aIAddr,Qas]
    simp_all
   ·rw [Qad]; split
    ·simp_all [aIAddr,Qas,Qdk]
    simp_all
   simp_all
 simp_all
def convR (A:Ans α) (kd:IntKind) (x:AV) (k:AV->α):α:=
 match x with
 | .int _ (.ofNat m)=>ifB (Nat.ble m (hiN kd)) (k (.int kd (.ofNat m))) (optR A (aConv kd x) k)
 |_=>optR A (aConv kd x) k
theorem Qh2 (A:Ans α) (kd:IntKind) (x:AV) (k:AV->α):convR A kd x k=match aConv kd x with|some v=>k v|none=>A.bad:=by
 refine Eq.trans (b:=optR A (aConv kd x) k) ?_ (by cases aConv kd x with|none=>rfl|some v=>exact Qbb v k)
 unfold convR
 split
 ·grind [Qad,Qcy,QdM,Nat.le_of_ble_eq_true,Qay]
 ·rfl
def opR (A:Ans α) (call:CallerA α) (i:Nat) (s:SOp) (T:Tmps) (h:Heap) (n:Nat) (k:AV->Heap->Nat->α):α:=
 match s with
 | .mov x=>evK T x fun v=>k v h n
 | .bin op x y=>evK T x fun a=>evK T y fun b=>binR A op a b fun v=>k v h n
 | .load m x=>evK T x fun a=>loadR A m a h fun v=>k v h n
 | .store m x v=>evK T x fun a=>evK T v fun v=>storeR A m a v h fun u h=>k u h n
 | .iaddr arr sz x j=>evK T x fun a=>evK T j fun j=>iaddrR A arr sz a j fun v=>k v h n
 | .faddr off x=>evK T x fun a=>optR A (aFAddr off a) fun v=>k v h n
 | .conv kd x=>evK T x fun a=>convR A kd a fun v=>k v h n
 | .extract j x=>evK T x fun a=>(match a with
  | .tup vs=>nthR A vs j fun v=>k v h n
  |_=>A.bad)
 | .pick c a b=>evK T c fun c=>(match c with
  | .bool t=>ifB t (evK T a fun v=>k v h n) (evK T b fun v=>k v h n)
  |_=>A.bad)
 | .un .not x=>evK T x fun a=>(match a with
  | .bool t=>ifB t (k (.bool false) h n) (k (.bool true) h n)
  |_=>A.bad)
 | .len 1 x => evK T x fun a => (match a with
  | .sl _ _ _ len _=>k (.int .i64 (.ofNat len)) h n
  | .fsl _ len _=>k (.int .i64 (.ofNat len)) h n
  | .nilsl=>k (.int .i64 (.ofNat 0)) h n
  |_=>runR A (aop i T s) h fun out h2=>(match out with
   | .val v=>fAV v fun v=>k v h2 n
   |_=>A.bad))
 | .call m x args => evK T x fun f => (match f with
  | .fn f first captured=>evsK T args fun asg=>(match m with
   | .heap=>fList (first++asg++captured) fun asg=>call (.c .heap) f asg h n k
   | .pure=>fList (first++asg++captured) fun asg=>call (.c .pure) f asg h n fun v _ n=>k v h n
   | .borrow=>runR A (mapH (frzH 4) (first++asg++captured)) h fun asg h2=>call (.c .borrow) f asg h2 n fun v _ n=>ifB (flatV v) (k v h2 n) A.bad)
  | .yld b g=>(match m with
   | .heap=>evsK T args fun asg=>fList asg fun asg=>call (.rnd g) b asg h n k
   |_=>A.bad)
  |_=>A.bad)
 |s=>runR A (aop i T s) h fun out h2=>(match out with
  | .val v=>fAV v fun v=>k v h2 n
  |_=>A.bad)
theorem QgZ {m:Option Nat} {x v:AV} {h h':Heap} (hm:(aLoad m x).run h=some (v,h')):h'=h:=by
 cases x with
 | ptr b g off =>
  simp only[aLoad]at hm
  obtain⟨cs,_,hm⟩:=Qal hm
  cases m with
  |none=>
   cases hc:cs[off]? with
   |none=>simp[hc,HM.opt,HM.run]at hm
   |some u=>simp only[hc,HM.opt,HM.run,Option.some.injEq,Prod.mk.injEq]at hm;exact hm.2.symm
  |some m=>
   simp only at hm
   split at hm
   ·simp_all [HM.run]
   ·simp[HM.run]at hm
 | fptr cs =>
  simp only[aLoad]at hm
  cases m with
  |none=>
   cases cs with
   |nil=>simp[HM.opt,HM.run]at hm
   |cons u cs=>simp only[HM.opt,List.head?_cons,HM.run,Option.some.injEq,Prod.mk.injEq]at hm;exact hm.2.symm
  |some m=>
   simp only at hm
   split at hm
   ·simp_all [HM.run]
   ·simp[HM.run]at hm
 |_=>simp[aLoad,HM.run]at hm
def stepFP (i:Nat) (s:SOp) (T:Tmps) (h:Heap):FP:=
 match s with
 | .call .heap _ _=>⟨true,[],[]⟩
 |s=>fpOf ((aop i T s).fp h)
def CallOKA (P:Program) (A:Ans α) (call:CallerA α):Prop:=∀(m:CallM) (f:Nat) (args:List AV) (h:Heap) (n:Nat) (k:AV->Heap->Nat->α),A.holds (call (.c m) f args h n k)->
 ∃v h' n',A.holds (k v h' n')/\(m= .heap->HSpec P f args h v h')/\(m≠ .heap->PSpec P f args v)
def RndOK (P:Program) (A:Ans α) (call:CallerA α):Prop:=∀(g b:Nat) (args:List AV) (h:Heap) (n:Nat) (k:AV->Heap->Nat->α),A.holds (call (.rnd g) b args h n k)->
 ∃v h' n',A.holds (k v h' n')/\RSpec P b g args h v h'
section
variable {A:Ans α} (hA:A.OK) {call:CallerA α} (hc:CallOKA P A call) (hrn:RndOK P A call)
include hA hc hrn
theorem Qex {i : Nat} {s : SOp} {T : Tmps} {h : Heap} {n : Nat} {k : AV -> Heap -> Nat -> α} (hx : A.holds (opR A call i s T h n k)) :
  ∃v h1 n',A.holds (k v h1 n')/\StepX P i s T h v h1 (stepFP i s T h):=by
 have lft:∀{s:SOp} {o:Option AV} {v:AV},(∀m x a,s≠ .call m x a)->aop i T s=lift o->o=some v->StepX P i s T h v h (stepFP i s T h):=by
  intro s o v hs e ho
  refine⟨.val v,h,by rw[e,ho];rfl,rfl,rfl,?_⟩
  cases s<;>first|rfl|(exact absurd rfl (hs _ _ _))
 have hvl:∀{s:SOp} {m:HM AV} {v:AV} {h1:Heap},(∀m x a,s≠ .call m x a)->aop i T s=hval m->m.run h=some (v,h1)->StepX P i s T h v h1 (stepFP i s T h):=by
  intro s m v h1 hs e hm
  refine⟨.val v,h1,by grind [run_hval'],rfl,rfl,?_⟩
  cases s<;>first|rfl|(exact absurd rfl (hs _ _ _))
 have dflt:∀{s:SOp},(∀m x a,s≠ .call m x a)->A.holds (runR A (aop i T s) h fun out h2=>(match out with
   | .val v=>fAV v fun v=>k v h2 n
   |_=>A.bad))->∃v h1 n',A.holds (k v h1 n')/\StepX P i s T h v h1 (stepFP i s T h):=by
  intro s hs hx
  rw[Qa5]at hx
  cases hr:(aop i T s).run h with
  |none=>rw[hr]at hx;exact absurd hx hA.bad
  | some r =>
   obtain⟨out,h2⟩:=r
   rw[hr]at hx
   cases out with
   |call m f asg=>exact absurd hx hA.bad
   |round b g asg=>exact absurd hx hA.bad
   |val v=>
    simp only[Qbb]at hx
    refine⟨v,h2,n,hx,.val v,h2,hr,rfl,rfl,?_⟩
    cases s<;>first|rfl|(exact absurd rfl (hs _ _ _))
 unfold opR at hx
 split at hx
 ·rw [Qao] at hx
  exact⟨_,h,n,hx,lft (by simp) (o:=some _) rfl rfl⟩
 ·rw [Qao, Qao, Qin] at hx
  split at hx
  ·rename_i hv;exact⟨_,h,n,hx,lft (by simp) rfl hv⟩
  ·exact absurd hx hA.bad
 ·rw [Qao, QfC] at hx
  split at hx
  ·rename_i v h' hv
   have:h'=h:=QgZ hv
   subst this
   exact⟨v,h',n,hx,hvl (by simp) rfl hv⟩
  ·exact absurd hx hA.bad
 ·rw [Qao, Qao, QhG] at hx
  split at hx
  ·rename_i hv;exact⟨_,_,n,hx,hvl (by simp) rfl hv⟩
  ·exact absurd hx hA.bad
 ·rw [Qao, Qao] at hx
  rcases QhH A _ _ _ _ (fun v=>k v h n)with e|⟨v,hv,e⟩
  ·rw[e]at hx;exact absurd hx hA.bad
  ·rw[e]at hx;exact⟨v,h,n,hx,lft (by simp) rfl hv⟩
 ·rw [Qao, Qay] at hx
  split at hx
  ·rename_i hv;exact⟨_,h,n,hx,lft (by simp) rfl hv⟩
  ·exact absurd hx hA.bad
 ·rw [Qao, Qh2] at hx
  split at hx
  ·rename_i hv;exact⟨_,h,n,hx,lft (by simp) rfl hv⟩
  ·exact absurd hx hA.bad
 ·rw [Qao] at hx
  split at hx
  ·rename_i vs hv
   rw[Qgy]at hx
   split at hx
   ·rename_i hj
    exact⟨_,h,n,hx,lft (by simp) rfl (by rw[hv];exact hj)⟩
   ·exact absurd hx hA.bad
  ·exact absurd hx hA.bad
 ·rw [Qao] at hx
  split at hx
  ·rename_i t hv
   rw[Qad,Qao,Qao]at hx
   split at hx
   ·rename_i ht;exact⟨_,h,n,hx,lft (by simp) rfl (by rw[hv,ht];rfl)⟩
   ·rename_i ht;exact⟨_,h,n,hx,lft (by simp) rfl (by rw[hv];simp at ht;rw[ht];rfl)⟩
  ·exact absurd hx hA.bad
 ·rw [Qao] at hx
  split at hx
  ·rename_i t hv
   rw[Qad]at hx
   split at hx
   ·rename_i ht;exact⟨_,h,n,hx,lft (by simp) rfl (by rw[hv,ht];rfl)⟩
   ·rename_i ht;exact⟨_,h,n,hx,lft (by simp) rfl (by rw[hv];simp at ht;rw[ht];rfl)⟩
  ·exact absurd hx hA.bad
 ·rw [Qao] at hx
  split at hx
  ·rename_i hv;exact⟨_,h,n,hx,hvl (m:= .ret _) (by simp) (by show hval (aLenC 1 (ev T _))=_;rw[hv];rfl) rfl⟩
  ·rename_i hv;exact⟨_,h,n,hx,hvl (m:= .ret _) (by simp) (by show hval (aLenC 1 (ev T _))=_;rw[hv];rfl) rfl⟩
  ·rename_i hv;exact⟨_,h,n,hx,hvl (m:= .ret _) (by simp) (by show hval (aLenC 1 (ev T _))=_;rw[hv];rfl) rfl⟩
  simp_all
 ·rename_i m x args
  rw[Qao]at hx
  split at hx
  ·rename_i f first captured hv
   rw[QdX]at hx
   have e:aop i T (.call m x args)=aCall m (.fn f first captured) (evs T args):=by rw[<-hv];rfl
   cases m with
   |heap=>
    simp only[QaZ]at hx
    obtain⟨v,h1,n',hk,hs,_⟩:=hc _ _ _ _ _ _ hx
    exact⟨v,h1,n',hk,.call .heap f (first++evs T args++captured),h,by rw[e];rfl,.inl ⟨hs rfl,rfl⟩⟩
   |pure=>
    simp only[QaZ]at hx
    obtain⟨v,h1,n',hk,_,hs⟩:=hc _ _ _ _ _ _ hx
    exact⟨v,h,n',hk,.call .pure f (first++evs T args++captured),h,by rw[e];rfl,hs (by simp),rfl,rfl⟩
   | borrow =>
    simp only[Qa5]at hx
    split at hx
    ·rename_i asg h2 hm
     obtain⟨v,h1,n',hk,_,hs⟩:=hc _ _ _ _ _ _ hx
     rw[Qad]at hk
     split at hk
     ·rename_i hf
      refine⟨v,h2,n',hk,.call .borrow f asg,h2,?_,hs (by simp),hf,rfl,rfl⟩
      rw[e]
      have:∀(m:HM (List AV)) (h:Heap) (k:List AV->AOut),m.run h=some (asg,h2)->(m.bind fun asg=> .ret (k asg)).run h=some (k asg,h2):=by
       intro m
       induction m with
       |ret a=>intro h k hm;simp only[HM.run,Option.some.injEq,Prod.mk.injEq]at hm;obtain⟨rfl,rfl⟩:=hm;rfl
       |fail=>intro h k hm;simp[HM.run]at hm
       |look b k' ih=>intro h k hm;exact ih _ h k hm
       |put b x k' ih=>
        intro h k hm
        obtain⟨hl,hm⟩:=Qak hm
        have:=ih _ k hm
        simp only[HM.bind,HM.run]
        have hl':Nat.blt b lim=true:=by simp_all
        rw[hl'];exact this
      exact this _ h (fun asg=> .call .borrow f asg) hm
     ·exact absurd hk hA.bad
    ·exact absurd hx hA.bad
  ·rename_i b g hv
   cases m with
   |heap=>
    rw[QdX]at hx
    simp only[QaZ]at hx
    have e:aop i T (.call .heap x args)=aCall .heap (.yld b g) (evs T args):=by rw[<-hv];rfl
    obtain⟨v,h1,n',hk,hs⟩:=hrn _ _ _ _ _ _ hx
    exact⟨v,h1,n',hk,.round b g (evs T args),h,by rw[e];rfl,hs,rfl⟩
   |pure=>exact absurd hx hA.bad
   |borrow=>exact absurd hx hA.bad
  ·exact absurd hx hA.bad
 simp_all
end
def operR (A:Ans α) (call:CallerA α) (i:Nat) (s:SOper) (T:Tmps) (h:Heap) (n:Nat) (k:AV->Heap->Nat->α):α:=
 match s.guard with
 |none=>opR A call i s.op T h n k
 |some (g,want)=>lkK T g fun x=>(match x with
  | .bool b=>ifB want (ifB b (opR A call i s.op T h n k) (k (.tup []) h n)) (ifB b (k (.tup []) h n) (opR A call i s.op T h n k))
  | .tup []=>k (.tup []) h n
  |_=>A.bad)
def operFP (i:Nat) (s:SOper) (T:Tmps) (h:Heap):FP:=
 match s.guard with
 |none=>stepFP i s.op T h
 |some (g,want)=>match wantedA (lk T g) want with
  |some true=>stepFP i s.op T h
  |_=>⟨false,[],[]⟩
section
variable {A:Ans α} (hA:A.OK) {call:CallerA α} (hc:CallOKA P A call) (hrn:RndOK P A call)
include hA hc hrn
theorem Qc1 {i:Nat} {s:SOper} {T:Tmps} {h:Heap} {n:Nat} {k:AV->Heap->Nat->α} (hx:A.holds (operR A call i s T h n k)):
  ∃v h1 n',A.holds (k v h1 n')/\StepV P i s T h v h1 (operFP i s T h):=by
 unfold operR at hx
 unfold StepV operFP
 cases hg:s.guard with
 |none=>
  rw[hg]at hx
  obtain⟨v,h1,n',hk,hs⟩:=Qex hA hc hrn hx
  exact⟨v,h1,n',hk,hs⟩
 | some p =>
  obtain⟨g,want⟩:=p
  rw[hg]at hx
  simp only[Qb2]at hx⊢
  split at hx
  ·rename_i b hb
   rw[hb]
   have run:A.holds (opR A call i s.op T h n k)->b=want->∃v h1 n',A.holds (k v h1 n')/\∃b',wantedA (.bool b) want=some b'/\if b'=true then StepX P i s.op T h v h1 (match wantedA (.bool b) want with|some true=>stepFP i s.op T h|_=>⟨false,[],[]⟩)else(v= .tup []/\h1=h/\(match wantedA (.bool b) want with|some true=>stepFP i s.op T h|_=>⟨false,[],[]⟩)=⟨false,[],[]⟩):=by
    grind [Qex,wantedA]
   have skip:A.holds (k (.tup []) h n)->b≠want->∃v h1 n',A.holds (k v h1 n')/\∃b',wantedA (.bool b) want=some b'/\if b'=true then StepX P i s.op T h v h1 (match wantedA (.bool b) want with|some true=>stepFP i s.op T h|_=>⟨false,[],[]⟩)else(v= .tup []/\h1=h/\(match wantedA (.bool b) want with|some true=>stepFP i s.op T h|_=>⟨false,[],[]⟩)=⟨false,[],[]⟩):=by
    grind [wantedA]
   simp only[Qad]at hx
   grind
  ·grind [wantedA]
  ·exact absurd hx hA.bad
end
def ownArg:List AV->Option (Nat×Nat)
 |[]=>none
 | .sl b g _ _ _::_=>some (b,g)
 |_::xs=>ownArg xs
def newR (A:Ans α) (call:CallerA α) (f:Nat) (args asg:List AV) (same:Bool) (R:List Nat) (i:Nat) (h:Heap) (n:Nat) (k:AV->Heap->Nat->FP->α):α:=
 ifB (noRefs asg) (call .new f asg h n fun v h' _ => (match v with
  | .sl b g off len sz=>getR h' b fun o=>(match o with
   | some (.cells g' cs) => ifB (Nat.beq g' g && Nat.ble off cs.length && Nat.ble (Nat.succ i) lim) (dropR cs off fun ys => ifB (flatVs ys || (noRefs ys && same)) (getR h i fun o => (match o with
     |none=>putBR A h i (.cells 0 ys) fun h1=>k (.sl i 0 0 len sz) h1 n ⟨false,i::R,[i]⟩
     |some _=>A.bad)) A.bad) A.bad
   |_=>A.bad)
  |v=>runR A (frzH 6 v) h' fun v _=>ifB (noRef v&&(flatV v||same)) (fAV v fun v=>k v h n ⟨false,R,[]⟩) A.bad)) A.bad
mutual
def refsV:AV->List Nat->List Nat
 | .ptr b _ _,acc=>b::acc
 | .sl b _ _ _ _,acc=>b::acc
 | .map b _,acc=>b::acc
 | .yld b _,acc=>b::acc
 | .agg cs,acc| .tup cs,acc| .fptr cs,acc| .fsl cs _ _,acc=>refsL cs acc
 | .fmap ks vs,acc=>refsL ks (refsL vs acc)
 | .fn _ x y,acc=>refsL x (refsL y acc)
 | .ifc _ v,acc=>refsV v acc
 | .typed _ _ v,acc=>refsV v acc
 |_,acc=>acc
termination_by structural x=>x
def refsL:List AV->List Nat->List Nat
 |[],acc=>acc
 |x::xs,acc=>refsV x (refsL xs acc)
termination_by structural x=>x
end
def refsE:List (AV×AV)->List Nat->List Nat
 |[],acc=>acc
 |p::r,acc=>refsV p.1 (refsV p.2 (refsE r acc))
def refsB (o:Option Blk) (acc:List Nat):List Nat:=
 match o with
 |some (.cells _ cs)=>refsL cs acc
 |some (.map _ es)=>refsE es acc
 |_=>acc
def fNats (l:List Nat) (k:List Nat->α):α:=
 @List.rec Nat (fun _=>(List Nat->α)->α) (fun k=>k []) (fun x _ ih k=>fNat x fun x=>ih fun l=>k (x::l)) l k
theorem Qdl (l:List Nat) (k:List Nat->α):fNats l k=k l:=by
 induction l generalizing k with
 |nil=>rfl
 |cons x r ih=>
  show fNat x (fun x=>fNats r fun l=>k (x::l))=_
  rw[Qas,ih]
def closR (h:Heap) (d:Nat) (todo acc:List Nat) (k:List Nat->α):α:=
 @Nat.rec (fun _ => List Nat -> List Nat -> α) (fun _ acc => k acc) (fun _ ih todo acc => match todo with
  |[]=>k acc
  |b::todo=>ifB (hasB acc b) (ih todo acc) (getR h b fun o=>fNats (refsB o todo) fun todo=>ih todo (b::acc))) d todo acc
theorem Qdm (h:Heap):∀(d:Nat) (todo acc:List Nat) (k:List Nat->α),∃B,closR h d todo acc k=k B
 |0,todo,acc,k=>⟨acc,rfl⟩
 |d+1,[],acc,k=>⟨acc,rfl⟩
 | d + 1, b :: todo, acc, k => by
  have e:closR h (d+1) (b::todo) acc k=ifB (hasB acc b) (closR h d todo acc k) (getR h b fun o=>fNats (refsB o todo) fun todo=>closR h d todo (b::acc) k):=rfl
  rw[e,Qad]
  split
  ·exact Qdm h d todo acc k
  ·rw [Qax, Qdl]
   exact Qdm h d _ _ k
def domK (t:Heap) (m o:Nat) (acc:List Nat) (k:List Nat->α):α:=
 @Tr.rec Blk (fun _ => Nat -> Nat -> List Nat -> (List Nat -> α) -> α) (fun _ _ acc k => k acc) (fun _ v _ il ir m o acc k =>
  fNat (Nat.mul 2 m) fun m2=>fNat (Nat.add m o) fun o1=>fNat (Nat.add m2 o) fun o2=>(match v with
   |some _=>il m2 o1 (o::acc) fun acc=>ir m2 o2 acc k
   |none=>il m2 o1 acc fun acc=>ir m2 o2 acc k)) t m o acc k
def domL:Heap->Nat->Nat->List Nat->List Nat
 | .e,_,_,acc=>acc
 | .n l v r,m,o,acc=>domL r (2*m) (2*m+o) (domL l (2*m) (m+o) (match v with|some _=>o::acc|none=>acc))
theorem QdY:∀(t:Heap) (m o:Nat) (acc:List Nat) (k:List Nat->α),domK t m o acc k=k (domL t m o acc)
 | .e,m,o,acc,k=>rfl
 | .n l v r, m, o, acc, k => by
  have e:domK (.n l v r) m o acc k=fNat (Nat.mul 2 m) fun m2=>fNat (Nat.add m o) fun o1=>fNat (Nat.add m2 o) fun o2=>(match v with
   |some _=>domK l m2 o1 (o::acc) fun acc=>domK r m2 o2 acc k
   |none=>domK l m2 o1 acc fun acc=>domK r m2 o2 acc k):=rfl
  rw[e]
  simp only[Qas]
  cases v<;>simp only[QdY l,QdY r,domL]<;>rfl
theorem QbM:∀(t:Heap) (m o:Nat) {acc:List Nat} {b:Nat},b∈acc->b∈domL t m o acc
 | .e,_,_,_,_,h=>h
 | .n l v r,m,o,acc,b,h=>by
  simp only[domL]
  refine QbM r _ _ (QbM l _ _ ?_)
  grind
theorem Qdn:∀(t:Heap) (m o:Nat) (acc:List Nat) (j:Nat),t.get j≠none->m*j+o∈domL t m o acc
 | .e,_,_,_,j,h=>absurd (by simp[Tr.get]) h
 | .n l v r, m, o, acc, j, h => by
  rw[Tr.get_n]at h
  simp only[domL]
  by_cases h0:j=0
  ·subst h0
   rw[if_pos rfl]at h
   refine QbM r _ _ (QbM l _ _ ?_)
   grind
  ·rw [if_neg h0] at h
   by_cases h1:j % 2=1
   ·rw [if_pos h1] at h
    refine QbM r _ _ ?_
    have:=Qdn l (2*m) (m+o) (match v with|some _=>o::acc|none=>acc) (j/2) h
    have e:2*m*(j/2)+(m+o)=m*j+o:=by
     have:j=2*(j/2)+1:=by omega
     grind
    simp_all
   ·rw [if_neg h1] at h
    have:=Qdn r (2*m) (2*m+o) (domL l (2*m) (m+o) (match v with|some _=>o::acc|none=>acc)) (j/2-1) h
    have e:2*m*(j/2-1)+(2*m+o)=m*j+o:=by
     have:j=2*(j/2-1)+2:=by omega
     grind
    simp_all
def overR (A:Ans α) (k1 h:Heap) (D:List Nat) (k:Heap->α):α:=
 @List.rec Nat (fun _ => Heap -> α) (fun h => k h) (fun b _ ih h => getR k1 b fun o => (match o with
  |some x=>putBR A h b x fun h=>ih h
  |none=>ih h)) D h
theorem Qcd {A:Ans α} {k1:Heap}:∀{D:List Nat} {h:Heap} {k:Heap->α},(∀b∈D,b<lim)->overR A k1 h D k=k (over k1 h D)
 |[],h,k,_=>rfl
 | b :: D, h, k, hD => by
  have e:overR A k1 h (b::D) k=getR k1 b fun o=>(match o with
   |some x=>putBR A h b x fun h=>overR A k1 h D k
   |none=>overR A k1 h D k):=rfl
  rw[e,Qax]
  simp only[over]
  cases k1.get b with
  |none=>exact Qcd fun b hb=>hD b (by simp[hb])
  |some x=>
   simp only
   rw[QaC,if_pos (hD b (by simp))]
   exact Qcd fun b hb=>hD b (by simp[hb])
def frR (A:Ans α) (call:CallerA α) (f:Nat) (asg:List AV) (h:Heap) (n:Nat) (k:AV->Heap->Nat->FP->α):α:=
 fNats (refsL asg []) fun todo=>closR h 100000 todo [] fun B=>ifB (allLim B&&inBs B asg&&B.all fun b=>blkIn B (h.get b)) (overR A h .e B fun hB=>call (.fr hB) f asg h n fun v k1 n2=>
  domK k1 1 0 [] fun D=>ifB (allLim D&&(D.all fun b=>hasB B b||(h.get b).isNone)&&(B.all fun b=>hasB D b)&&D.all fun b=>(k1.get b).isSome) (overR A k1 h D fun h1=>fNats (D.filter fun b=> !eqBlk (k1.get b) (h.get b)) fun W=>k v h1 n2 ⟨false,D,W⟩) A.bad) A.bad
def callRG (A:Ans α) (call:CallerA α) (p:Nat) (i:Nat) (x:Opd) (args:List Opd) (T:Tmps) (h:Heap) (n:Nat) (k:AV->Heap->Nat->FP->α):α:=
 evK T x fun f=>(match f with
  | .fn f first captured=>evsK T args fun asg=>fList (first++asg++captured) fun asg=>ifB (noRefs asg) (newR A call f asg asg true [] i h n k) (match p with
   |0=>frR A call f asg h n k
   |_=>runR A (mapH (frzH 4) asg) h fun bsg _=>newR A call f asg bsg false ((mapH (frzH 4) asg).fp h).1 i h n k)
  |_=>A.bad)
def operRG (A:Ans α) (call:CallerA α) (p:Nat) (i:Nat) (s:SOper) (T:Tmps) (h:Heap) (n:Nat) (k:AV->Heap->Nat->FP->α):α:=
 match p,s.op with
 | p + 1, .call .heap x args => (match s.guard with
  |none=>callRG A call p i x args T h n k
  |some (g,want)=>lkK T g fun y=>(match y with
   | .bool b=>ifB want (ifB b (callRG A call p i x args T h n k) (k (.tup []) h n ⟨false,[],[]⟩)) (ifB b (k (.tup []) h n ⟨false,[],[]⟩) (callRG A call p i x args T h n k))
   | .tup []=>k (.tup []) h n ⟨false,[],[]⟩
   |_=>A.bad))
 |_,_=>operR A call i s T h n fun v h1 n=>k v h1 n (operFP i s T h)
def FrOK (P:Program) (A:Ans α) (call:CallerA α):Prop:=∀(hB:Heap) (f:Nat) (args:List AV) (h:Heap) (n:Nat) (k:AV->Heap->Nat->α),
 A.holds (call (.fr hB) f args h n k)->∃v k1 n',A.holds (k v k1 n')/\HSpec P f args hB v k1
def NewOK (P:Program) (A:Ans α) (call:CallerA α):Prop:=∀(f:Nat) (args:List AV) (h:Heap) (n:Nat) (k:AV->Heap->Nat->α),noRefs args=true->
 A.holds (call .new f args h n k)->∃v h' n',A.holds (k v h' n')/\HSpec P f args .e v h'/\∀u hh,(frzH 6 v).run h'=some (u,hh)->noRef u=true->PSpec P f args u
section
variable {A:Ans α} (hA:A.OK) {call:CallerA α}
include hA
theorem QdN (hnw:NewOK P A call) {f:Nat} {args asg:List AV} {same:Bool} {R:List Nat} {i:Nat} {h:Heap} {n:Nat} {k:AV->Heap->Nat->FP->α} (hs:same=true->asg=args)
  (hR:(asg=args/\R=[])\/((mapH (frzH 4) args).run h=some (asg,h)/\R=((mapH (frzH 4) args).fp h).1)) (hx:A.holds (newR A call f args asg same R i h n k)):
  ∃v h1 n' fp,A.holds (k v h1 n' fp)/\NStep P i f args h v h1 fp:=by
 unfold newR at hx
 rw[Qad]at hx
 split at hx
 ·rename_i hn
  obtain⟨v,h',n',hk,hsp,hps⟩:=hnw _ _ _ _ _ hn hx
  have flat:∀u,A.holds (runR A (frzH 6 u) h' fun v _=>ifB (noRef v&&(flatV v||same)) (fAV v fun v=>k v h n ⟨false,R,[]⟩) A.bad)->u=v->∃v h1 n' fp,A.holds (k v h1 n' fp)/\NStep P i f args h v h1 fp:=by
   rintro u hx rfl
   rw[Qa5]at hx
   split at hx
   ·rename_i v2 h2 hz
    rw[Qad]at hx
    split at hx
    ·rename_i hc
     simp only[Bool.and_eq_true,Bool.or_eq_true]at hc
     rw[Qbb]at hx
     exact⟨v2,h,n,_,hx,asg,R,hR,.inr ⟨hps _ _ hz hc.1,hc.2.imp id hs,rfl,rfl⟩⟩
    ·exact absurd hx hA.bad
   ·exact absurd hx hA.bad
  split at hk
  ·rename_i b g off len sz
   rw[Qax]at hk
   split at hk
   ·rename_i g' cs hb
    rw[Qad]at hk
    split at hk
    ·rename_i hc
     simp only[Bool.and_eq_true]at hc
     obtain⟨⟨c1,c2⟩,c3⟩:=hc
     have hg:g'=g:=by simpa using c1
     subst hg
     have hl:i<lim:=Nat.le_of_ble_eq_true c3
     rw[Qdk,Qad]at hk
     split at hk
     ·rename_i hc2
      simp only[Bool.or_eq_true,Bool.and_eq_true]at hc2
      rw[Qax]at hk
      split at hk
      ·rename_i hi
       rw[QaC,if_pos hl]at hk
       exact⟨_,_,_,_,hk,asg,R,hR,.inl ⟨cs.drop off,len,sz,⟨hsp.1,hn,b,g',off,cs,h',rfl,Nat.le_of_ble_eq_true c2,hb,hsp⟩,hc2.imp id (fun h=>⟨h.1,hs h.2⟩),hl,hi,rfl,rfl,rfl⟩⟩
      ·exact absurd hk hA.bad
     ·exact absurd hk hA.bad
    ·exact absurd hk hA.bad
   ·exact absurd hk hA.bad
  grind
 ·exact absurd hx hA.bad
end
section
variable {A:Ans α} (hA:A.OK) {call:CallerA α}
include hA
theorem QhI (hfr:FrOK P A call) {f:Nat} {asg:List AV} {h:Heap} {n:Nat} {k:AV->Heap->Nat->FP->α} (hx:A.holds (frR A call f asg h n k)):
  ∃v h1 n' fp,A.holds (k v h1 n' fp)/\FStep P f asg h v h1 fp:=by
 unfold frR at hx
 rw[Qdl]at hx
 obtain⟨B,e⟩:=Qdm (α:=α) h 100000 (refsL asg []) [] (fun B=>ifB (allLim B&&inBs B asg&&B.all fun b=>blkIn B (h.get b)) (overR A h .e B fun hB=>call (.fr hB) f asg h n fun v k1 n2=>
  domK k1 1 0 [] fun D=>ifB (allLim D&&(D.all fun b=>hasB B b||(h.get b).isNone)&&(B.all fun b=>hasB D b)&&D.all fun b=>(k1.get b).isSome) (overR A k1 h D fun h1=>fNats (D.filter fun b=> !eqBlk (k1.get b) (h.get b)) fun W=>k v h1 n2 ⟨false,D,W⟩) A.bad) A.bad)
 rw[e,Qad]at hx
 clear e
 split at hx
 ·rename_i hc
  simp only[Bool.and_eq_true]at hc
  obtain⟨⟨c1,c2⟩,c3⟩:=hc
  rw[Qcd fun b hb=>Qbr c1 hb]at hx
  obtain⟨v,k1,n',hk,hs⟩:=hfr _ _ _ _ _ _ hx
  rw[QdY,Qad]at hk
  split at hk
  ·rename_i hd
   simp only[Bool.and_eq_true]at hd
   obtain⟨⟨⟨d1,d2⟩,d3⟩,d4⟩:=hd
   rw[Qcd fun b hb=>Qbr d1 hb,Qdl]at hk
   refine⟨v,_,n',_,hk,B,domL k1 1 0 [],_,k1,c1,d1,c2,fun b hb=>List.all_eq_true.1 c3 b hb,hs,fun b hb e=>?_,fun b hb=>?_,fun b hb=>Qbj.1 (List.all_eq_true.1 d3 b hb),fun b hb hB=>?_,fun b hb hW=>?_,fun b hb=>(List.mem_filter.1 hb).1,rfl,rfl⟩
   ·grind
   ·have := Qdn k1 1 0 [] b hb
    simp_all
   ·have := List.all_eq_true.1 d2 b hb
    simp_all [Qbj]
   grind [QhW]
  ·exact absurd hk hA.bad
 ·exact absurd hx hA.bad
end
section
variable {A:Ans α} (hA:A.OK) {call:CallerA α} (hc:CallOKA P A call) (hrn:RndOK P A call) (hgv:FrOK P A call) (hnw:NewOK P A call)
include hA hc hrn hgv hnw
theorem QcB {p:Nat} {i:Nat} {x:Opd} {args:List Opd} {T:Tmps} {h:Heap} {n:Nat} {k:AV->Heap->Nat->FP->α} (hx:A.holds (callRG A call p i x args T h n k)):
  ∃v h1 n' f,A.holds (k v h1 n' f)/\StepX P i (.call .heap x args) T h v h1 f:=by
 unfold callRG at hx
 rw[Qao]at hx
 split at hx
 ·rename_i f first captured hv
  rw[QdX,QaZ,Qad]at hx
  have e:aop i T (.call .heap x args)=aCall .heap (ev T x) (evs T args):=rfl
  have hrun:(aop i T (.call .heap x args)).run h=some (.call .heap f (first++evs T args++captured),h):=by rw[e,hv];rfl
  have step:∀{v:AV} {h1:Heap} {fp:FP},NStep P i f (first++evs T args++captured) h v h1 fp->StepX P i (.call .heap x args) T h v h1 fp:=by
   intro v h1 fp hN
   exact⟨.call .heap f (first++evs T args++captured),h,hrun,.inr (.inr (.inl hN))⟩
  split at hx
  ·obtain ⟨v, h1, n', fp, hk, hN⟩ := QdN hA hnw (fun _ => rfl) (.inl ⟨rfl, rfl⟩) hx
   grind
  ·split at hx
   ·obtain ⟨v, h1, n', fp, hk, hN⟩ := QhI hA hgv hx
    exact⟨v,h1,n',fp,hk,.call .heap f (first++evs T args++captured),h,hrun,.inr (.inr (.inr hN))⟩
   ·rw [Qa5] at hx
    split at hx
    ·rename_i bsg h2 hm
     have:h2=h:=HM.Qhf _ (Qa3 (QbD 4) _) hm
     subst this
     obtain⟨v,h1,n',fp,hk,hN⟩:=QdN hA hnw (fun e=>by cases e) (.inr ⟨hm,rfl⟩) hx
     grind
    ·exact absurd hx hA.bad
 ·exact absurd hx hA.bad
theorem QfE {p:Nat} {i:Nat} {s:SOper} {T:Tmps} {h:Heap} {n:Nat} {k:AV->Heap->Nat->FP->α} (hx:A.holds (operRG A call p i s T h n k)):
  ∃v h1 n' f,A.holds (k v h1 n' f)/\StepV P i s T h v h1 f:=by
 have dflt:A.holds (operR A call i s T h n fun v h1 n=>k v h1 n (operFP i s T h))->∃v h1 n' f,A.holds (k v h1 n' f)/\StepV P i s T h v h1 f:=by
  grind [Qc1]
 unfold operRG at hx
 split at hx
 ·rename_i p x args ho
  unfold StepV
  cases hg:s.guard with
  |none=>
   rw[hg]at hx
   simp only at hx⊢
   rw[ho]
   exact QcB hA hc hrn hgv hnw hx
  | some q =>
   obtain⟨g,want⟩:=q
   rw[hg]at hx
   simp only[Qb2]at hx⊢
   rw[ho]
   split at hx
   ·rename_i b hb
    rw[hb]
    have run:A.holds (callRG A call p i x args T h n k)->b=want->∃v h1 n' f,A.holds (k v h1 n' f)/\∃b',wantedA (.bool b) want=some b'/\if b'=true then StepX P i (.call .heap x args) T h v h1 f else(v= .tup []/\h1=h/\f=⟨false,[],[]⟩):=by
     intro hx2 e
     obtain⟨v,h1,n',f,hk,hs⟩:=QcB hA hc hrn hgv hnw hx2
     subst e
     exact⟨v,h1,n',f,hk,true,by simp[wantedA],by simpa using hs⟩
    have skip:A.holds (k (.tup []) h n ⟨false,[],[]⟩)->b≠want->∃v h1 n' f,A.holds (k v h1 n' f)/\∃b',wantedA (.bool b) want=some b'/\if b'=true then StepX P i (.call .heap x args) T h v h1 f else(v= .tup []/\h1=h/\f=⟨false,[],[]⟩):=by
     intro hx2 e
     have e':(b==want)=false:=by simpa using e
     exact⟨.tup [],h,n,_,hx2,false,by simp[wantedA,e'],by simp⟩
    simp only[Qad]at hx
    grind
   ·rename_i hb
    rw[hb]
    exact⟨.tup [],h,n,_,hx,false,by simp[wantedA],by simp⟩
   ·exact absurd hx hA.bad
 simp_all
end
def opsR (A:Ans α) (call:CallerA α) (ops:List FOp) (j:Nat) (T:Tmps) (h:Heap) (n:Nat) (k:Tmps->Heap->Nat->α):α:=
 @List.rec FOp (fun _ => Nat -> Tmps -> Heap -> Nat -> α) (fun _ T h n => k T h n)
  (fun s _ ih j T h n=>operR A call j s.o T h n fun v h n=>putS s.nw T s.o.dst v fun T=>fNat (Nat.succ j) fun j=>ih j T h n) ops j T h n
def pmark (ps:List (Nat×Nat)) (i:Nat):Nat:=
 ifB (ps.any fun p=>Nat.beq p.1 i&&Nat.beq p.2 999999) 2 (ifB (ps.any fun p=>Nat.beq p.1 i||Nat.beq p.2 i) 1 0)
def opsRF (A:Ans α) (call:CallerA α) (ps:List (Nat×Nat)) (ops:List FOp) (i j:Nat) (T:Tmps) (h:Heap) (n:Nat) (k:List FP->Tmps->Heap->Nat->α):α:=
 @List.rec FOp (fun _ => Nat -> Nat -> Tmps -> Heap -> Nat -> (List FP -> Tmps -> Heap -> Nat -> α) -> α) (fun _ _ T h n k => k [] T h n)
  (fun s _ ih i j T h n k=>operRG A call (pmark ps i) j s.o T h n fun v h1 n f=>putS s.nw T s.o.dst v fun T1=>fNat (Nat.succ j) fun j1=>fNat (Nat.succ i) fun i1=>ih i1 j1 T1 h1 n fun fs=>k (f::fs)) ops i j T h n k
theorem Qc2 {i:Nat} {s:SOp} {T T':Tmps} {h:Heap} {v:AV} {h1:Heap} {f:FP} (e:∀j,lk T j=lk T' j) (hs:StepX P i s T h v h1 f):StepX P i s T' h v h1 f:=by
 grind [StepX,Qd9]
theorem QbV {i:Nat} {s:SOper} {T T':Tmps} {h:Heap} {v:AV} {h1:Heap} {f:FP} (e:∀j,lk T j=lk T' j) (hs:StepV P i s T h v h1 f):StepV P i s T' h v h1 f:=by
 unfold StepV at hs⊢
 split
 ·grind [Qc2]
 ·rename_i g want hg
  rw[hg]at hs
  obtain⟨b,hb,h2⟩:=hs
  refine⟨b,by simp_all,?_⟩
  split
  ·rename_i hb';rw[if_pos hb']at h2;exact Qc2 e h2
  simp_all
section
variable {A:Ans α} (hA:A.OK) {call:CallerA α} (hc:CallOKA P A call) (hrn:RndOK P A call)
include hA hc hrn
theorem Qbu {base:Nat} {k:Tmps->Heap->Nat->α}:∀(r:List FOp) (i:Nat) (T T0:Tmps) (h:Heap) (n:Nat),(∀j,lk T j=lk T0 j)->A.holds (opsR A call r (base+i) T h n k)->
  ∃T' T0' h' n' fs,A.holds (k T' h' n')/\(∀j,lk T' j=lk T0' j)/\RunF P base i (r.map FOp.o) fs ⟨T0,h⟩ ⟨T0',h'⟩
 |[],i,T,T0,h,n,e,hx=>⟨T,T0,h,n,[],hx,e,rfl,rfl⟩
 | s :: r, i, T, T0, h, n, e, hx => by
  have hx:A.holds (operR A call (base+i) s.o T h n fun v h n=>putS s.nw T s.o.dst v fun T=>fNat (Nat.succ (base+i)) fun j=>opsR A call r j T h n k):=hx
  obtain⟨v,h1,n1,hk,hs⟩:=Qc1 hA hc hrn hx
  obtain⟨T1,hT1,e1⟩:=Qew s.nw T s.o.dst v (fun T=>fNat (Nat.succ (base+i)) fun j=>opsR A call r j T h1 n1 k)
  rw[hT1,Qas]at hk
  have e2:∀j,lk T1 j=lk (putD T0 s.o.dst v) j:=by
   simp_all [QaO]
  obtain⟨T',T0',h',n',fs,h2,h3,h4⟩:=Qbu (base:=base) r (i+1) T1 (putD T0 s.o.dst v) h1 n1 e2 hk
  exact⟨T',T0',h',n',_::fs,h2,h3,_,fs,v,h1,rfl,QbV e hs,h4⟩
omit hc hrn in
theorem Qc3 (hc:CallOKA P A call) (hrn:RndOK P A call) (hgv:FrOK P A call) (hnw:NewOK P A call) {ps:List (Nat×Nat)} {base:Nat}:∀(r:List FOp) (i:Nat) (T T0:Tmps) (h:Heap) (n:Nat) (k:List FP->Tmps->Heap->Nat->α),(∀j,lk T j=lk T0 j)->A.holds (opsRF A call ps r i (base+i) T h n k)->
  ∃T' T0' h' n' fs,A.holds (k fs T' h' n')/\(∀j,lk T' j=lk T0' j)/\RunF P base i (r.map FOp.o) fs ⟨T0,h⟩ ⟨T0',h'⟩
 |[],i,T,T0,h,n,k,e,hx=>⟨T,T0,h,n,[],hx,e,rfl,rfl⟩
 | s :: r, i, T, T0, h, n, k, e, hx => by
  have hx:A.holds (operRG A call (pmark ps i) (base+i) s.o T h n fun v h1 n f=>putS s.nw T s.o.dst v fun T1=>fNat (Nat.succ (base+i)) fun j1=>fNat (Nat.succ i) fun i1=>opsRF A call ps r i1 j1 T1 h1 n fun fs=>k (f::fs)):=hx
  obtain⟨v,h1,n1,f,hk,hs⟩:=QfE hA hc hrn hgv hnw hx
  obtain⟨T1,hT1,e1⟩:=Qew s.nw T s.o.dst v (fun T1=>fNat (Nat.succ (base+i)) fun j1=>fNat (Nat.succ i) fun i1=>opsRF A call ps r i1 j1 T1 h1 n1 fun fs=>k (f::fs))
  rw[hT1,Qas,Qas]at hk
  have e2:∀j,lk T1 j=lk (putD T0 s.o.dst v) j:=by
   simp_all [QaO]
  obtain⟨T',T0',h',n',fs,h2,h3,h4⟩:=Qc3 hc hrn hgv hnw (base:=base) r (i+1) T1 (putD T0 s.o.dst v) h1 n1 _ e2 hk
  exact⟨T',T0',h',n',_::fs,h2,h3,_,fs,v,h1,rfl,QbV e hs,h4⟩
end
theorem W.regionS {N:Nat} {Q:SX->St->Prop} {A C:St} {sops:List SOper} {pairs:List (Nat×Nat)} {dead:List Nat} (base:Nat) (fs:List FP) (hr:RunF P base 0 sops fs A C)
  (hp:(pairs.all fun p=>(fs.getD p.1 ⟨false,[],[]⟩).apart (fs.getD p.2 ⟨false,[],[]⟩))=true) {L:Tmps} (hL:Sub L C.T) (hQ:Q .normal ⟨L,C.h⟩):W P N (.region sops pairs dead) Q A:=by
 have h1:=RunF.to_L (P:=P) (base:=base) (sops:=sops) sops [] fs [] A C (by simp) rfl hr
 intro code hok c a w S ro hro Q' hQ'
 cases code<;>simp only[okCode,Bool.false_eq_true]at hok
 refine Qcu hok (base:=base) (fpf:=fun i=>fs.getD i ⟨false,[],[]⟩) (by simpa[List.range_eq_range']using h1) ?_ S fun c' a' w' S' E'=>hQ' .normal _ c' a' w' hQ ?_ E'
 ·simp_all
 ·refine ⟨S'.heap, fun i => ?_, S'.size, S'.defers⟩
  rcases hL i with e|e
  ·simp_all [VRel]
  ·show VRel c' w' (lk L i) _
   rw[e];exact S'.tmps i
def argR (i:Nat) (l:List AV) (k:Tmps->α):α:=
 @List.rec AV (fun _=>Nat->(Tmps->α)->α) (fun _ k=>k []) (fun x _ ih i k=>fNat (Nat.succ i) fun j=>ih j fun r=>k ((i,x)::r)) l i k
theorem QdZ (i:Nat) (l:List AV) (k:Tmps->α):argR i l k=k (argT i l):=by
 induction l generalizing i k with
 |nil=>rfl
 |cons x r ih=>
  show fNat (Nat.succ i) (fun j=>argR j r fun r=>k ((i,x)::r))=_
  rw[Qas,ih];rfl
def resR (A:Ans α) (T:Tmps) (h:Heap) (l:List SRes) (k:List AV->α):α:=
 @List.rec SRes (fun _ => (List AV -> α) -> α) (fun k => k []) (fun x _ ih k => (match x with
  | .tmp t=>lkK T t fun v=>ih fun vs=>k (v::vs)
  | .cell a m=>lkK T a fun p=>loadR A m p h fun v=>ih fun vs=>k (v::vs))) l k
theorem Qd0 (A:Ans α) (T:Tmps) (h:Heap) (l:List SRes) (k:List AV->α):resR A T h l k=match resV T h l with|some vs=>k vs|none=>A.bad:=by
 have:∀(l:List SRes) (k:List AV->α),resR A T h l k=match resV T h l with|some vs=>k vs|none=>A.bad:=by
  intro l
  induction l with
  |nil=>intro k;rfl
  | cons x r ih =>
   intro k
   cases x with
   |tmp t=>
    show lkK T t (fun v=>resR A T h r fun vs=>k (v::vs))=_
    rw[Qb2,ih]
    simp only[resV]
    cases resV T h r<;>rfl
   | cell a m =>
    show lkK T a (fun p=>loadR A m p h fun v=>resR A T h r fun vs=>k (v::vs))=_
    rw[Qb2,QfC]
    simp only[resV]
    cases(aLoad m (lk T a)).run h with
    |none=>rfl
    |some q=>
     obtain⟨v,h'⟩:=q
     simp only
     rw[ih]
     cases resV T h r<;>rfl
 exact this l k
abbrev Orc:=Nat->Option (List AV×AV)
def bodyR (A:Ans α) (sf:FFn) (run:FCode->Tmps->Heap->Nat->KcA α->α) (args:List AV) (h:Heap) (n:Nat) (k:AV->Heap->Nat->α):α:=
 argR 0 args fun T=>run sf.body T h n fun e T h n=>(match e with
  | .exit _=>A.bad
  |_=>resR A T h sf.res fun vs=>fAV (resOf vs) fun v=>k v h n)
def upsR (T:Tmps) (ps:List Nat) (xs:List AV) (k:Tmps->α):α:=
 match ps,xs with
 |p::ps,x::xs=>upR T p x fun T=>upsR T ps xs k
 |_,_=>k T
theorem Qgz:∀(ps:List Nat) (xs:List AV) (T:Tmps) (k:Tmps->α),upsR T ps xs k=k (upsT T ps xs)
 |[],xs,T,k=>by cases xs<;>rfl
 |p::ps,[],T,k=>rfl
 |p::ps,x::xs,T,k=>by
  show upR T p x (fun T=>upsR T ps xs k)=_
  rw[Qbs,Qgz ps xs];rfl
def rndR (A : Ans α) (run : FCode -> Tmps -> Heap -> Nat -> KcA α -> α) (g b : Nat) (args : List AV) (h : Heap) (n : Nat) (k : AV -> Heap -> Nat -> α) : α :=
 getR h b fun o => (match o with
  | some (.loop g' N T ps (.f asg) (.f body) .ready) => ifB (Nat.beq g' g && Nat.ble (Nat.succ b) lim && Nat.beq args.length ps.length && ps.all fun p => Nat.ble (Nat.succ p) N)
    (upsR T ps args fun T1 => run asg T1 h n fun e T2 h2 n2 => (match e with
     | .normal => getR h2 b fun o2 => (match o2 with
      |some (.loop g2 N2 T2' ps2 as2 body2 .ready)=>ifB (Nat.beq g2 g) (putBR A h2 b (.loop g N2 T2' ps2 as2 body2 .busy) fun h3=>run body T2 h3 n2 fun e T4 h4 n4=>getR h4 b fun o4=>(match o4 with
       | some (.loop g4 N4 T4' ps4 as4 body4 .busy) => ifB (Nat.beq g4 g) (match e with
         | .normal=>putBR A h4 b (.loop g N4 T4' ps4 as4 body4 .ready) fun h5=>k (.bool true) h5 n4
         |e=>putBR A h4 b (.loop g N4 T4' ps4 as4 body4 (.done e)) fun h5=>k (.bool false) h5 n4) A.bad
       |_=>A.bad)) A.bad
      |_=>A.bad)
     |_=>A.bad)) A.bad
  |_=>A.bad)
def unRoom (v:AV):AV:=match v with
 | .typed _ (_+1) (.sl b g off len sz)=> .sl b g off len sz
 |v=>v
theorem HSpec.unRoom {f:Nat} {args:List AV} {h h':Heap} {v:AV} (hs:HSpec P f args h v h'):HSpec P f args h (unRoom v) h':=by
 refine⟨hs.1,fun c w cargs H ha=>(hs.2 c w cargs H ha).mono ?_⟩
 rintro e w' ⟨cv,c',he,E,H',V⟩
 refine⟨cv,c',he,E,H',?_⟩
 unfold Go.AM.unRoom
 split
 ·simp only [VRel] at V
  simpa only[VRel]using V.2
 ·exact V
def callR (A : Ans α) (orc : Orc) (fns : Nat -> Option FFn) (run : FCode -> Tmps -> Heap -> Nat -> KcA α -> α) : CallerA α := fun cm f args h n k =>
 match cm with
 | .rnd g=>rndR A run g f args h n k
 | .new => match orc f with
  |some _=>A.bad
  |none=>match fns f with
   |none=>A.bad
   |some sf=>ifB (Nat.ble args.length sf.n) (bodyR A sf run args .e 64 k) A.bad
 | .fr hB => match orc f with
  |some _=>A.bad
  |none=>match fns f with
   |none=>A.bad
   |some sf=>ifB (Nat.ble args.length sf.n) (bodyR A sf run args hB n fun v h n=>k (unRoom v) h n) A.bad
 | .give b g xs => match orc f with
  |some _=>A.bad
  |none=>match fns f with
   |none=>A.bad
   |some sf=>ifB (Nat.ble args.length sf.n) (bodyR A sf run args (one b (.cells g xs)) n fun v h' _=>runR A (frzH 6 v) h' fun v _=>ifB (noRef v) (fAV v fun v=>k v h n) A.bad) A.bad
 | .c m => match orc f with
  |some (asg,v)=>(match m with
   | .heap=>A.bad
   |_=>A.asm args asg (k v h n))
  | none => match fns f with
   |none=>A.bad
   |some sf=>ifB (Nat.ble args.length sf.n) (match m with
    | .heap=>bodyR A sf run args h n fun v h n=>k (unRoom v) h n
    |_=>ifB (noRefs args) (bodyR A sf run args .e 64 fun v h' _=>runR A (frzH 6 v) h' fun v _=>ifB (noRef v) (fAV v fun v=>k v h n) A.bad) A.bad) A.bad
theorem W.QfF {N:Nat} {sc:SCode} {e0:SX} {T':Tmps} {h':Heap} {A:St} (h:W P N sc (fun e B=>e=e0/\B.h=h'/\Sub T' B.T) A):W P N sc (fun e B=>e=e0/\B=⟨T',h'⟩) A:=by
 intro code hok c a w S ro hro Q' hQ
 refine h code hok c a w S ro hro Q' ?_
 rintro e B c' a' w' ⟨rfl,rfl,hs⟩ S' E'
 refine hQ e ⟨T',B.h⟩ c' a' w' ⟨rfl,rfl⟩ ⟨S'.heap,fun i=>?_,S'.size,S'.defers⟩ E'
 rcases hs i with e|e
 ·simp_all [VRel]
 ·show VRel c' w' (lk T' i) _
  rw[e];exact S'.tmps i
def ml1 (e:SX) (b1 b2:Nat) (J:Prop) (X:SX->Prop):Prop:=
 match e with
 | .normal=>J
 | .exit j=>if j=b2 then J else if j=b1 then X .normal else X (.exit j)
 | .ret=>X .ret
theorem RunF.congr {base:Nat}:∀{r:List SOper} {i:Nat} {fs:List FP} {T T':Tmps} {h:Heap} {C:St},RunF P base i r fs ⟨T,h⟩ C->(∀j,lk T j=lk T' j)->
  ∃D:St,RunF P base i r fs ⟨T',h⟩ D/\D.h=C.h/\∀j,lk C.T j=lk D.T j
 |[],i,fs,T,T',h,C,hr,e=>by
  obtain⟨rfl,rfl⟩:=hr
  exact⟨⟨T',h⟩,⟨rfl,rfl⟩,rfl,e⟩
 |s::r,i,fs,T,T',h,C,hr,e=>by
  obtain⟨f,fs',v,h1,rfl,hs,hr⟩:=hr
  obtain⟨D,hD,e1,e2⟩:=RunF.congr hr (T':=putD T' s.dst v) (fun j=>by grind [QaO])
  exact⟨D,⟨f,fs',v,h1,rfl,QbV e hs,hD⟩,e1,e2⟩
theorem QaP {X Y:Tmps} {i:Nat} {v:AV} (h:∀j,lk X j=lk Y j):∀j,lk (up X i v) j=lk (up Y i v) j:=by
 simp_all [lk_up]
def mlEnd (A:Ans α) (it nx ok n mb mg:Nat) (T:Tmps) (h:Heap) (k:Tmps->α):α:=
 lkK T it fun p=>(match p with
  | .ptr a 0 0=>ifB (Nat.beq a n) (getR h mb fun o=>(match o with
   |some (.map g es)=>ifB (Nat.beq g mg&&Nat.beq es.length 1) (upR T nx .any fun T=>upR T ok (.bool false) fun T=>k T) A.bad
   |_=>A.bad)) A.bad
  |_=>A.bad)
theorem Qf6 {A:Ans α} (hA:A.OK) {it nx ok n mb mg:Nat} {T:Tmps} {h:Heap} {k:Tmps->α} (hx:A.holds (mlEnd A it nx ok n mb mg T h k)):
  lk T it= .ptr n 0 0/\(∃es,h.get mb=some (.map mg es)/\es.length=1)/\A.holds (k (up (up T nx .any) ok (.bool false))):=by
 unfold mlEnd at hx
 rw[Qb2]at hx
 split at hx
 ·rename_i a hp
  rw[Qad]at hx
  split at hx
  ·rename_i ha
   have:a=n:=by simpa using ha
   subst this
   rw[Qax]at hx
   split at hx
   ·rename_i g es hg
    rw[Qad]at hx
    split at hx
    ·simp_all [Qbs]
    ·exact absurd hx hA.bad
   ·exact absurd hx hA.bad
  ·exact absurd hx hA.bad
 ·exact absurd hx hA.bad
def exR (A : Ans α) (orc : Orc) (fns : Nat -> Option FFn) (d : Nat) : FCode -> Tmps -> Heap -> Nat -> KcA α -> α :=
 @Nat.rec (fun _ => FCode -> Tmps -> Heap -> Nat -> KcA α -> α) (fun _ _ _ _ _ => A.bad) (fun _ ih c T h n k =>
  match c with
  | .skip=>k .normal T h n
  | .ret=>k .ret T h n
  | .exit i=>k (.exit i) T h n
  | .bad=>A.bad
  | .region ops [] dead=>opsR A (callR A orc fns ih) ops n T h (Nat.add n 64) fun T h n=>rmR dead T fun T=>fNat n fun n=>k .normal T h n
  | .region ops (p :: ps) dead => opsRF A (callR A orc fns ih) (p :: ps) ops 0 n T h (Nat.add n 64) fun fs T h n =>
    ifB ((p::ps).all fun p=>(fs.getD p.1 ⟨false,[],[]⟩).apart (fs.getD p.2 ⟨false,[],[]⟩)) (rmR dead T fun T=>fNat n fun n=>k .normal T h n) A.bad
  | .seq a b=>ih a T h n fun e T h n=>(match e with
   | .normal=>ih b T h n k
   |e=>k e T h n)
  | .cond x a b=>evK T x fun v=>(match v with
   | .bool t=>ifB t (ih a T h n k) (ih b T h n k)
   |_=>A.bad)
  | .block i b=>ih b T h n fun e T h n=>(match e with
   | .exit j=>ifB (Nat.beq j i) (k .normal T h n) (k (.exit j) T h n)
   |e=>k e T h n)
  | .rfunc g ps N asg body => evK T g fun v => (match v with
   | .fn f first cap => getR h n fun o => (match o with
    | none => putBR A h n (.loop 0 N T ps (.f asg) (.f body) .ready) fun h1 => fList (first ++ [.yld n 0] ++ cap) fun args => callR A orc fns ih (.c .heap) f args h1 (Nat.succ n) fun _ h2 n2 => getR h2 n fun o2 => (match o2 with
     |some (.loop 0 _ _ _ _ _ st)=>putBR A h2 n (.dead 0) fun h3=>(match st with
      | .ready=>k .normal T h3 n2
      | .busy=>A.bad
      | .done .normal=>A.bad
      | .done e=>k e T h3 n2)
     |_=>A.bad)
    |some _=>A.bad)
   |_=>A.bad)
  | .mloop pre x it nx ok en b1 b2 rest body => opsR A (callR A orc fns ih) pre n T h (Nat.add n 64) fun T h n => evK T x fun v => (match v with
   | .map mb mg => getR h mb fun o => (match o with
    | some (.map g es) => ifB (Nat.beq g mg) (getR h n fun o => (match o with
     |none=>putBR A h n (.dead 0) fun h=>upR T it (.ptr n 0 0) fun T=>upR T nx .any fun T=>(match es with
      |[]=>upR T ok (.bool false) fun T=>k .normal T h (Nat.succ n)
      | [(kk, vv)] => upR T ok (.bool true) fun T => upR T en (.tup [kk, vv]) fun T =>
        opsR A (callR A orc fns ih) rest (Nat.succ n) T h (Nat.add n 64) fun T h n2=>ih body T h n2 fun e T h n2=>(match e with
         | .normal=>mlEnd A it nx ok n mb mg T h fun T=>k .normal T h n2
         | .exit j=>ifB (Nat.beq j b2) (mlEnd A it nx ok n mb mg T h fun T=>k .normal T h n2) (ifB (Nat.beq j b1) (k .normal T h n2) (k (.exit j) T h n2))
         | .ret=>k .ret T h n2)
      |_=>A.bad)
     |some _=>A.bad)) A.bad
    |_=>A.bad)
   |_=>A.bad)
  | .loop b=>ih b T h n fun e T h n=>(match e with
   | .normal=>ih (.loop b) T h n k
   |e=>k e T h n)) d
def ExOKA (P:Program) (A:Ans α) (run:FCode->Tmps->Heap->Nat->KcA α->α):Prop:=∀(N:Nat) (c:FCode) (T:Tmps) (h:Heap) (n:Nat) (k:KcA α),A.holds (run c T h n k)->
 ∃e T' h' n',A.holds (k e T' h' n')/\WX P N c.slim (fun e' B=>e'=e/\B=⟨T',h'⟩) ⟨T,h⟩
section
variable {A:Ans α} (hA:A.OK) {orc:Orc} {fns:Nat->Option FFn}
include hA
theorem Qg0 {run : FCode -> Tmps -> Heap -> Nat -> KcA α -> α} (hr : ExOKA P A run) : RndOK P A (callR A orc fns run) := by
 intro g b args h n k hx
 have hx:A.holds (rndR A run g b args h n k):=hx
 unfold rndR at hx
 rw[Qax]at hx
 split at hx
 ·rename_i g' N T ps asg body hb
  rw[Qad]at hx
  split at hx
  ·rename_i hc
   simp only[Bool.and_eq_true]at hc
   obtain⟨⟨⟨c1,c2⟩,c3⟩,c4⟩:=hc
   have hg:g'=g:=by simpa using c1
   subst hg
   have hl:b<lim:=Nat.le_of_ble_eq_true c2
   have hlen:args.length=ps.length:=by simpa using c3
   have hps:∀p∈ps,p<N:=fun p hp=>Nat.le_of_ble_eq_true (List.all_eq_true.1 c4 p hp)
   rw[Qgz]at hx
   obtain⟨e,T2,h2,n2,hk,hw,_⟩:=hr N _ _ _ _ _ hx
   cases e with
   |exit j=>exact absurd hk hA.bad
   |ret=>exact absurd hk hA.bad
   | normal =>
    simp only[Qax]at hk
    split at hk
    ·rename_i g2 N2 T2' ps2 as2 body2 hb2
     rw[Qad]at hk
     split at hk
     ·rename_i hg2
      have hg2:g2=g':=by simpa using hg2
      subst hg2
      rw[QaC,if_pos hl]at hk
      obtain⟨e,T4,h4,n4,hk,hw2,_⟩:=hr N _ _ _ _ _ hk
      split at hk
      ·rename_i g4 N4 T4' ps4 as4 body4 hb4
       rw[Qad]at hk
       split at hk
       ·rename_i hg4
        have hg4:g4=g2:=by simpa using hg4
        subst hg4
        have fin:∀e',e'=e->RSpec P b g4 args h (.bool e'.isNormal) (h4.set b (.loop g4 N4 T4' ps4 as4 body4 (stOf e'))):=by
         rintro e' rfl
         refine RSpec.of_W hb hl hlen hps (hw.mono ?_)
         rintro e0 B ⟨rfl,rfl⟩
         refine⟨rfl,N2,T2',ps2,as2,body2,hb2,hw2.mono ?_⟩
         grind
        cases e with
        |normal=>simp only[QaC,if_pos hl]at hk;exact⟨_,_,_,hk,fin _ rfl⟩
        |exit j=>simp only[QaC,if_pos hl]at hk;exact⟨_,_,_,hk,fin _ rfl⟩
        |ret=>simp only[QaC,if_pos hl]at hk;exact⟨_,_,_,hk,fin _ rfl⟩
       ·exact absurd hk hA.bad
      ·exact absurd hk hA.bad
     ·exact absurd hk hA.bad
    ·exact absurd hk hA.bad
  ·exact absurd hx hA.bad
 ·exact absurd hx hA.bad
end
def OrcOK (P:Program) (orc:Orc):Prop:=∀f asg v,orc f=some (asg,v)->PSpec P f asg v
section
variable {A:Ans α} (hA:A.OK) {orc:Orc} (ho:OrcOK P orc) {fns:Nat->Option FFn} (hf:∀f sf,fns f=some sf->okFn P f sf.slim=true)
include hA ho hf
theorem Qc4 {run : FCode -> Tmps -> Heap -> Nat -> KcA α -> α} (hr : ExOKA P A run) : CallOKA P A (callR A orc fns run) := by
 intro m f args h n k hx
 unfold callR at hx
 simp only at hx
 cases hor:orc f with
 | some p =>
  obtain⟨asg,v⟩:=p
  rw[hor]at hx
  simp only at hx
  have hp:=ho f asg v hor
  cases m with
  |heap=>exact absurd hx hA.bad
  |pure=>
   obtain⟨e,hk⟩:=hA.asm _ _ _ hx
   exact⟨v,h,n,hk,fun e=>(by cases e),fun _=>by simp_all⟩
  |borrow=>
   obtain⟨e,hk⟩:=hA.asm _ _ _ hx
   exact⟨v,h,n,hk,fun e=>(by cases e),fun _=>by simp_all⟩
 | none =>
  rw[hor]at hx
  simp only at hx
  cases hs:fns f with
  |none=>rw[hs]at hx;exact absurd hx hA.bad
  | some sf =>
   rw[hs]at hx
   simp only[Qad]at hx
   have hok:=hf f sf hs
   split at hx
   ·rename_i hl
    have hl:args.length<=sf.slim.n:=Nat.le_of_ble_eq_true hl
    have body:∀(h0:Heap) (n0:Nat) (k':AV->Heap->Nat->α),A.holds (bodyR A sf run args h0 n0 k')->
      ∃e T' h' n' vs,(e= .normal\/e= .ret)/\resV T' h' sf.res=some vs/\A.holds (k' (resOf vs) h' n')/\W P sf.slim.n sf.slim.body (fun e' B=>e'=e/\B=⟨T',h'⟩) ⟨argT 0 args,h0⟩:=by
     intro h0 n0 k' hx
     unfold bodyR at hx
     rw[QdZ]at hx
     obtain⟨e,T',h',n',hk,hw,_⟩:=hr sf.slim.n _ _ _ _ _ hx
     have he:e= .normal\/e= .ret:=by cases e<;>first|(exact absurd hk hA.bad)|simp
     have hk:A.holds (resR A T' h' sf.res fun vs=>fAV (resOf vs) fun v=>k' v h' n'):=by grind
     rw[Qd0]at hk
     cases hv:resV T' h' sf.res with
     |none=>rw[hv]at hk;exact absurd hk hA.bad
     |some vs=>
      rw[hv]at hk
      simp only[Qbb]at hk
      exact⟨e,T',h',n',vs,he,hv,hk,hw⟩
    have pureC:∀(K:AV->α),A.holds (if noRefs args=true then bodyR A sf run args .e 64 (fun v h' _=>runR A (frzH 6 v) h' fun v _=>if noRef v=true then fAV v fun v=>K v else A.bad)else A.bad)->∃v,A.holds (K v)/\PSpec P f args v:=by
     intro K hx
     split at hx
     ·rename_i ha
      obtain⟨e,T',h',n',vs,he,hv,hk,hw⟩:=body _ _ _ hx
      simp only[Qa5]at hk
      split at hk
      ·rename_i v h2 hz
       split at hk
       ·rename_i hn
        rw[Qbb]at hk
        refine⟨v,hk,PSpec.of_W 6 hok hl ha hn (hw.mono ?_)⟩
        rintro e' B ⟨rfl,rfl⟩
        exact⟨he,vs,hv,h2,hz⟩
       ·exact absurd hk hA.bad
      ·exact absurd hk hA.bad
     ·exact absurd hx hA.bad
    cases m with
    |heap=>
     obtain⟨e,T',h',n',vs,he,hv,hk,hw⟩:=body _ _ _ hx
     refine⟨_,h',n',hk,fun _=>HSpec.unRoom (HSpec.of_W hok hl (hw.mono ?_)),fun h=>absurd rfl h⟩
     rintro e' B ⟨rfl,rfl⟩
     exact⟨he,vs,hv,rfl,fun _=>rfl⟩
    |pure=>
     obtain⟨v,hk,hp⟩:=pureC (fun v=>k v h n) hx
     exact⟨v,h,n,hk,fun h=>(by cases h),fun _=>hp⟩
    |borrow=>
     obtain⟨v,hk,hp⟩:=pureC (fun v=>k v h n) hx
     exact⟨v,h,n,hk,fun h=>(by cases h),fun _=>hp⟩
   ·exact absurd hx hA.bad
omit ho in
theorem Qg1 {run:FCode->Tmps->Heap->Nat->KcA α->α} (hr:ExOKA P A run):FrOK P A (callR A orc fns run):=by
 intro hB f args h n k hx
 unfold callR at hx
 simp only at hx
 cases hor:orc f with
 |some p=>rw[hor]at hx;exact absurd hx hA.bad
 | none =>
  rw[hor]at hx
  simp only at hx
  cases hs:fns f with
  |none=>rw[hs]at hx;exact absurd hx hA.bad
  | some sf =>
   rw[hs]at hx
   simp only[Qad]at hx
   have hok:=hf f sf hs
   split at hx
   ·rename_i hl
    have hl:args.length<=sf.slim.n:=Nat.le_of_ble_eq_true hl
    unfold bodyR at hx
    rw[QdZ]at hx
    obtain⟨e,T',h',n',hk,hw,_⟩:=hr sf.slim.n _ _ _ _ _ hx
    have he:e= .normal\/e= .ret:=by cases e<;>first|(exact absurd hk hA.bad)|simp
    have hk:A.holds (resR A T' h' sf.res fun vs=>fAV (resOf vs) fun v=>k (unRoom v) h' n'):=by grind
    rw[Qd0]at hk
    cases hv:resV T' h' sf.res with
    |none=>rw[hv]at hk;exact absurd hk hA.bad
    |some vs=>
     rw[hv]at hk
     simp only[Qbb]at hk
     refine⟨_,h',n',hk,HSpec.unRoom (HSpec.of_W hok hl (hw.mono ?_))⟩
     rintro e' B ⟨rfl,rfl⟩
     exact⟨he,vs,hv,rfl,fun _=>rfl⟩
   ·exact absurd hx hA.bad
omit ho in
theorem Qf7 {run:FCode->Tmps->Heap->Nat->KcA α->α} (hr:ExOKA P A run):NewOK P A (callR A orc fns run):=by
 intro f args h n k ha hx
 unfold callR at hx
 simp only at hx
 cases hor:orc f with
 |some p=>rw[hor]at hx;exact absurd hx hA.bad
 | none =>
  rw[hor]at hx
  simp only at hx
  cases hs:fns f with
  |none=>rw[hs]at hx;exact absurd hx hA.bad
  | some sf =>
   rw[hs]at hx
   simp only[Qad]at hx
   have hok:=hf f sf hs
   split at hx
   ·rename_i hl
    have hl:args.length<=sf.slim.n:=Nat.le_of_ble_eq_true hl
    unfold bodyR at hx
    rw[QdZ]at hx
    obtain⟨e,T',h',n',hk,hw,_⟩:=hr sf.slim.n _ _ _ _ _ hx
    have he:e= .normal\/e= .ret:=by cases e<;>first|(exact absurd hk hA.bad)|simp
    have hk:A.holds (resR A T' h' sf.res fun vs=>fAV (resOf vs) fun v=>k v h' n'):=by grind
    rw[Qd0]at hk
    cases hv:resV T' h' sf.res with
    |none=>rw[hv]at hk;exact absurd hk hA.bad
    | some vs =>
     rw[hv]at hk
     simp only[Qbb]at hk
     refine⟨_,h',n',hk,HSpec.of_W hok hl (hw.mono ?_),fun u hh hz hn=>PSpec.of_W 6 hok hl ha hn (hw.mono ?_)⟩
     ·rintro e' B ⟨rfl, rfl⟩
      exact⟨he,vs,hv,rfl,fun _=>rfl⟩
     ·rintro e' B ⟨rfl, rfl⟩
      exact⟨he,vs,hv,hh,hz⟩
   ·exact absurd hx hA.bad
theorem QcC : ∀ d, ExOKA P A (exR A orc fns d) := by
 intro d
 induction d with
 |zero=>intro N c T h n k hx;exact absurd hx hA.bad
 | succ d ih =>
  have hc:=Qc4 hA ho hf ih
  have hrn:=Qg0 (orc:=orc) (fns:=fns) hA ih
  have hgv:=Qg1 hA hf (orc:=orc) ih
  have hnw:=Qf7 hA hf (orc:=orc) ih
  intro N c T h n k hx
  cases c with
  |skip=>exact⟨_,_,_,_,hx,.of (W.skip ⟨rfl,rfl⟩) (by simp[FCode.slim])⟩
  |ret=>exact⟨_,_,_,_,hx,.of (W.ret ⟨rfl,rfl⟩) (by simp[FCode.slim])⟩
  |exit i=>exact⟨_,_,_,_,hx,.of (W.exit ⟨rfl,rfl⟩) (by simp[FCode.slim])⟩
  |bad=>exact absurd hx hA.bad
  | region ops pairs dead =>
   cases pairs with
   |nil=>
    have hx:A.holds (opsR A (callR A orc fns (exR A orc fns d)) ops (n+0) T h (Nat.add n 64) fun T h n=>rmR dead T fun T=>fNat n fun n=>k .normal T h n):=hx
    obtain⟨T',T0,h',n',fs,hk,e,hr⟩:=Qbu hA hc hrn ops 0 T T h (Nat.add n 64) (fun _=>rfl) hx
    rw[QhF,Qas]at hk
    refine⟨_,_,_,_,hk,.of (W.regionS n fs hr (by simp) (L:=rmM dead T') ?_ ⟨rfl,rfl⟩) (by simp[FCode.slim])⟩
    intro i
    rcases Qgx dead T' i with h|h
    ·exact .inl h
    ·simp_all
   | cons p ps =>
    have hx:A.holds (opsRF A (callR A orc fns (exR A orc fns d)) (p::ps) ops 0 (n+0) T h (Nat.add n 64) fun fs T h n=>
     ifB ((p::ps).all fun p=>(fs.getD p.1 ⟨false,[],[]⟩).apart (fs.getD p.2 ⟨false,[],[]⟩)) (rmR dead T fun T=>fNat n fun n=>k .normal T h n) A.bad):=hx
    obtain⟨T',T0,h',n',fs,hk,e,hr⟩:=Qc3 hA hc hrn hgv hnw ops 0 T T h (Nat.add n 64) _ (fun _=>rfl) hx
    rw[Qad]at hk
    split at hk
    ·rename_i hp
     rw[QhF,Qas]at hk
     refine⟨_,_,_,_,hk,.of (W.regionS n fs hr hp (L:=rmM dead T') ?_ ⟨rfl,rfl⟩) (by simp[FCode.slim])⟩
     intro i
     rcases Qgx dead T' i with h|h
     ·exact .inl h
     simp_all
    ·exact absurd hk hA.bad
  | seq a b =>
   obtain⟨e,T',h',n',hk,hw,_⟩:=ih N _ _ _ _ _ hx
   cases e with
   |normal=>
    obtain⟨e2,T2,h2,n2,hk2,hw2,_⟩:=ih N _ _ _ _ _ hk
    refine⟨e2,T2,h2,n2,hk2,.of (W.seq (hw.mono ?_)) (by simp[FCode.slim])⟩
    rintro e' B ⟨rfl,rfl⟩
    exact hw2
   |exit j=>
    refine⟨_,_,_,_,hk,.of (W.seq (hw.mono ?_)) (by simp[FCode.slim])⟩
    rintro e' B ⟨rfl,rfl⟩
    exact⟨rfl,rfl⟩
   |ret=>
    refine⟨_,_,_,_,hk,.of (W.seq (hw.mono ?_)) (by simp[FCode.slim])⟩
    rintro e' B ⟨rfl,rfl⟩
    exact⟨rfl,rfl⟩
  | cond x a b =>
   have hx:A.holds (evK T x fun v=>(match v with
    | .bool t=>ifB t (exR A orc fns d a T h n k) (exR A orc fns d b T h n k)
    |_=>A.bad)):=hx
   rw[Qao]at hx
   split at hx
   ·rename_i t hb
    rw[Qad]at hx
    cases t with
    |true=>
     obtain⟨e,T',h',n',hk,hw,_⟩:=ih N _ _ _ _ _ hx
     exact⟨e,T',h',n',hk,.of (W.cond hb (fun _=>hw) (fun h=>by cases h)) (by simp[FCode.slim])⟩
    |false=>
     obtain⟨e,T',h',n',hk,hw,_⟩:=ih N _ _ _ _ _ hx
     exact⟨e,T',h',n',hk,.of (W.cond hb (fun h=>by cases h) (fun _=>hw)) (by simp[FCode.slim])⟩
   ·exact absurd hx hA.bad
  | block i b =>
   obtain⟨e,T',h',n',hk,hw,_⟩:=ih N _ _ _ _ _ hx
   cases e with
   |normal=>
    refine⟨_,_,_,_,hk,.of (W.block (hw.mono ?_)) (by simp[FCode.slim])⟩
    rintro e' B ⟨rfl,rfl⟩
    exact⟨rfl,rfl⟩
   |ret=>
    refine⟨_,_,_,_,hk,.of (W.block (hw.mono ?_)) (by simp[FCode.slim])⟩
    rintro e' B ⟨rfl,rfl⟩
    exact⟨rfl,rfl⟩
   | exit j =>
    simp only[Qad]at hk
    split at hk
    ·rename_i hj
     have:j=i:=by simpa using hj
     refine⟨_,_,_,_,hk,.of (W.block (hw.mono ?_)) (by simp[FCode.slim])⟩
     simp_all
    ·rename_i hj
     have:j≠i:=by simp_all
     refine⟨_,_,_,_,hk,.of (W.block (hw.mono ?_)) (by simp[FCode.slim])⟩
     simp_all
  | rfunc g ps M asg body =>
   have hx:A.holds (evK T g fun v=>(match v with
   | .fn f first cap => getR h n fun o => (match o with
    | none => putBR A h n (.loop 0 M T ps (.f asg) (.f body) .ready) fun h1 => fList (first ++ [.yld n 0] ++ cap) fun args => callR A orc fns (exR A orc fns d) (.c .heap) f args h1 (Nat.succ n) fun _ h2 n2 => getR h2 n fun o2 => (match o2 with
     |some (.loop 0 _ _ _ _ _ st)=>putBR A h2 n (.dead 0) fun h3=>(match st with
      | .ready=>k .normal T h3 n2
      | .busy=>A.bad
      | .done .normal=>A.bad
      | .done e=>k e T h3 n2)
     |_=>A.bad)
    |some _=>A.bad)
   |_=>A.bad)):=hx
   rw[Qao]at hx
   split at hx
   ·rename_i f first cap hg
    rw[Qax]at hx
    split at hx
    ·rename_i hn
     rw[QaC]at hx
     split at hx
     ·rename_i hl
      simp only[QaZ]at hx
      obtain⟨v,h2,n2,hk,hs,_⟩:=hc _ _ _ _ _ _ hx
      rw[Qax]at hk
      split at hk
      ·rename_i N2 T2 ps2 as2 body2 st hst
       rw[QaC,if_pos hl]at hk
       have key:∀(e:SX),leftQ (fun e' B=>e'=e/\B=⟨T,h2.set n (.dead 0)⟩) ⟨T,h2.set n (.dead 0)⟩ st->WX P N (FCode.rfunc g ps M asg body).slim (fun e' B=>e'=e/\B=⟨T,h2.set n (.dead 0)⟩) ⟨T,h⟩:=by
        intro e hq
        refine .of ?_ (by simp[FCode.slim])
        show W P N (.rfunc g ps M asg.slim body.slim) _ _
        by_cases hNM:M=N
        ·subst hNM
         exact W.rfunc (.f asg) (.f body) rfl rfl hg hn hl (hs rfl) hst hq
        ·intro code hok
         cases code<;>simp only[okCode,Bool.false_eq_true,Bool.and_eq_true,beq_iff_eq,Bool.not_eq_true']at hok
         omega
       split at hk
       ·exact⟨_,_,_,_,hk,key .normal ⟨rfl,rfl⟩⟩
       ·exact absurd hk hA.bad
       ·exact absurd hk hA.bad
       ·rename_i e he
        refine⟨_,_,_,_,hk,key e ⟨?_,rfl,rfl⟩⟩
        cases e<;>first|rfl|(exact absurd rfl he)
      ·exact absurd hk hA.bad
     ·exact absurd hx hA.bad
    ·exact absurd hx hA.bad
   ·exact absurd hx hA.bad
  | mloop pre x it nx ok en b1 b2 rest body =>
   have hx:A.holds (opsR A (callR A orc fns (exR A orc fns d)) pre (n+0) T h (Nat.add n 64) fun T h n=>evK T x fun v=>(match v with
   | .map mb mg => getR h mb fun o => (match o with
    | some (.map g es) => ifB (Nat.beq g mg) (getR h n fun o => (match o with
     |none=>putBR A h n (.dead 0) fun h=>upR T it (.ptr n 0 0) fun T=>upR T nx .any fun T=>(match es with
      |[]=>upR T ok (.bool false) fun T=>k .normal T h (Nat.succ n)
      | [(kk, vv)] => upR T ok (.bool true) fun T => upR T en (.tup [kk, vv]) fun T =>
        opsR A (callR A orc fns (exR A orc fns d)) rest (Nat.succ n+0) T h (Nat.add n 64) fun T h n2=>exR A orc fns d body T h n2 fun e T h n2=>(match e with
         | .normal=>mlEnd A it nx ok n mb mg T h fun T=>k .normal T h n2
         | .exit j=>ifB (Nat.beq j b2) (mlEnd A it nx ok n mb mg T h fun T=>k .normal T h n2) (ifB (Nat.beq j b1) (k .normal T h n2) (k (.exit j) T h n2))
         | .ret=>k .ret T h n2)
      |_=>A.bad)
     |some _=>A.bad)) A.bad
    |_=>A.bad)
   |_=>A.bad)):=hx
   obtain⟨T1,T0,h1,n1,fs1,hk,e1,hr1⟩:=Qbu hA hc hrn pre 0 T T h (Nat.add n 64) (fun _=>rfl) hx
   rw[Qao]at hk
   have evc:∀y:Opd,ev T0 y=ev T1 y:=fun y=>(Qe3 fun i _=>e1 i).symm
   split at hk
   ·rename_i mb mg hxv
    rw[Qax]at hk
    split at hk
    ·rename_i g es hg
     rw[Qad]at hk
     split at hk
     ·rename_i hgm
      have hgm:g=mg:=by simpa using hgm
      subst hgm
      rw[Qax]at hk
      split at hk
      ·rename_i hn
       rw[QaC]at hk
       split at hk
       ·rename_i hl
        rw[Qbs,Qbs]at hk
        have hmb:(h1.set n1 (.dead 0)).get mb=some (.map g es):=by
         rw[Tr.Qai _ hl,if_neg (by grind)];exact hg
        have hit:∀j,lk (up T0 it (.ptr n1 0 0)) j=lk (up T1 it (.ptr n1 0 0)) j:=QaP fun j=>(e1 j).symm
        split at hk
        ·-- nothing in it
         rw[Qbs]at hk
         refine⟨_,_,_,_,hk,.of (W.QfF (W.mloop n fs1 hr1 (by rw[evc,hxv]) hg hn hl (fun vis B=>vis=[]/\B.h=h1.set n1 (.dead 0)/\∀j,lk B.T j=lk (up T1 it (.ptr n1 0 0)) j) ?_ ?_ ?_ ?_)) (by simp[FCode.slim])⟩
         ·rintro vis B ⟨rfl, hB, hT⟩
          refine⟨by rw[hT,lk_up,if_pos rfl],[],by simp_all,rfl⟩
         ·simp_all
         ·simp_all
         ·rintro vis B ⟨rfl, hB, hT⟩ _
          exact⟨rfl,hB,.of_eq fun i=>(QaP (QaP hT) i).symm⟩
        ·-- one entry
         rename_i kk vv
         rw[Qbs,Qbs]at hk
         obtain⟨T2,T20,h2,n2,fs2,hk2,e2,hr2⟩:=Qbu hA hc hrn rest 0 _ (up (up (up (up T1 it (.ptr n1 0 0)) nx .any) ok (.bool true)) en (.tup [kk,vv])) _ _ (fun _=>rfl) hk
         obtain⟨e,T3,h3,n3,hk3,hw3,_⟩:=ih N _ _ _ _ _ hk2
         have walk:∀(Qb:SX->St->Prop) (BT:Tmps),(∀j,lk BT j=lk (up T1 it (.ptr n1 0 0)) j)->Qb e ⟨T3,h3⟩->
           ∃bs fs C,RunF P bs 0 (rest.map FOp.o) fs ⟨up (up (up BT nx .any) ok (.bool true)) en (.tup [kk,vv]),h1.set n1 (.dead 0)⟩ C/\W P N body.slim Qb C:=by
          intro Qb BT hBT hq
          obtain⟨D,hD,d1,d2⟩:=hr2.congr (T':=up (up (up BT nx .any) ok (.bool true)) en (.tup [kk,vv])) (QaP (QaP (QaP fun j=>(hBT j).symm)))
          refine⟨_,fs2,D,hD,W.congr (hw3.mono ?_) ⟨fun j=>?_,fun b=>?_⟩⟩
          ·simp_all
          ·simp_all
          ·rw[d1]
         have main:∀(e0:SX) (T4:Tmps) (h4:Heap) (J:List Nat->St->Prop),
           (∀vis B,J vis B->vis=[0]/\lk B.T it= .ptr n1 0 0/\(∃es',B.h.get mb=some (.map g es')/\es'.length=1))->
           ml1 e b1 b2 (J [0] ⟨T3,h3⟩) (fun x=>x=e0/\h3=h4/\Sub T4 T3)->
           (∀vis B,J vis B->SX.normal=e0/\B.h=h4/\Sub T4 (up (up B.T nx .any) ok (.bool false)))->
           W P N (FCode.mloop pre x it nx ok en b1 b2 rest body).slim (fun e' B=>e'=e0/\B=⟨T4,h4⟩) ⟨T,h⟩:=by
          intro e0 T4 h4 J hJ hround hdone
          refine W.QfF (W.mloop n fs1 hr1 (by rw[evc,hxv]) hg hn hl (fun vis B=>(vis=[]/\B.h=h1.set n1 (.dead 0)/\∀j,lk B.T j=lk (up T1 it (.ptr n1 0 0)) j)\/J vis B) ?_ ?_ ?_ ?_)
          ·rintro vis B (⟨rfl, hB, hT⟩ | hB)
           ·exact⟨by rw[hT,lk_up,if_pos rfl],_,by simp_all,rfl⟩
           grind
          ·simp_all
          ·rintro vis B i k' v' es' hB hni hm' hi
           have hi0:i=0:=by
            grind
           subst hi0
           rcases hB with⟨rfl,hB,hT⟩|hB
           ·rw [hB, hmb] at hm'
            cases hm'
            simp only[List.getElem?_cons_zero,Option.some.injEq,Prod.mk.injEq]at hi
            obtain⟨rfl,rfl⟩:=hi
            rw[hB]
            refine walk _ B.T hT ?_
            grind [ml1]
           grind
          ·rintro vis B (⟨rfl, hB, hT⟩ | hB) hall
           ·simp_all
           grind
         have fin:A.holds (mlEnd A it nx ok n1 mb g T3 h3 fun T=>k .normal T h3 n3)->(∀(J:Prop) (X:SX->Prop),J->ml1 e b1 b2 J X)->
           ∃e T' h' n',A.holds (k e T' h' n')/\WX P N (FCode.mloop pre x it nx ok en b1 b2 rest body).slim (fun e' B=>e'=e/\B=⟨T',h'⟩) ⟨T,h⟩:=by
          intro hend hm
          obtain⟨h5,⟨es',h6,h7⟩,h8⟩:=Qf6 hA hend
          refine⟨_,_,_,_,h8,.of (main .normal _ h3 (fun vis B=>vis=[0]/\B=⟨T3,h3⟩) ?_ (hm _ _ ⟨rfl,rfl⟩) ?_) (by simp[FCode.slim])⟩
          ·simp_all
          ·rintro vis B ⟨rfl,rfl⟩;exact⟨rfl,rfl,.of_eq fun _=>rfl⟩
         cases e with
         |normal=>exact fin hk3 (fun J X hJ=>hJ)
         |ret=>
          exact⟨_,_,_,_,hk3,.of (main .ret T3 h3 (fun _ _=>False) (fun _ _ h=>h.elim) ⟨rfl,rfl,.of_eq fun _=>rfl⟩ (fun _ _ h=>h.elim)) (by simp[FCode.slim])⟩
         | exit j =>
          simp only[Qad]at hk3
          split at hk3
          ·rename_i hj
           have hj:j=b2:=by simpa using hj
           exact fin hk3 (fun J X hJ=>by show(if j=b2 then J else _);simp_all)
          ·rename_i hj
           have hj:j≠b2:=by simp_all
           split at hk3
           ·rename_i hj1
            have hj1:j=b1:=by simpa using hj1
            exact⟨_,_,_,_,hk3,.of (main .normal T3 h3 (fun _ _=>False) (fun _ _ h=>h.elim) (by show(if j=b2 then _ else if j=b1 then _ else _);rw[if_neg hj,if_pos hj1];exact⟨rfl,rfl,.of_eq fun _=>rfl⟩) (fun _ _ h=>h.elim)) (by simp[FCode.slim])⟩
           ·rename_i hj1
            have hj1:j≠b1:=by simp_all
            exact⟨_,_,_,_,hk3,.of (main (.exit j) T3 h3 (fun _ _=>False) (fun _ _ h=>h.elim) (by show(if j=b2 then _ else if j=b1 then _ else _);rw[if_neg hj,if_neg hj1];exact⟨rfl,rfl,.of_eq fun _=>rfl⟩) (fun _ _ h=>h.elim)) (by simp[FCode.slim])⟩
        ·exact absurd hk hA.bad
       ·exact absurd hk hA.bad
      ·exact absurd hk hA.bad
     ·exact absurd hk hA.bad
    ·exact absurd hk hA.bad
   ·exact absurd hk hA.bad
  | loop b =>
   have key:∃e T' h' n',A.holds (k e T' h' n')/\WL P N b.slim (fun e' B=>e'=e/\B=⟨T',h'⟩) ⟨T,h⟩:=by
    obtain⟨e,T',h',n',hk,hw,_⟩:=ih N _ _ _ _ _ hx
    cases e with
    |normal=>
     obtain⟨e2,T2,h2,n2,hk2,_,hw2⟩:=ih N _ _ _ _ _ hk
     refine⟨e2,T2,h2,n2,hk2,WL.round (hw.mono ?_)⟩
     rintro e' B ⟨rfl,rfl⟩
     exact hw2 _ rfl
    |exit j=>
     refine⟨_,_,_,_,hk,WL.round (hw.mono ?_)⟩
     rintro e' B ⟨rfl,rfl⟩
     exact⟨rfl,rfl⟩
    |ret=>
     refine⟨_,_,_,_,hk,WL.round (hw.mono ?_)⟩
     rintro e' B ⟨rfl,rfl⟩
     exact⟨rfl,rfl⟩
   obtain⟨e,T',h',n',hk,hw⟩:=key
   exact⟨e,T',h',n',hk,hw.loop,fun b' e=>by cases e;exact hw⟩
end
inductive FT2 where
 |z
 |l (k:Nat) (s:FFn)
 |n (k:Nat) (a b:FT2)
def FT2.get (t:FT2) (i:Nat):Option FFn:=
 @FT2.rec (fun _=>Option FFn) none (fun k s=>ifB (Nat.beq i k) (some s) none) (fun k _ _ a b=>ifB (Nat.ble (Nat.succ i) k) a b) t
def FT2.OK (P:Program):FT2->Prop
 | .z=>True
 | .l k s=>okFn P k s.slim=true
 | .n _ a b=>a.OK P/\b.OK P
theorem FT2.ok:∀{t:FT2},t.OK P->∀f sf,t.get f=some sf->okFn P f sf.slim=true
 | .z,_,f,sf,h=>by cases h
 | .l k s, ho, f, sf, h => by
  have h2:ifB (Nat.beq f k) (some s) none=some sf:=h
  rw[Qad]at h2
  split at h2
  ·rename_i e
   have e:f=k:=by simpa using e
   have h3:s=sf:=by simpa using h2
   rw[e,<-h3]
   exact ho
  ·cases h2
 | .n k a b,ho,f,sf,h=>by
  have h:ifB (Nat.ble (Nat.succ f) k) (a.get f) (b.get f)=some sf:=h
  rw[Qad]at h
  split at h
  ·exact FT2.ok ho.1 f sf h
  ·exact FT2.ok ho.2 f sf h
def noOrc:Orc:=fun _=>none
theorem QfG:OrcOK P noOrc:=fun f asg v h=>by cases h
def orc1 (f:Nat) (v:AV):Orc:=fun g=>ifB (Nat.beq g f) (some ([],v)) none
theorem QgA {f:Nat} {v:AV} (h:PSpec P f [] v):OrcOK P (orc1 f v):=by
 intro g asg u hg
 simp_all [orc1,Qad]
theorem QeQ {t:FT2} (ht:t.OK P) {orc:Orc} (ho:OrcOK P orc) {d f:Nat} {args:List AV} {v:AV} (k:AV->Bool) (hk:∀u,k u=true->u=v)
  (hx:callR ansB orc t.get (exR ansB orc t.get d) (.c .pure) f args .e 64 (fun u _ _=>k u)=true):PSpec P f args v:=by
 obtain⟨u,h',n',h1,_,h2⟩:=Qc4 QdW ho (FT2.ok ht) (QcC QdW ho (FT2.ok ht) d) _ _ _ _ _ _ hx
 have:=hk _ h1
 simp_all
theorem Qh3 {t:FT2} (ht:t.OK P) {orc:Orc} (ho:OrcOK P orc) {N d m:Nat} {c:FCode} {T:Tmps} {h:Heap} {Q:SX->St->Prop} (k:KcA Bool)
  (hx:exR ansB orc t.get d c T h m k=true) (hk:∀e T h n,k e T h n=true->Q e ⟨T,h⟩):W P N c.slim Q ⟨T,h⟩:=by
 obtain⟨e,T',h',n',h1,h2,_⟩:=QcC QdW ho (FT2.ok ht) d N c T h m k hx
 exact h2.mono fun e' B ⟨e1,e2⟩=>by subst e1;subst e2;exact hk _ _ _ _ h1
end
end Go.AM
namespace Go.AM
variable {P:Program}
end Go.AM
namespace Go.AM
abbrev Zz (d:Nat) (o:SOp) (a:List Nat):SOper:=⟨some d,o,a,none⟩
abbrev Zm (d x:Nat) (a:List Nat):SOper:=⟨some d,.mov (.t x),a,none⟩
end Go.AM
namespace Go.AM.YA
open Go
def bt (d:Nat):Nat:=Nat.shiftLeft 1 d
def mn (a b:Nat):Nat:=Nat.xor a (Nat.land a b)
def msk (l:List Nat):Nat:=l.foldl (fun m d=>Nat.lor m (bt d)) 0
def om {α β:Type} (f:α->Option β):List α->Option (List β)
 |[]=>some []
 |x::r=>match f x,om f r with
  |some y,some ys=>some (y::ys)
  |_,_=>none
def omap {α β:Type} (f:α->Option β):Option α->Option (Option β)
 |none=>some none
 |some x=>(f x).map some
@[irreducible] def u8 (n:Nat):UInt8:=UInt8.ofNat n
def avV:Nat->Value->Option AV
 |0,_=>none
 |n+1,v=>match v with
  | .bool b=>some (.bool b)
  | .int k n=>some (.int k n)
  | .string s=>some (.str (s.data.toList.map fun b=>u8 b.toNat))
  | .pointer none=>some .nilptr
  | .slice none 0 0=>some .nilsl
  | .map none=>some .nilmap
  | .nilFunc=>some .nilfn
  | .nilIface=>some .nilif
  | .agg cs=>(om (avV n) cs.toList).map .agg
  | .tuple cs=>(om (avV n) cs.toList).map .tup
  |_=>some .any
def opd:Operand->Option Opd
 | .tmp t=>some (.t t)
 | .const v=>(avV 5 v).map .c
 | .global g=>some (.g g)
 | .func f=>some (.f f)
def opds (l:Array Operand):Option (List Opd):=om opd l.toList
structure Cf where
 most:CallM:= .heap
 always:List (Nat×CallM):=[]
 modes:List (Nat×CallM):=[]
 value:CallM:= .heap
 eqn:Bool:=true
 lends:List Nat:=[]
 roomy:Bool:=false
section
variable (P:Program) (C:Cf)
def rowN (t:TypeId):Option (Option Nat):=
 match P.underlying t,P.info? t with
 |some (.struct _),some i=>some (some i.size)
 |some (.array _ _),some i=>some (some i.size)
 |some _,some _=>some none
 |_,_=>none
def zav (t:TypeId):Option AV:=(zeroOf P t).bind (avV 5)
def flk:Nat->TypeId->Option (List LK)
 |0,_=>none
 |d+1,t=>match P.underlying t with
  |some .bool=>some [.b]
  |some (.int _)=>some [.i]
  |some .string=>some [.s]
  |some (.struct fs)=>(om (fun f=>flk d f.type) fs.toList).map List.flatten
  |some (.array n e)=>(flk d e).map fun k=>(List.replicate n k).flatten
  |_=>none
def elemI (t:TypeId):Option (Nat×Nat×AV):=
 match P.underlying t with
 |some (.slice e)=>match P.info? e,zav P e with
  |some i,some z=>some (i.size,i.bytes,z)
  |_,_=>none
 |_=>none
def mapI (t:TypeId):Option (Bool×List LK×AV):=
 match P.underlying t with
 |some (.map kt et)=>match flk P 9 kt,zav P et with
  |some ks,some z=>some (rowB P kt,ks,z)
  |_,_=>none
 |_=>none
def size (t:TypeId):Option Nat:=(P.info? t).map (·.size)
def eqo (t:TypeId) (neg:Bool) (x y:Operand) (a b:Opd):Option SOp:=
 let nl:=some (SOp.eq (.nil (kindT P t)) neg a b)
 match P.underlying t with
 |some (.int _)|some .string=>some (.bin (cond neg .neq .eql) a b)
 |some .bool=>some (.eq (.flat false [.b]) neg a b)
 |some (.struct _)|some (.array _ _)=>(flk P 9 t).map fun k=> .eq (.flat true k) neg a b
 |some (.slice _)=>match C.eqn,y with
  |true,.const _=>some (.eqn neg a)
  |_,_=>nl
 |some (.pointer _)=>match x,y with
  | .const _,_=>nl
  |_,.const _=>nl
  |_,_=>some (.eqp neg a b)
 |_=>nl
def bld (t:TypeId):Bool:=
 match P.underlying t with
 | some (.struct fs) => match fs.toList with
  |[f,_]=>match P.underlying f.type with
   |some (.pointer u)=>u==t
   |_=>false
  |_=>false
 |_=>false
def ext (f:Operand):Option (Nat×Nat):=
 match f with
 | .func g=>(P.funcs[g]?).bind fun fn=>match fn.body with
  |none=>cond (fn.name== "math/bits.Add64") (some (0,g)) (cond (fn.name== "math/bits.Sub64") (some (1,g)) (cond (fn.name== "internal/abi.NoEscape") (some (2,g)) none))
  |_=>none
 |_=>none
def call (B : Bool) (c : Call) : Option SOp :=
 match opds c.args with
 |none=>none
 | some asx => match c.callee, asx, c.argTypes.toList with
  | .value f,_,_=>match ext P f with
   |some (k,g)=>some (.ext k g asx)
   |none=>(opd f).map fun x=> .call .heap x asx
  | .builtin .len,[y],[t]=>match P.underlying t with
   |some .string=>some (.len 0 y)
   |some (.slice _)=>some (.len 1 y)
   |some (.map _ _)=>some (.len 2 y)
   |_=>none
  | .builtin .append, [x, y], [t, t2] => match elemI P t, P.underlying t2 with
   |some (sz,by',z),some (.int _)=>some (.appendZ .dyn sz by' z.cells x y)
   |some (sz,by',_),_=>match B,P.underlying t with
    |true,some (.slice e)=>some (.appendT e .dyn sz by' x y)
    |_,_=>some (.append .dyn sz by' x y)
   |_,_=>none
  | .builtin .copy,[x,y],t::_=>(elemI P t).map fun q=> .copy q.1 x y
  | .builtin .cap,[y],_=>some (.cap y)
  | .builtin .clear,[x],[t]=>(elemI P t).map fun(sz,by',z)=> .clear sz by' z.cells x
  | .builtin .unsafeSliceData,[y],_=>some (.usd y)
  | .builtin .unsafeString,[x,n],[t,_]=>match P.underlying t with
   |some (.pointer e)=>some (.ustr e x n)
   |_=>none
  | .builtin .max,_,_=>some (.maxmin false asx)
  | .builtin .min,_,_=>some (.maxmin true asx)
  |_,_,_=>none
def rows (l:List (Nat×Operand)) (f:Nat->Option (Nat×Nat)):Option (List (Nat×Nat×Opd)):=
 om (fun(i,x)=>match f i,opd x with
  |some (o,s),some y=>some (o,s,y)
  |_,_=>none) l
def op (B:Bool) (o:Op):Option SOp:=
 match o with
 | .move x| .assign x=>(opd x).map .mov
 | .pick c a b=>match opd c,opd a,opd b with
  |some c,some a,some b=>some (.pick c a b)
  |_,_,_=>none
 | .alloc t=>(zav P t).map fun z=>cond (bld P t) (.allocT t .dyn z) (.alloc .dyn z)
 | .box _ x=>(opd x).map (.box .dyn)
 | .build t parts=>match (zeroOf P t).bind (fun z=>om (avV 5) z.cells.toList),rows parts.toList (placeOf P t)with
  |some z,some ps=>some (.build z ps)
  |_,_=>none
 | .buildSlice t n parts => match P.underlying t with
  |some (.slice e)=>(P.info? e).bind fun i=>i.zero.bind fun z=>match om (avV 5) z.cells.toList,rows parts.toList (fun k=>some (Nat.mul k i.size,i.size))with
   |some zs,some ps=>some (.bslice false .dyn i.size n (List.replicate n zs).flatten ps)
   |_,_=>none
  |_=>none
 | .load t x=>match rowN P t,opd x with
  |some n,some x=>some (.load n x)
  |_,_=>none
 | .store t x v=>match size P t,opd x,opd v with
  |some n,some x,some v=>some (.store n x v)
  |_,_,_=>none
 | .nilCheck x=>(opd x).map .nilchk
 | .binOp b t x y _ => match opd x, opd y with
  |some a,some c=>match b with
   | .eql=>eqo P C t false x y a c
   | .neq=>eqo P C t true x y a c
   |_=>some (.bin b a c)
  |_,_=>none
 | .unOp b _ x=>(opd x).map (.un b)
 | .convert s d x => (opd x).bind fun x => match P.underlying s, P.underlying d with
  |some (.int _),some (.int k)=>some (.conv k x)
  |some .string,some .string=>some (.convS x)
  |some (.int _),some .string=>some (.convS x)
  |some (.slice e),some .string=>match P.underlying e with
   |some (.int .u8)=>some (.convB x)
   |_=>none
  |some (.pointer t),some .unsafePointer=>(size P t).map fun n=> .convP t n x
  |some .unsafePointer,some (.pointer t)=>(size P t).map fun n=> .convP t n x
  |_,_=>none
 | .makeFunc (.func f) a b=>match opds a,opds b with
  |some a,some b=>some (.mkfn f a b)
  |_,_=>none
 | .makeMap _ none=>some (.mkmap .dyn)
 | .makeSlice t l c=>match elemI P t,opd l,opd c with
  |some (sz,by',z),some l,some c=>some (.mkslice .dyn sz by' z.cells l c)
  |_,_,_=>none
 | .slice t x l h m => match opd x, omap opd l, omap opd h, omap opd m, P.underlying t with
  |some x,some l,some h,some m,some (.slice e)=>(size P e).map fun n=>match C.roomy,h,m with
   |true,some _,none=> .sliceK n x l h
   |_,_,_=> .slice (some n) x l h m
  |some x,some l,some h,some m,some .string=>some (.slice none x l h m)
  |_,_,_,_,_=>none
 | .fieldAddr s x f=>match P.underlying s,opd x with
  |some (.struct fs),some x=>(fs[f]?).map fun d=> .faddr d.offset x
  |_,_=>none
 | .field s x f=>match P.underlying s,opd x with
  |some (.struct fs),some x=>(fs[f]?).bind fun d=>(rowN P d.type).map fun r=> .field r d.offset x
  |_,_=>none
 | .indexAddr t x i=>match P.underlying t,opd x,opd i with
  |some (.array n e),some x,some i=>(size P e).map fun s=> .iaddr (some n) s x i
  |some (.slice e),some x,some i=>(size P e).map fun s=> .iaddr none s x i
  |_,_,_=>none
 | .index t x i => match P.underlying t, opd x, opd i with
  |some (.array n e),some x,some i=>match rowN P e,size P e with
   |some r,some s=>some (.index (some (n,s,r.isSome)) x i)
   |_,_=>none
  |some .string,some x,some i=>some (.index none x i)
  |_,_,_=>none
 | .lookup t x i ok=>match mapI P t,opd x,opd i with
  |some (r,ks,z),some x,some i=>some (.lookup r ks z ok x i)
  |_,_,_=>none
 | .mapUpdate t m k v| .insert t m k v=>match mapI P t,opd m,opd k,opd v with
  |some (r,ks,_),some m,some k,some v=>some (.mupd r ks m k v)
  |_,_,_,_=>none
 | .mapEntry t m k=>match mapI P t,opd m,opd k with
  |some (r,ks,z),some m,some k=>some (.ment r ks z m k)
  |_,_,_=>none
 | .entryStore _ m s v=>match opd m,opd s,opd v with
  |some m,some s,some v=>some (.estore m s v)
  |_,_,_=>none
 | .extract x i=>(opd x).map (.extract i)
 | .call c=>call P B c
 |_=>none
def oper (B : Bool) (ops : Array Oper) (o : Oper) : SOper :=
  ⟨o.dst, (op P C B o.op).getD .bad, (o.after.toList.filter fun e => Region.binds .any e).map (·.on),
   match o.guard with
    |none=>none
    |some (j,w)=>((ops[j]?).bind (·.dst)).map fun s=>(s,w)⟩
def modeA (o:SOper):SOper:=match o with
 |⟨d,.call _ (.f g) asx,a,u⟩=>⟨d,.call ((C.always.lookup g).getD C.most) (.f g) asx,a,u⟩
 |⟨d,.call _ x asx,a,u⟩=>⟨d,.call C.value x asx,a,u⟩
 |_=>o
def modeB (o:SOper):SOper:=match o with
 |⟨d,.call _ (.f g) asx,a,u⟩=>⟨d,.call (match (C.always.lookup g).getD C.most with
  | .heap=>(C.modes.lookup g).getD .heap
  |m=>m) (.f g) asx,a,u⟩
 |_=>o
def unfree (s:List SOper):List (Nat×Nat):=
 let m:=masksFrom [] s
 (List.range s.length).flatMap fun j => (List.range j).filterMap fun k =>
  cond ((m.getD j 0).testBit k||pairOK s [] k j) none (some (k,j))
def lent (s:List SOper) (ps:List (Nat×Nat)):List (Nat×Nat):=
 (List.range s.length).filterMap fun k => match (s[k]?).map SOper.op with
  |some (.call .heap (.f g) _)=>cond (C.lends.contains g&&ps.any (fun p=>p.1==k||p.2==k)) (some (k,999999)) none
  |_=>none
def ops1 (B:Bool) (ops:Array Oper):List SOper:=ops.toList.map fun o=>modeA C (oper P C B ops o)
def reg (B:Bool) (ops:Array Oper) (draw:Bool):SCode:=
 let s:=ops1 P C B ops
 match draw with
 |false=> .region s [] []
 |true=>match unfree s with
  |[]=> .region s [] []
  |_=>let s:=s.map (modeB C);let ps:=unfree s;.region s (ps++lent C s ps) []
def mlH (B:Bool) (p:MLParts):Option (List SOper×Opd×Nat×Nat×Nat×Nat×List SOper):=
 match p.ops6.toList.getLast?,p.ops7.toList,p.ops8.toList with
 |some ⟨some it,.range _ y,_,_,_,_⟩,[⟨some nx,.next _ false,_,_,_,_⟩,⟨some ok,_,_,_,_,_⟩],⟨some en,.entry _,_,_,_,_⟩::r=>
  (opd y).map fun x=>(p.ops6.toList.dropLast.map (oper P C B p.ops6),x,it,nx,ok,en,r.map (oper P C B p.ops8))
 |_,_,_=>none
def code (rg : Array Oper -> Bool -> SCode) (B : Bool) (N : Nat) : Nat -> Code -> SCode
 |0,_=> .bad
 | n + 1, c => match mlParts c with
  |some p=>match mlH P C B p with
   |some (pre,x,it,nx,ok,en,rest)=> .mloop pre x it nx ok en p.b p.b3 rest (code rg B N n p.body)
   |none=> .bad
  | none => match c with
   | .skip=> .skip
   | .region _ ops draw=>rg ops draw
   | .seq a b=> .seq (code rg B N n a) (code rg B N n b)
   | .cond c a b=>match opd c with
    |some x=> .cond x (code rg B N n a) (code rg B N n b)
    |none=> .bad
   | .block i b=> .block i (code rg B N n b)
   | .loop b=> .loop (code rg B N n b)
   | .exit i=> .exit i
   | .ret=> .ret
   | .rangeFunc g ps a b=>match opd g with
    |some x=> .rfunc x ps.toList N (code rg B N n a) (code rg B N n b)
    |none=> .bad
   |_=> .bad
end
def it:Nat->(Nat->Nat)->Nat->Nat
 |0,_,l=>l
 |n+1,F,l=>match Nat.beq (mn (F l) l) 0 with
  |true=>l
  |false=>it n F (Nat.lor l (F l))
def back:List SOper->Nat->Nat
 |[],l=>l
 |o::r,l=>Nat.lor (match o.dst,o.guard with
  |some d,none=>mn (back r l) (bt d)
  |_,_=>back r l) (msk o.reads)
def exs (ex:List (Nat×Nat)):Nat:=ex.foldl (fun m p=>Nat.lor m p.2) 0
def live (ret:Nat):SCode->List (Nat×Nat)->Nat->Nat
 | .skip,_,out=>out
 | .region ops _ _,_,out=>back ops out
 | .seq a b,ex,out=>live ret a ex (live ret b ex out)
 | .cond x a b,ex,out=>Nat.lor (Nat.lor (msk x.slots) (live ret a ex out)) (live ret b ex out)
 | .block i b,ex,out=>live ret b ((i,out)::ex) out
 | .loop b,ex,_=>it 50 (live ret b ex) 0
 | .mloop pre x i nx ok en b1 b2 rest body,ex,out=>
  back pre (Nat.lor (mn (it 50 (fun l=>Nat.lor (Nat.lor out (bt i)) (mn (back rest (live ret body ((b1,out)::(b2,l)::ex) l)) (msk [en,ok,nx]))) (bt i)) (bt i)) (msk x.slots))
 | .exit i,ex,_=>(ex.lookup i).getD 0
 | .ret,_,_=>ret
 | .rfunc g ps _ a b,ex,out=>
  Nat.lor (Nat.lor (Nat.lor (msk g.slots) out) (mn (live ret a ex (live ret b ex 0)) (msk ps))) (Nat.lor ret (exs ex))
 | .bad,_,_=>0
def dsts (ops:List SOper):Nat:=msk (ops.filterMap (·.dst))
def mark:List SOper->Nat->List FOp
 |[],_=>[]
 |s::r,p=>match s.dst with
  |some d=>⟨!p.testBit d,s⟩::mark r (Nat.lor p (bt d))
  |none=>⟨false,s⟩::mark r p
def ann (ret:Nat):SCode->List (Nat×Nat)->Nat->Nat->FCode×Nat
 | .region ops ps _,_,out,p=>
  let all:=Nat.lor p (dsts ops)
  (.region (mark ops p) ps (mn all out),Nat.land all out)
 | .seq a b,ex,out,p=>
  let x:=ann ret a ex (live ret b ex out) p
  let y:=ann ret b ex out x.2
  (.seq x.1 y.1,y.2)
 | .cond c a b,ex,out,p=>
  let x:=ann ret a ex out p
  let y:=ann ret b ex out p
  (.cond c x.1 y.1,Nat.lor x.2 y.2)
 | .block i b,ex,out,p=>
  let x:=ann ret b ((i,out)::ex) out p
  (.block i x.1,Nat.lor x.2 (Nat.land p out))
 | .loop b,ex,out,p=>
  let l:=live ret (.loop b) ex out
  (.loop (ann ret b ex l (Nat.lor p l)).1,Nat.lor p l)
 | .mloop pre x i nx ok en b1 b2 rest body,ex,out,p=>
  let lv:=it 50 (fun l=>Nat.lor (Nat.lor out (bt i)) (mn (back rest (live ret body ((b1,out)::(b2,l)::ex) l)) (msk [en,ok,nx]))) (bt i)
  let p1:=Nat.lor p (dsts pre)
  let q:=Nat.lor p1 (msk [i,nx,ok,en])
  let p2:=Nat.lor q (dsts rest)
  let z:=ann ret body ((b1,out)::(b2,lv)::ex) lv (Nat.lor p2 lv)
  (.mloop (mark pre p) x i nx ok en b1 b2 (mark rest q) z.1,Nat.lor p2 z.2)
 | .rfunc g ps N a b,ex,out,p=>
  let x:=ann ret a ex (live ret b ex 0) (Nat.lor p (msk ps))
  (.rfunc g ps N x.1 (ann ret b ex 0 x.2).1,p)
 | .skip,_,_,p=>(.skip,p)
 | .exit i,_,_,p=>(.exit i,p)
 | .ret,_,_,p=>(.ret,p)
 | .bad,_,_,p=>(.bad,p)
def resS (P:Program):ResultVar->SRes
 | .tmp t=> .tmp t
 | .cell a t=> .cell a ((rowN P t).getD none)
def SRes.slot:SRes->Nat
 | .tmp t=>t
 | .cell a _=>a
def ffn (P:Program) (C:Cf) (f:Nat):FFn:=
 match P.funcs[f]? with
 | some fn => match fn.body with
  |some c=>
   let C:Cf:={C with roomy:= "slices.Delete[".isPrefixOf fn.name}
   let res:=fn.results.toList.map (resS P)
   let m:=msk (res.map SRes.slot)
   ⟨fn.ntmps,res,(ann m (let B:= "(*strings.Builder)".isPrefixOf fn.name;code P C (reg P C B) B fn.ntmps 1000 c) [] m (msk (List.range (fn.params.size+fn.nfree)))).1⟩
  |none=>⟨0,[],.bad⟩
 |none=>⟨0,[],.bad⟩
def tre (P:Program) (C:Cf):Nat->List Nat->FT2
 |0,_=> .z
 |k+1,l=>match l with
  |[]=> .z
  |[f]=> .l f (ffn P C f)
  |_=>let h:=l.length/2;.n (l.getD h 0) (tre P C k (l.take h)) (tre P C k (l.drop h))
def allOK (P:Program) (C:Cf):List Nat->Bool
 |[]=>true
 |f::r=>okFn P f (ffn P C f).slim&&allOK P C r
theorem Qdo {P:Program} {C:Cf}:∀{l:List Nat},allOK P C l=true->∀f∈l,okFn P f (ffn P C f).slim=true
 |[],_,_,h=>by cases h
 |g::r,h,f,hf=>by
  simp only[allOK,Bool.and_eq_true]at h
  rcases List.mem_cons.1 hf with rfl|hf
  ·exact h.1
  ·exact Qdo h.2 f hf
theorem QdO {P:Program} {C:Cf}:∀(k:Nat) (l:List Nat),(∀f∈l,okFn P f (ffn P C f).slim=true)->(tre P C k l).OK P
 |0,_,_=>trivial
 |k+1,[],_=>trivial
 |k+1,[f],h=>h f (by simp)
 |k+1,f::g::r,h=>⟨QdO k _ fun x hx=>h x (List.mem_of_mem_take hx),QdO k _ fun x hx=>h x (List.mem_of_mem_drop hx)⟩
end Go.AM.YA
