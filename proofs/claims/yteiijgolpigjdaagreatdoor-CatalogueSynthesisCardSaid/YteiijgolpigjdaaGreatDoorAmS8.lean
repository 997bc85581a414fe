/- A part of the proof of CatalogueSynthesisCardSaid: lemmas on the way (AmT, AmO, AmOa, AmP, AmQ, AmR, AmLr). Conditions: none of ours. -/
import Derived.Laws.IdiomRangeMap
import Derived.Test.YteiijgolpigjdaaGreatDoorAmS7
set_option linter.unusedSectionVars false
set_option maxHeartbeats 32000000
set_option maxRecDepth 100000
set_option linter.unusedVariables false
set_option linter.unusedSimpArgs false
namespace Go.AM
variable{P:Program}{ok':Okc}{c:Ctx ok'}{w:World}{h:Heap}
def upo(w:World)(r:Nat)(o:Obj):World:={w with heap:=w.heap.setIfInBounds r o}
theorem Qqc{r:Nat}{o:Obj}(a:r<w.heap.size):(upo w r o).heap[r]?=some o:=by simp[upo,a]
theorem Qco{r k:Nat}{o:Obj}(a:k≠r):(upo w r o).heap[k]?=w.heap[k]?:=by simp_all[upo,Ne.symm]
theorem QdY{r:Nat}{o:Obj}:(upo w r o).heap.size=w.heap.size:=by simp[upo]
theorem HRel.other(H:HRel c h w){r:Nat}{o o':Obj}(s:w.heap[r]?=some o)(hc:∀C e d,o≠.cells C e d)(t:¬c.O r)(m:¬c.F r):Ext c w c (upo w r o')/\HRel c h (upo w r o'):=by
 have E:Ext c w c (upo w r o'):=by
  refine⟨fun _ _ _ h=>h,fun _ h=>h,fun i p hf f=>?_,fun i C e d f=>?_⟩;·grind[Qco]
  refine⟨C,d,?_,rfl⟩;rw[Qco (fun q=>by simp_all)];exact f
 refine⟨E,H.fresh,H.later,fun b x g=>?_,H.inj,H.disj,fun k a=>by rw[QdY];exact H.inF k a,fun k a=>by rw[QdY];exact H.inO k a⟩;refine BRel.mono E (fun i base j hp=>?_) (H.blk b x g);have l:=H.owned ⟨x,g,rfl,j⟩ hp;grind[Qco]
def Ctx.name{a:Okc}(c:Ctx a)(b r:Nat):Ctx a:={c with ρ:=fun x y=>if x=b/\y=0 then some (.loc r 0)else c.ρ x y}
theorem HRel.name(H:HRel c h w){b r:Nat}(o:h.get b=none)(f:b<lim):Evo c w (c.name b r) w/\HRel (c.name b r) (h.set b (.dead 0)) w:=by
 have E:Evo c w (c.name b r) w:=by
  refine⟨rfl,rfl,rfl,Nat.le_refl _,fun _ C _ A h=>⟨C,A,h,rfl⟩,fun _ _ _=>rfl,?_,fun _ h=>h,fun _ h=>.inl h,fun _ h=>.inl h,rfl⟩;intro x y p hp;show(if x=b/\y=0 then some (Place.loc r 0)else c.ρ x y)=some p;by_cases e:x=b/\y=0;·obtain⟨rfl,rfl⟩:=e;rw[H.fresh _ o]at hp;cases hp
  simp_all
 have d:∀{x y:Nat},x≠b->(c.name b r).ρ x y=c.ρ x y:=by intro x y a;show(if x=b/\y=0 then some (Place.loc r 0)else c.ρ x y)=_;simp_all
 refine⟨E,?_,?_,?_,?_,H.disj,H.inF,H.inO⟩
 ·intro x a g;rw[Tr.Qa2 _ f]at a;by_cases e:x=b;·simp_all
  rw[if_neg e]at a;rw[d e];exact H.fresh x a g
 ·intro x z a g m;rw[Tr.Qa2 _ f]at a;by_cases e:x=b;·rw[if_pos e]at a;cases a;subst e;show(if x=x/\g=0 then some (Place.loc r 0)else c.ρ x g)=none;rw[if_neg (by omega)];exact H.fresh _ o g
  rw[if_neg e]at a;rw[d e];exact H.later x z a g m
 ·intro x z a;rw[Tr.Qa2 _ f]at a;by_cases e:x=b;·rw[if_pos e]at a;cases a;trivial
  rw[if_neg e]at a;refine BRel.mono (E.ext H.disj) (fun t base j hp=>?_) (H.blk x z a);exact⟨H.owned ⟨z,a,rfl,j⟩ hp,rfl⟩
 intro x g G I t base k l F p q;have live:∀{x g:Nat},Live (h.set b (.dead 0)) x g->x≠b/\Live h x g:=by
  rintro x g⟨z,i,m,j⟩;rw[Tr.Qa2 _ f]at i;by_cases e:x=b;·grind
  rw[if_neg e]at i;exact⟨e,z,i,m,j⟩
 obtain⟨v,B⟩:=live l;obtain⟨u,s⟩:=live F;rw[d v]at p;rw[d u]at q;exact H.inj _ _ _ _ _ _ _ B s p q
theorem Qi0:∀{xs:List (AV×AV)}{es:List MapEntry}{n k:Nat},MRel c w xs es n->k+xs.length=n->∀(i:Nat)(e:MapEntry),es[i]?=some e->e.born=k+i/\i<xs.length|[],es,n,k,hm,a,i,e,hi=>by simp_all[MRel]|(x,y)::xs,es,n,k,hm,a,i,e,hi=>by simp only[MRel]at hm;obtain⟨h,d,rfl,_,_,_,f,b⟩:=hm;simp only[List.length_cons]at a;cases i with|zero=>simp at hi;subst hi;exact⟨by omega,by simp⟩|succ i=>simp at hi;obtain⟨g,j⟩:=Qi0 b (k:=k+1) (by omega) i e hi;exact⟨by omega,by simp;omega⟩
theorem Qmg{ty:TypeId}{r d since c0 clock:Nat}{seen:Array Nat}{es:Array MapEntry}(k:w.heap[r]?=some (.mapIter (some d) since seen c0))(s:w.heap[d]?=some (.map es clock))(hold:∀x∈es.toList,x.born<since)(g:since<=c0):((leftOf es seen).size=0/\(Instr.next (.pointer (some ⟨r,0,none⟩)) false ty).run P w=.ok (.tuple #[.bool false]) w)\/∃e∈(leftOf es seen).toList,∃a:World,(a=w\/a=w.drew)/\(Instr.next (.pointer (some ⟨r,0,none⟩)) false ty).run P w=.ok (.tuple #[.bool true,e.key,e.val]) (upo a r (.mapIter (some d) since (seen.push e.born) clock)):=by
 simp only[Instr.next,getObj,Sem.run_bind,Sem.run,k,s,Result.andThen,next_test_false seen es since c0 hold g,Bool.false_eq_true,if_false];unfold leftOf;have b:∀x∈(Array.filter (fun e=>!seen.contains e.born) es).toList,x.born<since:=fun x m=>hold x (by simp_all);generalize Array.filter (fun e=>!seen.contains e.born) es=L at b⊢;have o:L.filter (fun x=>decide (x.born<since))=L:=Array.filter_eq_self.2 (fun x m=>by simp_all);have p:L.filter (fun x=>decide (x.born≥since))=#[]:=by simp_all
 simp only[o,p,Array.append_empty];by_cases q:L.size=0;·left;have:L=#[]:=Array.eq_empty_of_size_eq_zero q;subst this;refine⟨rfl,?_⟩;simp_all[Question.forced]
 right;have f:L.isEmpty=false:=by simp_all
 simp only[f,Bool.false_eq_true,if_false,Array.empty_append,Array.size_map];have h:∃(j:Nat)(a:World),j<L.size/\(a=w\/a=w.drew)/\(choose (Question.mapNext L.size)).run P w=.ok j a:=by
  by_cases hf:L.size<=1;·exact⟨0,w,by omega,.inl rfl,by simp_all[Question.forced]⟩
  exact⟨_,w.drew,Nat.mod_lt _ (by omega),.inr rfl,by simp only[choose,Sem.run,Question.forced,decide_eq_true_eq,hf,if_false,Question.cut];rfl⟩
 obtain⟨j,a,t,c,i⟩:=h;refine⟨L[j],by simp,a,c,?_⟩;have l:a.heap[r]?=some (.mapIter (some d) since seen c0):=by rcases c with rfl|rfl<;>exact k
 simp_all[setObj,upo,Sem.run]
theorem Qku{r a since clock:Nat}{seen:Array Nat}{es:Array MapEntry}{e:MapEntry}(d:w.heap[r]?=some (.mapIter (some a) since (seen.push e.born) clock))(b:w.heap[a]?=some (.map es clock))(he:e∈es.toList)(c:(es.toList.map (·.born)).Nodup):(Instr.entry (.pointer (some ⟨r,0,none⟩))).run P w=.ok (.tuple #[e.key,e.val]) w:=by
 have hf:es.find? (·.born==e.born)=some e:=by rw[<-Array.find?_toList];grind[find_born]
 simp_all[Instr.entry,getObj,Sem.run]
theorem QcA{ops:Array Oper}{o:Oper}{i:Nat}{Q:Exit->Act->World->Prop}{K:Act->World->Prop}{a:Act}{w':World}{cv:Value}(ho:ops[i]?=some o)(d:o.guard=none)(c:(execOp a.eval o).run P w=.ok (.value cv) w')(b:K (a.put o.dst cv) w'):wpOpIn (FW none) 0 P ops Q i K a w:=by
 unfold wpOpIn;rw[ho];have:Region.wanted o (yielded ops a.tmps)=true:=by simp[Region.wanted,d]
 simp only[this,if_true];refine⟨fun _ _=>trivial,?_⟩;show o.uponIn (FW none) 0 P a K Q ((o.semAt none a.eval).run P w);rw[Oper.semAt_none,c];exact b
theorem Qir{N base:Nat}{ops:Array Oper}{Q:Exit->Act->World->Prop}{C:St}{c0:Ctx (okc P)}{w0:World}{p:List Nat}(hQ:∀c a w,SRel N c C a w->Evo c0 w0 c w->wpOpsIn (FW none) 0 P ops Q p a w):∀(l:List SOper)(i j:Nat)(fs:List FP)(A:St)(c:Ctx (okc P))(a:Act)(w:World),(∀k s,l[k]?=some s->∃o,ops[i+k]?=some o/\okOper P N ops o s=true)->RunF P base j l fs A C->SRel N c A a w->Evo c0 w0 c w->wpOpsIn (FW none) 0 P ops Q (List.range' i l.length++p) a w|[],i,j,fs,A,c,a,w,b,d,S,E=>by obtain⟨_,rfl⟩:=d;grind|s::l,i,j,fs,A,c,a,w,b,d,S,E=>by obtain⟨f,h,v,h1,_,B,d⟩:=d;rw[List.length_cons,List.range'_succ,List.cons_append,wpOpsIn_cons];obtain⟨o,ho,y⟩:=b 0 s rfl;rw[Nat.add_zero]at ho;refine QeZ S ho y B fun u q x S' E'=>?_;refine Qir hQ l (i+1) (j+1) h _ u q x ?_ d S' (E.trans E');intro k r g;obtain⟨F,t,m⟩:=b (k+1) r (by simpa using g);grind
theorem QnI{code:Code}{p:MLParts}(h:mlParts code=some p):∃b a i8,code=.seq (.region b p.ops6 false) (.block p.b (.loop (.seq (.region a p.ops7 false) (.seq (.cond (.tmp p.c) .skip (.exit p.b')) (.block p.b3 (.seq (.region i8 p.ops8 false) p.body)))))):=by unfold mlParts at h;grind
theorem Qow{b r:Nat}:VRel (c.name b r) w (.ptr b 0 0) (.pointer (some ⟨r,0,none⟩)):=by simp only[VRel];exact⟨r,0,by show(if b=b/\0=0 then some (Place.loc r 0)else _)=_;simp,by simp⟩
structure IterAt{ok':Okc}(c:Ctx ok')(w:World)(b r mb mg n:Nat)(vis:List Nat)(m:Nat)(seen:Array Nat):Prop where
 name:c.ρ b 0=some (.loc r 0)free:¬c.O r/\¬c.F r/\r<w.heap.size
 obj:w.heap[r]?=some (.mapIter (some m) n seen n)place:c.ρ mb mg=some (.loc m 0)seen:∀i,i<n->(seen.contains i=true↔i∈vis)
theorem IterAt.evo {b r mb mg n m:Nat} {vis:List Nat} {seen:Array Nat} {c':Ctx ok'} {w':World} (I:IterAt c w b r mb mg n vis m seen) (E:Evo c w c' w'):IterAt c' w' b r mb mg n vis m seen:=
  ⟨E.rho _ _ _ I.name,⟨fun h=>(E.own r h).elim I.free.1 (fun h=>absurd I.free.2.2 (by omega)),fun h=>(E.frzNew r h).elim I.free.2.1 (fun h=>h.elim I.free.1 (fun h=>absurd I.free.2.2 (by omega))),Nat.lt_of_lt_of_le I.free.2.2 E.size⟩,
    by rw[E.keep r I.free.2.2 I.free.1];exact I.obj,E.rho _ _ _ I.place,I.seen⟩
theorem QeG{N:Nat}{A:St}{a:Act}{d:Nat}{v:AV}{cv:Value}(S:SRel N c A a w)(b:d<N)(V:VRel c w v cv):SRel N c ⟨up A.T d v,A.h⟩ (a.put (some d) cv) w:=by have:=S.put (dst:=some d) (.refl c w) S.heap (fun e he=>by simp_all) V;exact this
theorem Marks.turn{r:Nat}{o o':Obj}(j:w.heap[r]?=some o)(f:o≠.deferred (some [])):∀{ds:List Deferred},Marks c w ds->Marks c (upo w r o') ds|[],h=>by show c.base<=_;rw[QdY];exact h|d::ds,⟨⟨D,h1,k,i,g,a,b⟩,hm⟩=>⟨⟨D,h1,k,i,g,by rw[Qco (fun e=>by simp_all)];exact a,b⟩,Marks.turn j f hm⟩
theorem SRel.turn{N:Nat}{A:St}{a:Act}{r:Nat}{o o':Obj}(S:SRel N c A a w)(b:w.heap[r]?=some o)(hc:∀C e f,o≠.cells C e f)(d:¬c.O r)(g:¬c.F r)(h:o≠.deferred (some [])):SRel N c A a (upo w r o'):=by obtain⟨E,H⟩:=S.heap.other (o':=o') b hc d g;exact⟨H,fun i=>VRel.mono E _ _ (S.tmps i),S.size,S.defers.turn b h⟩
theorem Evo.turn {c0:Ctx ok'} {w0:World} (E:Evo c0 w0 c w) {r:Nat} {o':Obj} (hr:w0.heap.size<=r):Evo c0 w0 c (upo w r o'):=
  ⟨E.os,E.tape,E.output,by rw[QdY];exact E.size,
    fun cb C e fr hb=>by
      obtain⟨C',fr',h1,h2⟩:=E.shape cb C e fr hb
      grind [Qco],
    fun cb hlt hO=>by rw[Qco (by omega)];exact E.keep cb hlt hO,E.rho,E.frz,E.frzNew,E.own,E.base⟩
theorem QfI{i:Nat}:∀(L:List Nat),i∈L->(L.filter fun j=>j≠i).length<L.length
 |[],h=>by cases h|y::L,a=>by
  rcases List.mem_cons.1 a with h|h;·grind
  have :=QfI L h;grind
theorem W.mloop {N n : Nat} {Q : SX -> St -> Prop} {A B0 : St} {pre rest : List SOper} {x : Opd} {it nx ok en b1 b2 : Nat} {body : SCode} (base : Nat) (fs : List FP) (hr : RunF P base 0 pre fs A B0)
  {mb mg:Nat} {es:List (AV×AV)} (hx:ev B0.T x= .map mb mg) (hm:B0.h.get mb=some (.map mg es)) (hn:B0.h.get n=none) (hnl:n<lim)
  (I:List Nat->St->Prop) (hI:∀vis B,I vis B->lk B.T it= .ptr n 0 0/\∃es',B.h.get mb=some (.map mg es')/\es'.length=es.length)
  (h0:I [] ⟨up B0.T it (.ptr n 0 0),B0.h.set n (.dead 0)⟩)
  (round : ∀ vis B i k v es', I vis B -> i ∉ vis -> B.h.get mb = some (.map mg es') -> es'[i]? = some (k, v) -> ∃ bs fs C, RunF P bs 0 rest fs ⟨up (up (up B.T nx .any) ok (.bool true)) en (.tup [k, v]), B.h⟩ C /\
   W P N body (fun e D=>match e with
    | .normal=>I (i::vis) D
    | .exit j=>if j=b2 then I (i::vis) D else if j=b1 then Q .normal D else Q (.exit j) D
    | .ret=>Q .ret D) C)
  (done:∀vis B,I vis B->(∀i,i<es.length->i∈vis)->Q .normal ⟨up (up B.T nx .any) ok (.bool false),B.h⟩):W P N (.mloop pre x it nx ok en b1 b2 rest body) Q A:=by
 intro code hok c0 a0 w0 S0 ro hro Q' hQ
 have:=hro rfl
 subst this
 simp only[okCode]at hok
 split at hok
 ·rename_i p hp
  simp only[Bool.and_eq_true,beq_iff_eq]at hok
  obtain⟨⟨⟨⟨⟨⟨⟨o6,ob⟩,o7⟩,oc⟩,ob'⟩,ob3⟩,o8⟩,obd⟩:=hok
  obtain⟨i6,i7,i8,rfl⟩:=QnI hp
  rw[ob,oc,ob',ob3]
  unfold okRange at o6
  split at o6
  ·rename_i o ho
   simp only[Bool.and_eq_true,beq_iff_eq,decide_eq_true_eq,Option.isNone_iff_eq_none]at o6
   obtain⟨⟨⟨⟨⟨g1,g2⟩,g3⟩,g4⟩,g5⟩,g6⟩:=o6
   obtain⟨k1,k2⟩:=Qdp g6
   have hpre:∀k s,pre[k]?=some s->∃o,p.ops6[0+k]?=some o/\okOper P N p.ops6 o s=true:=by
    intro k s hs
    have hlt:k<pre.length:=(List.getElem?_eq_some_iff.1 hs).1
    have hlt6:k<p.ops6.size:=by omega
    have e1:(p.ops6.toList.take pre.length)[k]?=some p.ops6[k]:=by
     simp_all
    grind
   refine wpIn_seq (wpIn_region ?_)
   rw[g5,show List.range (pre.length+1)=List.range' 0 pre.length++[pre.length] by rw[List.range_succ,List.range_eq_range']]
   refine Qir (c0:=c0) (w0:=w0) ?_ pre 0 0 fs A c0 a0 w0 hpre hr S0 (.refl _ _)
   intro c a w S E
   rw[wpOpsIn_cons]
   split at g4
   ·rename_i t y hop
    simp only[Bool.and_eq_true]at g4
    obtain⟨gt,gx⟩:=g4
    have hxr:=Qat S.tmps gx
    rw[hx]at hxr
    simp only[VRel]at hxr
    obtain⟨m,hpm,hym⟩:=hxr
    obtain⟨ms,clock,hOm,hCm,hRm,hcl⟩:=S.heap.atMap hm hpm
    obtain⟨kt,et,hu⟩:∃kt et,P.underlying t=some (.map kt et):=by
     grind [isMapT]
    have hrun:(execOp a.eval o).run P w= .ok (.value (.pointer (some ⟨w.heap.size,0,none⟩))) (w.alloc (.mapIter (some m) clock #[] clock)):=by
     have e1:execOp a.eval o=(do pure (.value (<-Instr.range t (a.eval y)))):=by
      cases o;simp only at hop;subst hop;rfl
     rw[e1,hym]
     simp[run_range_map w t kt et m ms clock hu hCm]
    refine QcA ho g3 hrun ?_
    show Exit.then _ _ .normal _ _
    rw[g1]
    obtain⟨E1,H1⟩:=S.heap.grow (w':=w.alloc (.mapIter (some m) clock #[] clock)) rfl rfl rfl (by simp) (fun k hk=>by simp_all [heap_alloc_old])
    obtain⟨E2,H2⟩:=H1.name (b:=n) (r:=w.heap.size) hn hnl
    have E02:Evo c0 w0 (c.name n w.heap.size) (w.alloc (.mapIter (some m) clock #[] clock)):=(E.trans E1).trans E2
    have S2:SRel N (c.name n w.heap.size) ⟨up B0.T it (.ptr n 0 0),B0.h.set n (.dead 0)⟩ (a.put (some it) (.pointer (some ⟨w.heap.size,0,none⟩))) (w.alloc (.mapIter (some m) clock #[] clock)):=
     S.put (dst:=some it) (E1.trans E2) H2 (fun d hd=>by simp_all) Qow
    have hsz:w.heap.size<(w.alloc (.mapIter (some m) clock #[] clock)).heap.size:=by simp
    have J2:IterAt (c.name n w.heap.size) (w.alloc (.mapIter (some m) clock #[] clock)) n w.heap.size mb mg es.length [] m #[]:=by
     refine⟨?_,⟨fun hO=>absurd (S.heap.inO _ hO) (Nat.lt_irrefl _),fun hF=>absurd (S.heap.inF _ hF) (Nat.lt_irrefl _),hsz⟩,?_,E2.rho _ _ _ hpm,fun i _=>by simp⟩
     ·show(if n=n/\0=0 then some (Place.loc w.heap.size 0)else _)=_;simp
     ·rw[heap_alloc_new,hcl]
    have hr0':w0.heap.size<=w.heap.size:=E.size
    generalize w.heap.size=r at*
    generalize w.alloc (.mapIter (some m) clock #[] clock)=w2 at*
    generalize a.put (some it) (.pointer (some ⟨r,0,none⟩))=a2 at*
    generalize hB2:(⟨up B0.T it (.ptr n 0 0),B0.h.set n (.dead 0)⟩:St)=B2 at*
    generalize c.name n r=c2 at*
    refine wpIn_block ?_
    have key : ∀ (left : Nat) (vis : List Nat) (B : St) (c : Ctx (okc P)) (a : Act) (w : World) (m : Nat) (seen : Array Nat), ((List.range es.length).filter fun i => i ∉ vis).length = left -> I vis B -> SRel N c B a w -> Evo c0 w0 c w -> IterAt c w n r mb mg es.length vis m seen ->
      Lp none P (.seq (.region i7 p.ops7 false) (.seq (.cond (.tmp ok) .skip (.exit b1)) (.block b2 (.seq (.region i8 p.ops8 false) p.body)))) (fun e a' w'=>match e with| .exit j=>if j=b1 then Q' .normal a' w' else Q' (.exit j) a' w'|e=>Q' e a' w') a w:=by
     intro left
     induction left using Nat.strongRecOn with
     | _ left ih =>
      intro vis B c a w m seen hleft hIB S E J
      obtain⟨hit,es',hmapB,hel⟩:=hI vis B hIB
      have hv:=S.tmps it
      rw[hit]at hv
      simp only[VRel]at hv
      obtain⟨cb,bs,hp1,hv⟩:=hv
      rw[J.name]at hp1;cases hp1
      obtain⟨ms,clock,hOm,hCm,hRm,hcl⟩:=S.heap.atMap hmapB J.place
      have hlen:=QbO hRm
      have hborn:∀(i:Nat) (e:MapEntry),ms.toList[i]?=some e->e.born=i/\i<es.length:=by
       intro i e hi
       have:=Qi0 hRm (k:=0) (by omega) i e hi
       omega
      have hold:∀y∈ms.toList,y.born<es.length:=by
       grind [List.mem_iff_getElem?]
      unfold okNext at o7
      split at o7
      ·rename_i oa ob7 h7
       simp only[Bool.and_eq_true,beq_iff_eq,decide_eq_true_eq,Option.isNone_iff_eq_none,Bool.not_eq_true',beq_eq_false_iff_ne]at o7
       obtain⟨⟨⟨⟨⟨⟨⟨⟨⟨q1,q2⟩,q3⟩,q4⟩,q5⟩,q6⟩,q7⟩,q8⟩,q9⟩,q10⟩:=o7
       have h7':p.ops7= #[oa,ob7]:=by grind
       have hround : (Code.seq (.region i7 p.ops7 false) (.seq (.cond (.tmp ok) .skip (.exit b1)) (.block b2 (.seq (.region i8 p.ops8 false) p.body)))).wpIn (FW none) 0 P (fun e a' w' => match e with
         | .normal=>∃left' vis' B' c' m' seen',left'<left/\((List.range es.length).filter fun i=>i∉vis').length=left'/\I vis' B'/\SRel N c' B' a' w'/\Evo c0 w0 c' w'/\IterAt c' w' n r mb mg es.length vis' m' seen'
         | .exit j=>if j=b1 then Q' .normal a' w' else Q' (.exit j) a' w'
         |e=>Q' e a' w') a w:=by
        refine wpIn_seq (wpIn_region ?_)
        rw[h7']
        show wpOpsIn (FW none) 0 P _ _ [0,1] a w
        rw[wpOpsIn_cons]
        split at q4
        ·rename_i j hopa
         have hji:j=it:=by simpa using q4
         subst hji
         split at q8
         ·rename_i j2 hopb
          have hj2:j2=nx:=by simpa using q8
          subst hj2
          have hevi:a.eval (.tmp j)= .pointer (some ⟨r,0,none⟩):=by grind [Act.eval]
          have eA:execOp a.eval oa=(do pure (.value (<-Instr.next (a.eval (.tmp j)) false oa.type))):=by
           cases oa;simp only at hopa;subst hopa;rfl
          have eB:∀(a:Act),execOp a.eval ob7=(do pure (.value (<-Instr.extract (a.eval (.tmp j2)) 0))):=by
           intro a
           cases ob7;simp only at hopb;subst hopb;rfl
          rcases Qmg (P:=P) (ty:=oa.type) J.obj hCm hold (Nat.le_refl _)with⟨h1,h2⟩|⟨e,he,w1,hw1,h2⟩
          ·-- nothing is left
           refine QcA (by simp) q3 (cv:= .tuple #[.bool false]) (w':=w) (by simp_all) ?_
           rw[q1]
           have S1:SRel N c ⟨up B.T j2 .any,B.h⟩ (a.put (some j2) (.tuple #[.bool false])) w:=QeG S q2 (by simp[VRel])
           have hl1:j2<(a.put (some j2) (.tuple #[.bool false])).tmps.size:=by rw[S1.size];exact q2
           have hev1:(a.put (some j2) (.tuple #[.bool false])).eval (.tmp j2)= .tuple #[.bool false]:=by
            simp_all [Act.eval,Act.put]
           rw[wpOpsIn_cons]
           refine QcA (by simp) q7 (cv:= .bool false) (w':=w) (by simp_all [Instr.extract]) ?_
           rw[q5]
           have S2:SRel N c ⟨up (up B.T j2 .any) ok (.bool false),B.h⟩ ((a.put (some j2) (.tuple #[.bool false])).put (some ok) (.bool false)) w:=QeG S1 q6 (by simp[VRel])
           show Exit.then _ _ .normal _ _
           refine wpIn_seq ?_
           have hc2:((a.put (some j2) (.tuple #[.bool false])).put (some ok) (.bool false)).eval (.tmp ok)= .bool false:=by
            have:=S2.tmps ok
            simp_all [lk_up,VRel,Act.eval]
           refine wpIn_cond hc2 ?_
           refine wpIn_exit ?_
           show(if b1=b1 then Q' .normal _ _ else _)
           rw[if_pos rfl]
           refine hQ .normal _ c _ w (done vis B hIB ?_) S2 E
           intro i hi
           have hmi:i<ms.toList.length:=by omega
           have hbi:=hborn i ms.toList[i] (List.getElem?_eq_getElem hmi)
           refine(J.seen i hi).1 ?_
           cases hcs:seen.contains i with
           |true=>rfl
           | false =>
            exfalso
            have hmem:ms.toList[i]∈(leftOf ms seen).toList:=by
             grind [leftOf]
            have:(leftOf ms seen).toList.length=0:=by simpa using h1
            rw[List.length_eq_zero_iff.1 this]at hmem
            cases hmem
          ·-- an entry
           have hem:e∈ms.toList/\seen.contains e.born=false:=by
            simp_all [leftOf]
           obtain⟨i,hi⟩:=List.mem_iff_getElem?.1 hem.1
           obtain⟨hb1,hilt⟩:=hborn i e hi
           have hnv:i∉vis:=by
            intro hiv
            have:=(J.seen i hilt).2 hiv
            simp_all
           have hilt':i<es'.length:=by omega
           have hesi:es'[i]?=some es'[i]:=List.getElem?_eq_getElem hilt'
           obtain⟨e',he',hk1,hk2⟩:=QdU i hRm hesi
           rw[hi]at he';cases he'
           obtain⟨E1,H1⟩:=S.heap.drew
           have Sd:SRel N c B a w1/\Evo c w c w1:=by
            rcases hw1 with rfl|rfl
            ·exact⟨S,.refl _ _⟩
            ·exact⟨⟨H1,fun i=>VRel.mono (E1.ext S.heap.disj) _ _ (S.tmps i),S.size,S.defers.mono E1⟩,E1⟩
           have hr1:w1.heap[r]?=some (.mapIter (some m) es.length seen es.length):=by rcases hw1 with rfl|rfl<;>exact J.obj
           have hC1:w1.heap[m]?=some (.map ms clock):=by rcases hw1 with rfl|rfl<;>exact hCm
           have hmr:m≠r:=by grind
           have S1:=Sd.1.turn (o':= .mapIter (some m) es.length (seen.push e.born) clock) hr1 (by simp_all) J.free.1 J.free.2.1 (by simp_all)
           have E1':Evo c0 w0 c (upo w1 r (.mapIter (some m) es.length (seen.push e.born) clock)):=(E.trans Sd.2).turn hr0'
           have hsz1:r<w1.heap.size:=by grind
           have J1:IterAt c (upo w1 r (.mapIter (some m) es.length (seen.push e.born) clock)) n r mb mg es.length (i::vis) m (seen.push e.born):=by
            refine⟨J.name,⟨J.free.1,J.free.2.1,by grind [QdY]⟩,by simp_all [Qqc],J.place,?_⟩
            intro j hj
            rw[Array.contains_push,List.mem_cons,hb1]
            by_cases hji:j=i
            ·simp[hji]
            ·have : (j == i) = false := by simpa using hji
             simp only[this,Bool.or_false,hji,false_or]
             exact J.seen j hj
           have hC2:(upo w1 r (.mapIter (some m) es.length (seen.push e.born) clock)).heap[m]?=some (.map ms clock):=by simp_all [Qco]
           generalize hw2:upo w1 r (.mapIter (some m) es.length (seen.push e.born) clock)=w2' at*
           refine QcA (by simp) q3 (cv:= .tuple #[.bool true,e.key,e.val]) (w':=w2') (by simp_all) ?_
           rw[q1]
           have S2:SRel N c ⟨up B.T j2 .any,B.h⟩ (a.put (some j2) (.tuple #[.bool true,e.key,e.val])) w2':=QeG S1 q2 (by simp[VRel])
           have hev1:(a.put (some j2) (.tuple #[.bool true,e.key,e.val])).eval (.tmp j2)= .tuple #[.bool true,e.key,e.val]:=by
            have hl0:j2<a.tmps.size:=by rw[S.size];exact q2
            simp[Act.eval,Act.put,hl0]
           rw[wpOpsIn_cons]
           refine QcA (by simp) q7 (cv:= .bool true) (w':=w2') (by simp_all [Instr.extract]) ?_
           rw[q5]
           have S3:SRel N c ⟨up (up B.T j2 .any) ok (.bool true),B.h⟩ ((a.put (some j2) (.tuple #[.bool true,e.key,e.val])).put (some ok) (.bool true)) w2':=QeG S2 q6 (by simp[VRel])
           show Exit.then _ _ .normal _ _
           refine wpIn_seq ?_
           have hc2:((a.put (some j2) (.tuple #[.bool true,e.key,e.val])).put (some ok) (.bool true)).eval (.tmp ok)= .bool true:=by
            have:=S3.tmps ok
            simp_all [lk_up,VRel,Act.eval]
           refine wpIn_cond hc2 ?_
           refine wpIn_skip ?_
           show Exit.then _ _ .normal _ _
           refine wpIn_block (wpIn_seq (wpIn_region ?_))
           unfold okEntry at o8
           split at o8
           ·rename_i oe le h8
            simp only[Bool.and_eq_true,beq_iff_eq,decide_eq_true_eq,Option.isNone_iff_eq_none]at o8
            obtain⟨⟨⟨⟨z1,z2⟩,z3⟩,z4⟩,z5⟩:=o8
            obtain⟨y1,y2⟩:=Qdp z5
            have hs8:p.ops8.size=1+rest.length:=by
             have:p.ops8.toList.length=(oe::le).length:=by rw[h8]
             grind
            have hg8:∀k,p.ops8[k]?=(oe::le)[k]?:=fun k=>by rw[<-h8,Array.getElem?_toList]
            rw[hs8,show List.range (1+rest.length)=0::(List.range' 1 rest.length++[]) by rw[List.range_eq_range',Nat.add_comm,List.range'_succ];simp]
            rw[wpOpsIn_cons]
            split at z4
            ·rename_i j3 hope
             have hj3:j3=j:=by simpa using z4
             subst hj3
             have eE:∀(a:Act),execOp a.eval oe=(do pure (.value (<-Instr.entry (a.eval (.tmp j3))))):=by
              intro a
              cases oe;simp only at hope;subst hope;rfl
             have hev3:((a.put (some j2) (.tuple #[.bool true,e.key,e.val])).put (some ok) (.bool true)).eval (.tmp j3)= .pointer (some ⟨r,0,none⟩):=by
              simp_all [Act.eval,Act.put]
             have hnd:(ms.toList.map (·.born)).Nodup:=by
              grind [List.pairwise_iff_getElem]
             have hobj2:w2'.heap[r]?=some (.mapIter (some m) es.length (seen.push e.born) clock):=by rw[J1.obj,hcl,hel]
             refine QcA (by rw[hg8];rfl) z3 (cv:= .tuple #[e.key,e.val]) (w':=w2') (by rw[eE,hev3];simp[Qku (P:=P) hobj2 hC2 hem.1 hnd]) ?_
             rw[z1]
             have vk:VRel c w2' (es'[i]).1 e.key/\VRel c w2' (es'[i]).2 e.val:=by
              obtain⟨X,_⟩:=Sd.1.heap.other (o':= .mapIter (some m) es.length (seen.push e.born) clock) hr1 (by simp_all) J.free.1 J.free.2.1
              rw[hw2]at X
              exact⟨VRel.mono X _ _ (VRel.mono (Sd.2.ext S.heap.disj) _ _ hk1),VRel.mono X _ _ (VRel.mono (Sd.2.ext S.heap.disj) _ _ hk2)⟩
             have S4:SRel N c ⟨up (up (up B.T j2 .any) ok (.bool true)) en (.tup [(es'[i]).1,(es'[i]).2]),B.h⟩ (((a.put (some j2) (.tuple #[.bool true,e.key,e.val])).put (some ok) (.bool true)).put (some en) (.tuple #[e.key,e.val])) w2':=
              QeG S3 z2 (by simp only[VRel];exact⟨_,rfl,by simp only[VRels];grind⟩)
             obtain⟨bs,fs8,C8,hr8,hbody⟩:=round vis B i (es'[i]).1 (es'[i]).2 es' hIB hnv hmapB hesi
             have hrest:∀k s,rest[k]?=some s->∃o,p.ops8[1+k]?=some o/\okOper P N p.ops8 o s=true:=by
              intro k s hs
              have hlt:k<rest.length:=(List.getElem?_eq_some_iff.1 hs).1
              have hlt8:k<le.length:=by omega
              obtain⟨s',hs',hk⟩:=y2 k le[k] (List.getElem?_eq_getElem hlt8)
              grind
             refine Qir (c0:=c) (w0:=w2') ?_ rest 1 0 fs8 _ c _ w2' hrest hr8 S4 (.refl _ _)
             intro c5 a5 w5 S5 E5
             show Exit.then _ _ .normal _ _
             refine hbody p.body obd c5 a5 w5 S5 none (fun _=>rfl) _ ?_
             intro e2 D c6 a6 w6 hq6 S6 E6
             have E06:Evo c0 w0 c6 w6:=(E1'.trans E5).trans E6
             have J6:=(J1.evo E5).evo E6
             have again:I (i::vis) D->∃left' vis' B' c' m' seen',left'<left/\((List.range es.length).filter fun i=>i∉vis').length=left'/\I vis' B'/\SRel N c' B' a6 w6/\Evo c0 w0 c' w6/\IterAt c' w6 n r mb mg es.length vis' m' seen':=by
              intro hI6
              refine⟨_,i::vis,D,c6,m,_,?_,rfl,hI6,S6,E06,J6⟩
              rw[<-hleft]
              have hsub:((List.range es.length).filter fun j=>j∉i::vis)=(((List.range es.length).filter fun j=>j∉vis).filter fun j=>j≠i):=by
               simp_all
              rw[hsub]
              have hmem:i∈(List.range es.length).filter fun j=>j∉vis:=List.mem_filter.2 ⟨List.mem_range.2 hilt,by simpa using hnv⟩
              exact QfI _ hmem
             cases e2 with
             |normal=>exact again hq6
             |ret=>exact hQ .ret D c6 a6 w6 hq6 S6 E06
             | exit jj =>
              simp only at hq6
              show(if jj=b2 then _ else _)
              split at hq6
              ·simp_all
              ·rename_i e3
               rw[if_neg e3]
               show(if jj=b1 then Q' .normal _ _ else Q' (.exit jj) _ _)
               split at hq6
               ·rename_i e4;rw[if_pos e4];exact hQ .normal D c6 a6 w6 hq6 S6 E06
               ·rename_i e4;rw[if_neg e4];exact hQ (.exit jj) D c6 a6 w6 hq6 S6 E06
            ·cases z4
           ·cases o8
         ·cases q8
        ·cases q4
       refine Lp.round (wpIn_mono hround ?_)
       intro e a' w' hq
       cases e with
       |normal=>
        obtain⟨left',vis',B',c',m',seen',hlt,hl',hI',S',E',J'⟩:=hq
        exact ih left' hlt vis' B' c' a' w' m' seen' hl' hI' S' E' J'
       |exit j=>exact hq
       |goto l=>exact hq
       |ret=>exact hq
       |panic ch=>exact hq
       |outgrown=>exact hq
      ·cases o7
    exact wpIn_mono (key _ [] B2 c2 a2 w2 m #[] rfl h0 S2 E02 J2).loop fun e a' w' hq=>by cases e<;>exact hq
   ·cases g4
  ·cases o6
 ·cases hok
end Go.AM
namespace Go.AM
open Go.RowKit
variable{P:Program}
def WR(P:Program)(base:Nat):Nat->List SOper->Tmps->Heap->(Tmps->Heap->Prop)->Prop|_,[],T,h,K=>K T h|i,s::r,T,h,K=>∃f v h1,StepV P (base+i) s T h v h1 f/\WR P base (i+1) r (putD T s.dst v) h1 K
theorem WR.toF{base:Nat}:∀{r:List SOper}{i:Nat}{T:Tmps}{h:Heap}{K:Tmps->Heap->Prop},WR P base i r T h K->∃fs T' h',RunF P base i r fs ⟨T,h⟩ ⟨T',h'⟩/\K T' h'|[],i,T,h,K,a=>⟨[],T,h,⟨rfl,rfl⟩,a⟩|s::r,i,T,h,K,⟨f,v,h1,d,c⟩=>by obtain⟨fs,T',h',b,a⟩:=WR.toF c;exact⟨f::fs,T',h',⟨f,fs,v,h1,rfl,d,b⟩,a⟩
theorem W.regionR{N:Nat}{Q:SX->St->Prop}{T:Tmps}{h:Heap}{sops:List SOper}{dead:List Nat}(base:Nat)(a:WR P base 0 sops T h fun T h=>Q .normal ⟨rm T dead,h⟩):W P N (.region sops [] dead) Q ⟨T,h⟩:=by grind[WR.toF,W.regionF]
section
variable{base i:Nat}{d:Option Nat}{s:SOp}{af:List Nat}{r:List SOper}{T:Tmps}{h h1:Heap}{K:Tmps->Heap->Prop}{v:AV}
end
end Go.AM
namespace Go.AM
variable{P:Program}
structure NM where
 n:Nat
 m:Nat
variable{ok:Okc}
structure Evo2(m:Nat)(c:Ctx ok)(w:World)(c':Ctx ok)(w':World):Prop where
 os:w'.os=w.os
 tape:w'.tape=w.tape
 output:w'.output=w.output
 size:w.heap.size<=w'.heap.size
 shape:∀(cb:Nat)(C:Array Value)(e:TypeId)(fr:Nat×Nat),w.heap[cb]?=some (.cells C e fr)->∃(C':Array Value)(fr':Nat×Nat),w'.heap[cb]?=some (.cells C' e fr')/\C'.size=C.size
 keep:∀cb,cb<w.heap.size->¬c.O cb->w'.heap[cb]?=w.heap[cb]?
 rho:∀b g p,b<m->c.ρ b g=some p->c'.ρ b g=some p
 frz:∀cb,c.F cb->c'.F cb
 frzNew:∀cb,c'.F cb->c.F cb\/c.O cb\/w.heap.size<=cb
 own:∀cb,c'.O cb->c.O cb\/w.heap.size<=cb
 base:c'.base=c.base
theorem Evo.to2{m:Nat}{c c':Ctx ok}{w w':World}(E:Evo c w c' w'):Evo2 m c w c' w':=⟨E.os,E.tape,E.output,E.size,E.shape,E.keep,fun b g p _ h=>E.rho b g p h,E.frz,E.frzNew,E.own,E.base⟩
theorem Marks.mono2{m:Nat}{c c':Ctx ok}{w w':World}(E:Evo2 m c w c' w'):∀{ds:List Deferred},Marks c w ds->Marks c' w' ds
 |[],h=>by have h:c.base<=w.heap.size:=h;have:=E.size;show c'.base<=w'.heap.size;rw[E.base];omega|d::ds,⟨⟨D,h1,k,a,g,f,i⟩,j⟩=>by
  have b:=Qbe f;refine⟨⟨D,h1,by rw[E.base];exact k,fun h=>?_,fun h=>?_,by rw[E.keep D b a];exact f,i⟩,Marks.mono2 E j⟩
  ·rcases E.own D h with h|h;·exact a h
   omega
  rcases E.frzNew D h with h|h|h;·exact g h
  ·exact a h
  omega
theorem Evo2.trans{m:Nat}{q i o:Ctx ok}{l t k:World}(a:Evo2 m q l i t)(b:Evo2 m i t o k):Evo2 m q l o k where
 os:=b.os.trans a.os;tape:=b.tape.trans a.tape;output:=b.output.trans a.output;size:=Nat.le_trans a.size b.size;shape:=fun c C e w h=>by obtain⟨C',f,u,y⟩:=a.shape c C e w h;obtain⟨C'',j,x,v⟩:=b.shape c C' e f u;simp_all
 keep:=fun c d s=>by rw[b.keep c (Nat.lt_of_lt_of_le d a.size) (fun h=>(a.own c h).elim s (by omega)),a.keep c d s]
 rho:=fun A g p r h=>b.rho _ _ _ r (a.rho _ _ _ r h);frz:=fun c h=>b.frz _ (a.frz _ h);frzNew:=fun c h=>by
  rcases b.frzNew c h with h|h|h;·exact a.frzNew c h
  ·rcases a.own c h with h|h;·simp_all
   omega
  exact .inr (.inr (Nat.le_trans a.size h))
 own:=fun c h=>by
  rcases b.own c h with h|h;·exact a.own c h
  exact .inr (Nat.le_trans a.size h)
 base:=b.base.trans a.base
def W2(P:Program)(N:NM)(d:SCode)(Q:SX->St->Prop)(A:St):Prop:=∀code,okCode P N.n code d=true->∀(c:Ctx (okc P))(a:Act)(w:World),SRel N.n c A a w->∀(ro:Option Nat),(d.rf=true->ro=none)->∀(Q':Exit->Act->World->Prop),(∀e B f g b,Q e B->SRel N.n f B g b->Evo2 N.m c w f b->Q' e.toExit g b)->code.wpIn (FW ro) 0 P Q' a w
section rules
variable{N:NM}{Q:SX->St->Prop}{A:St}
theorem W2.of_W{f:SCode}(h:W P N.n f Q A):W2 P N f Q A:=fun code b c a w S ro d R k=>h code b c a w S ro d R fun e B i g j l S' E'=>k e B i g j l S' E'.to2
theorem W2.mono{f:SCode}{Q':SX->St->Prop}(h:W2 P N f Q A)(j:∀e B,Q e B->Q' e B):W2 P N f Q' A:=fun code b c a w S ro d R l=>h code b c a w S ro d R fun e B g i k m S' E'=>l e B g i k (j e B m) S' E'
theorem W2.congr{f:SCode}{B:St}(h:W2 P N f Q A)(e:SEq B A):W2 P N f Q B:=fun code b c a w S ro d R g=>h code b c a w (S.congr e) ro d R g
theorem W2.skip(h:Q .normal A):W2 P N .skip Q A:=.of_W (.skip h)
theorem W2.ret(h:Q .ret A):W2 P N .ret Q A:=.of_W (.ret h)
theorem W2.exit{i:Nat}(h:Q (.exit i) A):W2 P N (.exit i) Q A:=.of_W (.exit h)
theorem W2.seq{x y:SCode}(h:W2 P N x (fun e B=>match e with|.normal=>W2 P N y Q B|e=>Q e B) A):W2 P N (.seq x y) Q A:=by intro code b c a w S ro d Q' k;cases code<;>simp only[okCode,Bool.false_eq_true,Bool.and_eq_true]at b;rename_i m cy;refine wpIn_seq (h m b.1 c a w S ro (fun e=>d (by simp[SCode.rf,e])) _ ?_);intro e B g l j f S' E';cases e with|normal=>exact f cy b.2 g l j S' ro (fun e=>d (by simp[SCode.rf,e])) Q' fun q B2 s o r p S2 E2=>k q B2 s o r p S2 (E'.trans E2)|exit i=>exact k (.exit i) B g l j f S' E'|ret=>exact k .ret B g l j f S' E'
theorem W2.cond{x:Opd}{y z:SCode}{t:Bool}(h:ev A.T x=.bool t)(h1:t=true->W2 P N y Q A)(j:t=false->W2 P N z Q A):W2 P N (.cond x y z) Q A:=by intro code b c a w S ro d Q' g;cases code<;>simp only[okCode,Bool.false_eq_true,Bool.and_eq_true]at b;rename_i o cy i;have f:=Qat S.tmps b.1.1;rw[h]at f;simp only[VRel]at f;refine wpIn_cond f ?_;cases t with|true=>exact h1 rfl cy b.1.2 c a w S ro (fun e=>d (by simp[SCode.rf,e])) Q' g|false=>exact j rfl i b.2 c a w S ro (fun e=>d (by simp[SCode.rf,e])) Q' g
theorem W2.block{i:Nat}{b:SCode}(h:W2 P N b (fun e B=>match e with|.exit j=>if j=i then Q .normal B else Q (.exit j) B|e=>Q e B) A):W2 P N (.block i b) Q A:=by intro code d c a w S ro p Q' o;cases code<;>simp only[okCode,Bool.false_eq_true,Bool.and_eq_true,beq_iff_eq]at d;rename_i j q;obtain⟨rfl,d⟩:=d;refine wpIn_block (h q d c a w S ro (fun e=>p (by simp[SCode.rf,e])) _ ?_);intro e B m g l f S' E';cases e with|normal=>exact o .normal B m g l f S' E'|ret=>exact o .ret B m g l f S' E'|exit k=>
 simp only at f;show(if k=j then Q' .normal g l else Q' (.exit k) g l);split;·rename_i e;rw[if_pos e]at f;exact o .normal B m g l f S' E'
 rename_i e;rw[if_neg e]at f;exact o (.exit k) B m g l f S' E'
def WL2(P:Program)(N:NM)(b:SCode)(Q:SX->St->Prop)(A:St):Prop:=∀f,okCode P N.n f b=true->∀(c:Ctx (okc P))(a:Act)(w:World),SRel N.n c A a w->∀(ro:Option Nat),(b.rf=true->ro=none)->∀(Q':Exit->Act->World->Prop),(∀e B g h d,Q e B->SRel N.n g B h d->Evo2 N.m c w g d->Q' e.toExit h d)->Lp ro P f Q' a w
theorem WL2.loop{b:SCode}(h:WL2 P N b Q A):W2 P N (.loop b) Q A:=by intro code d c a w S ro f Q' g;cases code<;>simp only[okCode,Bool.false_eq_true]at d;exact(h _ d c a w S ro (fun e=>f (by simp[SCode.rf,e])) Q' g).loop
theorem WL2.round{b:SCode}(h:W2 P N b (fun e B=>match e with|.normal=>WL2 P N b Q B|e=>Q e B) A):WL2 P N b Q A:=by intro o f c a w S ro d Q' j;refine Lp.round (h o f c a w S ro d _ ?_);intro e B l k m g S2 E2;cases e with|normal=>exact g o f l k m S2 ro d Q' fun s B3 p r t q S3 E3=>j s B3 p r t q S3 (E2.trans E3)|ret=>exact j .ret B l k m g S2 E2|exit i=>exact j (.exit i) B l k m g S2 E2
theorem W2.loop{b:SCode}(I:Nat->St->Prop)(n:Nat)(g:I n A)(round:∀n B,I n B->W2 P N b (fun e C=>match e with|.normal=>∃m,m<n/\I m C|e=>Q e C) B):W2 P N (.loop b) Q A:=by
 refine WL2.loop ?_;have key:∀n B,I n B->WL2 P N b Q B:=by intro n;induction n using Nat.strongRecOn with|_ n d=>intro B f;refine WL2.round ((round n B f).mono ?_);intro e C c;cases e with|normal=>obtain⟨m,hm,a⟩:=c;exact d m hm C a|exit i=>exact c|ret=>exact c
 grind
end rules
inductive Src where|nil|blk(b g:Nat)
def Mapped(m:Nat)(π:Nat->Option Src)(h:Heap)(c:Ctx ok)(k:Nat):Prop:=(∃b g base,b<m/\Live h b g/\c.ρ b g=some (.loc k base))\/∃a b g base,m<=a/\π a=some (.blk b g)/\c.ρ b g=some (.loc k base)
def nctx(m:Nat)(π:Nat->Option Src)(h:Heap)(c:Ctx ok):Ctx ok where ρ:=fun a d=>if a<m then c.ρ a d else if d=0 then(match π a with|some .nil=>some .nil|some (.blk b g)=>c.ρ b g|none=>none)else none;F:=fun k=>c.F k\/(c.O k/\¬Mapped m π h c k);O:=fun k=>c.O k/\Mapped m π h c k;base:=c.base
structure Maps(m:Nat)(π:Nat->Option Src)(h:Heap):Prop where
 live:∀b' b g,m<=b'->π b'=some (.blk b g)->Live h b g/\m<=b
 inj:∀b1 b2 b g g2,m<=b1->m<=b2->π b1=some (.blk b g)->π b2=some (.blk b g2)->b1=b2
def Rn(m:Nat)(π:Nat->Option Src)(h:Heap)(x y:AV):Prop:=∀(ok:Okc)(c:Ctx ok)(w:World)(v:Value),HRel c h w->Maps m π h->VRel c w y v->VRel (nctx m π h c) w x v
def RnL(m:Nat)(π:Nat->Option Src)(h:Heap):List AV->List AV->Prop|[],[]=>True|x::xs,y::a=>Rn m π h x y/\RnL m π h xs a|_,_=>False
def RnM(m:Nat)(π:Nat->Option Src)(h:Heap):List (AV×AV)->List (AV×AV)->Prop|[],[]=>True|x::xs,y::a=>(Rn m π h x.1 y.1/\Rn m π h x.2 y.2)/\RnM m π h xs a|_,_=>False
section
variable{m:Nat}{π:Nat->Option Src}{h:Heap}
theorem QbY{c:Ctx ok}{b g:Nat}(hm:b<m):(nctx m π h c).ρ b g=c.ρ b g:=if_pos hm
theorem QdZ{c:Ctx ok}{a b g:Nat}(hm:m<=a)(hp:π a=some (.blk b g)):(nctx m π h c).ρ a 0=c.ρ b g:=by show(if a<m then c.ρ a 0 else if 0=0 then(match π a with|some .nil=>some .nil|some (.blk b g)=>c.ρ b g|none=>none)else none)=_;grind
theorem Qhf{c:Ctx ok}{a:Nat}(hm:m<=a)(hp:π a=some .nil):(nctx m π h c).ρ a 0=some .nil:=by show(if a<m then c.ρ a 0 else if 0=0 then(match π a with|some .nil=>some .nil|some (.blk b g)=>c.ρ b g|none=>none)else none)=_;grind
theorem Qi1{c:Ctx ok}{a g:Nat}(hm:m<=a)(hp:π a=none):(nctx m π h c).ρ a g=none:=by show(if a<m then c.ρ a g else if g=0 then(match π a with|some .nil=>some .nil|some (.blk b g)=>c.ρ b g|none=>none)else none)=_;grind
theorem QnJ{c:Ctx ok}{a g:Nat}(hm:m<=a)(d:g≠0):(nctx m π h c).ρ a g=none:=by show(if a<m then c.ρ a g else if g=0 then(match π a with|some .nil=>some .nil|some (.blk b g)=>c.ρ b g|none=>none)else none)=_;grind
theorem Rn.any{y:AV}:Rn m π h .any y:=fun _ c w v _ _ _=>by simp[VRel]
theorem Rn.same{x:AV}(b:noRef x=true):Rn m π h x x:=fun _ c w v _ _ d=>VRel.noRef (c:=c) (c':=nctx m π h c) (fun _ a=>.inl a) _ _ b d
theorem Rn.ptr{a b g off:Nat}(hm:m<=a)(hp:π a=some (.blk b g)):Rn m π h (.ptr a 0 off) (.ptr b g off):=fun _ c w v _ _ d=>by grind[VRel,QdZ]
theorem Rn.map{a b g:Nat}(hm:m<=a)(hp:π a=some (.blk b g)):Rn m π h (.map a 0) (.map b g):=fun _ c w v _ _ d=>by grind[VRel,QdZ]
theorem Rn.sl{a b g off len sz:Nat}(hm:m<=a)(hp:π a=some (.blk b g)):Rn m π h (.sl a 0 off len sz) (.sl b g off len sz):=fun _ c w v _ _ d=>by grind[QdZ,VRel]
theorem Rn.slnil{a sz:Nat}(hm:m<=a)(hp:π a=some .nil):Rn m π h (.sl a 0 0 0 sz) .nilsl:=fun _ c w v _ _ b=>by simp_all[VRel,Qhf]
theorem Rn.ptrB{b g off:Nat}(hm:b<m):Rn m π h (.ptr b g off) (.ptr b g off):=fun _ c w v _ _ a=>by simp_all[QbY,VRel]
theorem Rn.mapB{b g:Nat}(hm:b<m):Rn m π h (.map b g) (.map b g):=fun _ c w v _ _ a=>by simp_all[QbY,VRel]
theorem Rn.slB{b g off len sz:Nat}(hm:b<m):Rn m π h (.sl b g off len sz) (.sl b g off len sz):=fun _ c w v _ _ a=>by simp_all[QbY,VRel]
theorem Rn.frznil{sz:Nat}:Rn m π h (.fsl [] 0 sz) .nilsl:=fun _ c w v _ _ a=>by simp_all[VRel]
theorem Rn.frzesl{sz:Nat}:Rn m π h (.fsl [] 0 sz) .esl:=fun _ c w v _ _ a=>by simp_all[VRel]
theorem RnL.same:∀{xs:List AV},noRefs xs=true->RnL m π h xs xs|[],_=>trivial|x::xs,a=>by simp only[noRefs,Bool.and_eq_true]at a;exact⟨Rn.same a.1,RnL.same a.2⟩
theorem RnL.eq{xs ys:List AV}(e:xs=ys)(a:noRefs xs=true):RnL m π h xs ys:=e▸RnL.same a
theorem RnL.length:∀{xs ys:List AV},RnL m π h xs ys->xs.length=ys.length|[],[],_=>rfl|[],_::_,a=>a.elim|_::_,[],a=>a.elim|x::xs,y::ys,a=>by simp[RnL.length a.2]
theorem RnL.append:∀{xs ys us vs:List AV},RnL m π h xs ys->RnL m π h us vs->RnL m π h (xs++us) (ys++vs)|[],[],_,_,_,b=>b|[],_::_,_,_,a,_=>a.elim|_::_,[],_,_,a,_=>a.elim|x::xs,y::ys,_,_,a,b=>⟨a.1,RnL.append a.2 b⟩
theorem RnL.one{x y:AV}(a:Rn m π h x y):RnL m π h [x] [y]:=⟨a,trivial⟩
theorem RnL.pre{c:Ctx ok}{w:World}(H:HRel c h w)(M:Maps m π h):∀{xs ys:List AV}{vs:List Value},RnL m π h xs ys->VPre c w ys vs->VPre (nctx m π h c) w xs vs|[],[],_,_,_=>by simp[VPre]|[],_::_,_,a,_=>a.elim|_::_,[],_,a,_=>a.elim|x::xs,y::ys,vs,a,d=>by simp only[VPre]at d⊢;obtain⟨v,b,rfl,f,g⟩:=d;exact⟨v,b,rfl,a.1 _ c w v H M f,RnL.pre H M a.2 g⟩
theorem RnL.rels{c:Ctx ok}{w:World}(H:HRel c h w)(M:Maps m π h):∀{xs ys:List AV}{vs:List Value},RnL m π h xs ys->VRels c w ys vs->VRels (nctx m π h c) w xs vs|[],[],_,_,b=>by grind[VRels]|[],_::_,_,a,_=>a.elim|_::_,[],_,a,_=>a.elim|x::xs,y::ys,vs,a,b=>by simp only[VRels]at b⊢;obtain⟨v,d,rfl,f,g⟩:=b;exact⟨v,d,rfl,a.1 _ c w v H M f,RnL.rels H M a.2 g⟩
theorem Rn.agg{xs ys:List AV}(d:RnL m π h xs ys):Rn m π h (.agg xs) (.agg ys):=fun _ c w v H M a=>by simp only[VRel]at a⊢;obtain⟨b,rfl,a⟩:=a;exact⟨b,rfl,d.rels H M a⟩
theorem Rn.tup{xs ys:List AV}(d:RnL m π h xs ys):Rn m π h (.tup xs) (.tup ys):=fun _ c w v H M a=>by simp only[VRel]at a⊢;obtain⟨b,rfl,a⟩:=a;exact⟨b,rfl,d.rels H M a⟩
theorem Rn.fn{f:Nat}{xs ys us vs:List AV}(j:RnL m π h xs ys)(i:RnL m π h us vs):Rn m π h (.fn f xs us) (.fn f ys vs):=fun _ c w v H M a=>by simp only[VRel]at a⊢;obtain⟨g,d,rfl,h1,b⟩:=a;exact⟨g,d,rfl,j.rels H M h1,i.rels H M b⟩
theorem Rn.typed{t n:Nat}{x y:AV}(b:Rn m π h x y):Rn m π h (.typed t n x) (.typed t n y):=fun _ c w v H M a=>by simp only[VRel]at a⊢;exact⟨a.1,b _ c w _ H M a.2⟩
theorem Maps.out{c:Ctx ok}{w:World}(H:HRel c h w)(M:Maps m π h){b g cb base:Nat}(j:Live h b g)(hp:c.ρ b g=some (.loc cb base))(hm:m<=b)(s:∀d o,m<=d->π d≠some (.blk b o)):¬Mapped m π h c cb:=by
 rintro(⟨p,l,a,h1,f,i⟩|⟨d,p,l,a,k,h1,i⟩);·have :=H.inj _ _ _ _ _ _ _ j f hp i;omega
 obtain⟨q,r⟩:=M.live _ _ _ k h1;have:=H.inj _ _ _ _ _ _ _ j q hp i;simp_all
theorem Rn.frz{b g off len sz:Nat}{cs ds:List AV}(u:h.get b=some (.cells g ds))(hm:m<=b)(E:∀x K,m<=x->π x≠some (.blk b K))(N:off+len*sz<=ds.length)(t:RnL m π h cs ((ds.drop off).take (len*sz))):Rn m π h (.fsl cs len sz) (.sl b g off len sz):=fun _ c w v H M r=>by
 have hlen:=t.length;simp only[VRel]at r;rcases r with⟨hp,rfl,rfl,rfl⟩|⟨J,base,o,cap,C,e,G,hp,rfl,q,s,a⟩;·simp_all[VRel]
 obtain⟨C',O,B,L,f,F,I,j⟩:=H.here u hp;have i:=M.out H ⟨_,u,rfl,fun k=>by simp⟩ hp hm E;rw[s]at f;cases f;by_cases y:cap=0
 ·have p:len=0:=by omega
  subst p;have l:cs=[]:=by simp_all
  subst l;simp only[VRel];simp_all
 obtain⟨rfl,A⟩:=a.resolve_left y;have d:=Qb6 (len*sz) (Qbj off j);rw[List.drop_drop]at d;simp only[VRel];exact .inr ⟨J,base+off,cap,C,e,G,rfl,q,by grind,.inr ⟨L,i⟩,s,t.pre H M d⟩
theorem Rn.frzp{b g off:Nat}{cs ds:List AV}(p:h.get b=some (.cells g ds))(hm:m<=b)(A:∀l t,m<=l->π l≠some (.blk b t))(hc:ds≠[])(u:RnL m π h cs (ds.drop off)):Rn m π h (.fptr cs) (.ptr b g off):=fun _ c w v H M o=>by simp only[VRel]at o;obtain⟨y,base,hp,rfl⟩:=o;obtain⟨C',x,i,s,j,q,r,f⟩:=H.here p hp;have d:=M.out H ⟨_,p,rfl,fun k=>by simp⟩ hp hm A;have a:=Qbj off f;rw[List.drop_drop]at a;simp only[VRel];exact⟨y,base+off,C',x,i,rfl,.inr ⟨s,d⟩,j,u.pre H M a⟩
def BRn(m:Nat)(π:Nat->Option Src)(h:Heap):Option Src->Blk->Prop|some .nil,.cells _ cs=>cs=[]|some (.blk b g),.cells _ cs=>∃c k,h.get b=some (.cells g c)/\RnL m π h cs (c.take k)|some (.blk b g),.map _ es=>∃fs,h.get b=some (.map g fs)/\RnM m π h es fs|some (.blk b g),.loop _ N T d a body st=>∃T0,h.get b=some (.loop g N T0 d a body st)/\∀i,Rn m π h (lk T i) (lk T0 i)|some (.blk b g),.dead _=>h.get b=some (.dead g)|_,_=>False
def RH(m:Nat)(π:Nat->Option Src)(h h':Heap):Prop:=∀b a,h'.get b=some a->(b<m/\BRn m π h (some (.blk b a.gen)) a)\/(m<=b/\a.gen=0/\(∀g,a≠.dead g)/\BRn m π h (π b) a)
def RD(m:Nat)(π:Nat->Option Src)(h h':Heap):Prop:=∀a,h'.get a=none->(a<m->h.get a=none)/\(m<=a->π a=none)
def RT(m:Nat)(π:Nat->Option Src)(h:Heap)(T' T:Tmps):Prop:=∀i,Rn m π h (lk T' i) (lk T i)
theorem RnM.rel{c:Ctx ok}{w:World}(H:HRel c h w)(M:Maps m π h):∀{xs ys:List (AV×AV)}{es:List MapEntry}{k:Nat},RnM m π h xs ys->MRel c w ys es k->MRel (nctx m π h c) w xs es k
 |[],[],_,_,_,b=>by grind[MRel]|[],_::_,_,_,a,_=>a.elim|_::_,[],_,_,a,_=>a.elim|(q,x1)::xs,(p,x2)::ys,es,k,a,b=>by
  simp only[MRel]at b⊢;obtain⟨e,d,rfl,l,i,f,o,j⟩:=b;have r:xs.length=ys.length:=by
   have:∀{xs ys:List (AV×AV)},RnM m π h xs ys->xs.length=ys.length:=by intro xs;induction xs with
    |nil=>intro ys a;cases ys with|nil=>rfl|cons=>exact a.elim
    |cons x xs g=>intro ys a;cases ys with|nil=>exact a.elim|cons y ys=>simp[g a.2]
   exact this a.2
  exact⟨e,d,rfl,a.1.1 _ c w _ H M l,a.1.2 _ c w _ H M i,f,by omega,RnM.rel H M a.2 j⟩
theorem RnM.length:∀{xs ys:List (AV×AV)},RnM m π h xs ys->xs.length=ys.length|[],[],_=>rfl|[],_::_,a=>a.elim|_::_,[],a=>a.elim|x::xs,y::ys,a=>by simp[RnM.length a.2]
theorem RH.hrel{h':Heap}{c:Ctx ok}{w:World}(V:RH m π h h')(hd:RD m π h h')(M:Maps m π h)(H:HRel c h w):HRel (nctx m π h c) h' w:=by
 have base:∀a j,a<m->BRn m π h (some (.blk a j.gen)) j->∃x,h.get a=some x/\x.gen=j.gen/\((∀k,j≠.dead k)->∀k,x≠.dead k):=by intro a j _ f;cases j with|cells g cs=>obtain⟨ds,_,h1,_⟩:=f;exact⟨_,h1,rfl,fun _ k=>by simp⟩|map g es=>obtain⟨ds,h1,_⟩:=f;exact⟨_,h1,rfl,fun _ k=>by simp⟩|loop g N T ps P body st=>obtain⟨T0,h1,_⟩:=f;exact⟨_,h1,rfl,fun _ k=>by simp⟩|dead g=>exact⟨_,f,rfl,fun hh=>absurd rfl (hh g)⟩
 refine⟨?_,?_,?_,?_,?_,?_,?_⟩
 ·intro a Q g;obtain⟨d1,d2⟩:=hd a Q;rcases Nat.lt_or_ge a m with A|A;·rw[QbY A];exact H.fresh a (d1 A) g
  simp_all[Qi1]
 ·intro a j Q g A;rcases V a j Q with⟨hm,f⟩|⟨hm,J,_,f⟩;·obtain⟨x,h1,p,_⟩:=base a j hm f;rw[QbY hm];exact H.later a x h1 g (by omega)
  grind[QnJ]
 ·intro a j Q;have own:∀(b g:Nat),(b<m/\Live h b g)\/(m<=a/\π a=some (.blk b g))->∀o base,c.ρ b g=some (.loc o base)->c.O o->(nctx m π h c).O o:=by
   intro b g v o base hp K;refine⟨K,?_⟩;rcases v with⟨h1,p⟩|⟨h1,p⟩;·exact .inl ⟨b,g,base,h1,p,hp⟩
   exact .inr ⟨a,b,g,base,h1,p,hp⟩
  have main:∀(b g:Nat),((b<m/\Live h b g)\/(m<=a/\π a=some (.blk b g)))\/(∃k,j=.dead k)->(nctx m π h c).ρ a j.gen=c.ρ b g->BRn m π h (some (.blk b g)) j->BRel (nctx m π h c) w a j:=by
   intro b g v F f;cases j with|dead k=>trivial|cells y cs=>
    have v:=v.resolve_right (by simp);obtain⟨ds,kk,h1,p⟩:=f;change(nctx m π h c).ρ a y=_ at F;rcases H.blk b _ h1 with⟨l,rfl⟩|⟨o,bs,C,e,fr,l,q,t,S,k5,k6⟩;·left;refine⟨F.trans l,?_⟩;rw[List.take_nil]at p;cases cs with|nil=>rfl|cons=>exact p.elim
    right;exact⟨o,bs,C,e,fr,F.trans l,own b g v o bs l q,t,S,k5,p.pre H M (Qb6 kk k6)⟩|map y es=>have v:=v.resolve_right (by simp);obtain⟨fs,h1,p⟩:=f;change(nctx m π h c).ρ a y=_ at F;obtain⟨o,Y,clock,l,q,t,S⟩:=H.blk b _ h1;exact⟨o,Y,clock,F.trans l,own b g v o 0 l q,t,p.rel H M S.1,by rw[p.length];exact S.2⟩|loop y N T ps P body st=>have v:=v.resolve_right (by simp);obtain⟨T0,h1,p⟩:=f;change(nctx m π h c).ρ a y=_ at F;obtain⟨o,r,l,q,t,L⟩:=H.blk b _ h1;exact⟨o,r,F.trans l,own b g v o 0 l q,t,L.params,L.size,fun i=>p i _ c w _ H M (L.tmps i),L.okA,L.okB,L.state,L.pend⟩
  rcases V a j Q with⟨hm,f⟩|⟨hm,J,hnd,f⟩
  ·obtain⟨x,h1,p,h3⟩:=base a j hm f;refine main a j.gen ?_ (QbY hm) f;by_cases B:∃k,j=.dead k;·simp_all
   exact .inl (.inl ⟨hm,x,h1,p,h3 fun k e=>B ⟨k,e⟩⟩)
  rcases hp:π a with _|_|⟨b,g⟩;·rw[hp]at f;exact f.elim
  ·rw[hp]at f;cases j with|dead k=>trivial|map y es=>exact f.elim|loop y N T ps P body st=>exact f.elim|cells y cs=>have f:cs=[]:=f;have J:y=0:=J;subst J;left;exact⟨Qhf hm hp,f⟩
  grind[QdZ]
 ·intro s G b2 g2 o d E l1 l2 O p2;have key:∀s G d,Live h' s G->(nctx m π h c).ρ s G=some (.loc o d)->(s<m/\Live h s G/\c.ρ s G=some (.loc o d))\/(m<=s/\∃b g,π s=some (.blk b g)/\c.ρ b g=some (.loc o d)):=by
   rintro s G d⟨x1,X,rfl,Z⟩O;rcases V s x1 X with⟨hm,f⟩|⟨hm,J,hnd,f⟩;·rw[QbY hm]at O;obtain⟨x,l,q,t⟩:=base s x1 hm f;exact .inl ⟨hm,⟨x,l,q,t Z⟩,O⟩
   rw[J]at O;rcases hp:π s with _|_|⟨b,g⟩;·simp_all[Qi1]
   ·simp_all[Qhf]
   rw[QdZ hm hp]at O;grind
  rcases key s G d l1 O with⟨l,q,t⟩|⟨l,b,g,q,t⟩<;>rcases key b2 g2 E l2 p2 with⟨U,I,R⟩|⟨U,a,y,I,R⟩;·exact H.inj _ _ _ _ _ _ _ q I t R
  ·obtain⟨q1,q2⟩:=M.live _ _ _ U I;have:=H.inj _ _ _ _ _ _ _ q q1 t R;omega
  ·obtain⟨q1,q2⟩:=M.live _ _ _ l q;have:=H.inj _ _ _ _ _ _ _ q1 I t R;omega
  obtain⟨q1,q2⟩:=M.live _ _ _ U I;obtain⟨r1,r2⟩:=M.live _ _ _ l q;have:=H.inj _ _ _ _ _ _ _ r1 q1 t R;subst this;exact M.inj _ _ _ _ _ l U q I
 ·intro k u K;rcases u with u|u;·exact H.disj k u K.1
  exact u.2 K.2
 ·intro k u;rcases u with u|u;·exact H.inF k u
  exact H.inO k u.1
 intro k K;exact H.inO k K.1
theorem Qd0(c:Ctx ok)(w:World):Evo2 m c w (nctx m π h c) w:=⟨rfl,rfl,rfl,Nat.le_refl _,fun _ C _ f i=>⟨C,f,i,rfl⟩,fun _ _ _=>rfl,fun b g p d hp=>(QbY d).trans hp,fun _ a=>.inl a,fun k a=>a.elim .inl fun a=>.inr (.inl a.1),fun k a=>.inl a.1,rfl⟩
theorem W2.recast{N:NM}{f:SCode}{Q:SX->St->Prop}{T T':Tmps}{h':Heap}(M:Maps N.m π h)(q:RH N.m π h h')(o:RD N.m π h h')(m:RT N.m π h T' T)(hw:W2 P N f Q ⟨T',h'⟩):W2 P N f Q ⟨T,h⟩:=by intro code b c a w S ro d Q' p;refine hw code b (nctx N.m π h c) a w ⟨q.hrel o M S.heap,fun i=>m i _ c w _ S.heap M (S.tmps i),S.size,S.defers.mono2 (Qd0 (m:=N.m) (π:=π) (h:=h) c w)⟩ ro d Q' ?_;intro e B g k j l S' E';exact p e B g k j l S' ((Qd0 c w).trans E')
end
theorem Evo2.rebase{m:Nat}{c c':Ctx ok}{w w':World}{n:Nat}(E:Evo2 m (c.rb n) w c' w'):Evo2 m c w (c'.rb (c.base)) w':=⟨E.os,E.tape,E.output,E.size,E.shape,E.keep,E.rho,E.frz,E.frzNew,E.own,rfl⟩
theorem QhK{m:Nat}{c0:Ctx (okc P)}{w0:World}{fn:Func}{a:Act}{T:Tmps}{h:Heap}{c:Ctx (okc P)}{R:Ending->World->Prop}(s:w0.heap.size<=c.base)(fin:∀w,HRel c h w->TRel c w T a->Evo2 m c0 w0 c w->∃v,(results fn a.tmps).run P w=.ok v w/\R (.returned v) w):∀(ds:List Deferred)(w:World),Marks c w ds->HRel c h w->TRel c w T a->Evo2 m c0 w0 c w->LeavesInM Fence.wide 0 P fn a.tmps R ds .returning w
 |[],w,_,H,f,E=>fin w H f E|d::ds,w,⟨⟨D,h1,S,A,p,o,y⟩,l⟩,H,f,E=>by
  obtain⟨H',X⟩:=H.mark (o:=.deferred none) A p o;have other:∀k,k≠D->(w.putObj D (.deferred none)).heap[k]?=w.heap[k]?:=fun k I=>World.putObj_heap_other I;refine⟨by simp,.inl ⟨D,w.putObj D (.deferred none),by rw[h1],run_takeDeferred o,?_⟩⟩;refine QhK s fin ds _ ?_ H' (fun i=>VRel.mono X _ _ (f i)) ?_;·clear fin;induction ds with|nil=>show c.base<=_;rw[World.putObj_size];exact l|cons Q ds F=>
   obtain⟨⟨D2,r,u,B,t,J,q⟩,M⟩:=l;refine⟨⟨D2,r,u,B,t,?_,q⟩,F (fun K j=>y K (List.mem_cons_of_mem _ j)) M⟩;rw[other D2 (fun e=>?_)];·exact J
   simp_all
  refine⟨E.os,E.tape,E.output,by grind[World.putObj_size],fun b C e G hc=>?_,fun b g L=>?_,E.rho,E.frz,E.frzNew,E.own,E.base⟩;·obtain⟨C',x,N,O⟩:=E.shape b C e G hc;grind
  rw[other b (by omega)];exact E.keep b g L
theorem Qc2{f m:Nat}{sf:SFn}{args:List AV}{h:Heap}{R:List AV->Heap->Prop}(b:okFn P f sf=true)(u:args.length<=sf.n)(hw:W2 P ⟨sf.n,m⟩ sf.body (fun e B=>(e=.normal\/e=.ret)/\∃vs,resV B.T B.h sf.res=some vs/\R vs B.h) ⟨argT 0 args,h⟩){c:Ctx (okc P)}{w:World}{a:Array Value}(H:HRel c h w)(k:VRels c w args a.toList):Calls P f a w fun e w'=>∃cv c' vs h',e=.returned cv/\Evo2 m c w c' w'/\HRel c' h' w'/\VRel c' w' (resOf vs) cv/\R vs h':=by
 obtain⟨fn,code,hf,l,hc,v,q,_⟩:=Qb8 b;have hlen:=QaC k;have hlen:args.length=a.size:=by omega
 refine(callsIn_wide (n:=0)).1 (callsIn_of_wp_marks hf l trivial ?_);refine hw code hc (c.rb (w.heap.size)) _ w ⟨H.rebase _,?_,?_,Nat.le_refl _⟩ none (fun _=>rfl) _ ?_
 ·intro i;refine VRel.rebase _ ?_;by_cases hi:i<args.length
  ·have :=Qhd args a.toList 0 [] i k rfl;simp only[List.nil_append]at this;have e:(a++Array.replicate (fn.ntmps-a.size) undef).getD i undef=a.toList.getD i undef:=by simp_all[Array.getElem?_append_left]
   simp_all
  simp_all[Qhe,VRel]
 ·simp;omega
 intro e B c' d w' p S' E';obtain⟨he,vs,j,o⟩:=p;have out:LeavesInM Fence.wide 0 P fn d.tmps (fun e w'=>∃cv c' vs h',e=.returned cv/\Evo2 m c w c' w'/\HRel c' h' w'/\VRel c' w' (resOf vs) cv/\R vs h') d.defers .returning w':=by refine QhK (m:=m) (c0:=(c.rb (w.heap.size))) (w0:=w) (T:=B.T) (h:=B.h) (c:=c') (by rw[E'.base];simp_all) ?_ d.defers w' S'.defers S'.heap S'.tmps E';intro t H2 g E2;obtain⟨cv,r,s⟩:=Qfs H2 g q j;exact⟨cv,r,cv,(c'.rb (c.base)),vs,B.h,rfl,E2.rebase,H2.rebase _,s.rebase _,o⟩
 rcases he with rfl|rfl;·exact out
 exact out
abbrev π0:Nat->Option Src:=fun _=>none
theorem maps0{h:Heap}:Maps 0 π0 h:=⟨fun f b g _ a=>by simp_all,fun c b2 b g d _ _ a _=>by simp_all⟩
theorem PSpec.of_W2{f:Nat}{sf:SFn}{args:List AV}{v:AV}(i:okFn P f sf=true)(t:args.length<=sf.n)(l:noRefs args=true)(q:noRef v=true)(hw:W2 P ⟨sf.n,0⟩ sf.body (fun e B=>(e=.normal\/e=.ret)/\∃vs,resV B.T B.h sf.res=some vs/\Rn 0 π0 B.h v (resOf vs)) ⟨argT 0 args,.e⟩):PSpec P f args v:=by
 obtain⟨_,_,_,_,_,_,_,hc⟩:=Qb8 i;refine⟨l,q,.e,hc,fun c w j H l=>(Qc2 (R:=fun vs k=>Rn 0 π0 k v (resOf vs)) i t hw H l).mono ?_⟩;rintro e o⟨m,d,vs,k,rfl,E,H',V,s⟩;have V':=s _ d o m H' maps0 V;have r:∀b,d.F b\/d.O b->b<o.heap.size:=fun b a=>a.elim (H'.inF b) (H'.inO b);refine⟨m,only (fun b=>d.F b\/d.O b) c.base,rfl,?_,HRel.only r,VRel.noRef (c:=nctx 0 π0 k d) (c':=only (fun b=>d.F b\/d.O b) c.base) (fun _ h=>h.elim .inl fun h=>.inr h.1) _ _ q V'⟩;refine⟨E.os,E.tape,E.output,E.size,E.shape,E.keep,fun b g p hp=>?_,fun b a=>.inl (E.frz b a),fun b a=>?_,fun b a=>a.elim,rfl⟩;·rw[H.fresh b rfl g]at hp;cases hp
 rcases a with a|a;·exact E.frzNew b a
 rcases E.own b a with h1|h1;·simp_all
 omega
theorem HSpec.of_W2{f m:Nat}{sf:SFn}{args:List AV}{h h':Heap}{v:AV}(a:okFn P f sf=true)(t:args.length<=sf.n)(hm:∀b,m<=b->h.get b=none)(hw:W2 P ⟨sf.n,m⟩ sf.body (fun e B=>(e=.normal\/e=.ret)/\∃vs π,resV B.T B.h sf.res=some vs/\Maps m π B.h/\RH m π B.h h'/\RD m π B.h h'/\Rn m π B.h v (resOf vs)) ⟨argT 0 args,h⟩):HSpec P f args h v h':=by
 obtain⟨_,_,_,_,_,_,_,hc⟩:=Qb8 a;refine⟨hc,fun c w i H r=>(Qc2 (R:=fun vs k=>∃π,Maps m π k/\RH m π k h'/\RD m π k h'/\Rn m π k v (resOf vs)) a t (hw.mono fun e B⟨h1,vs,π,o,x⟩=>⟨h1,vs,o,π,x⟩) H r).mono ?_⟩;rintro e j⟨l,d,vs,k,rfl,E,H',V,π,M,u,q,s⟩;have E2:=E.trans (Qd0 (m:=m) (π:=π) (h:=k) d j);refine⟨l,nctx m π k d,rfl,?_,u.hrel q M H',s _ d j l H' M V⟩;refine⟨E2.os,E2.tape,E2.output,E2.size,E2.shape,E2.keep,fun b g p hp=>?_,E2.frz,E2.frzNew,E2.own,E2.base⟩;rcases Nat.lt_or_ge b m with h1|h1;·exact E2.rho b g p h1 hp
 rw[H.fresh b (hm b h1) g]at hp;cases hp
end Go.AM
namespace Go.AM
variable{P:Program}
def wpR(P:Program):Nat->List SOper->Tmps->Heap->(Tmps->Heap->Nat->Prop)->Prop|n,[],T,h,K=>K T h n|n,s::r,T,h,K=>∃v h1 f,StepV P n s T h v h1 f/\wpR P (n+1) r (putD T s.dst v) h1 K
theorem wpR.toWR:∀{r:List SOper}{n i:Nat}{T:Tmps}{h:Heap}{K:Tmps->Heap->Nat->Prop},wpR P (n+i) r T h K->WR P n i r T h fun T h=>K T h (n+i+r.length)|[],n,i,T,h,K,a=>a|s::r,n,i,T,h,K,⟨v,h1,f,c,b⟩=>by refine⟨f,v,h1,c,?_⟩;have:=wpR.toWR (i:=i+1) b;grind
def wpRF(P:Program):Nat->List SOper->Tmps->Heap->(List FP->Tmps->Heap->Nat->Prop)->Prop|n,[],T,h,K=>K [] T h n|n,s::r,T,h,K=>∃v h1 f,StepV P n s T h v h1 f/\wpRF P (n+1) r (putD T s.dst v) h1 fun fs T h n=>K (f::fs) T h n
theorem wpRF.toF:∀{r:List SOper}{n i:Nat}{T:Tmps}{h:Heap}{K:List FP->Tmps->Heap->Nat->Prop},wpRF P (n+i) r T h K->∃fs T' h',RunF P n i r fs ⟨T,h⟩ ⟨T',h'⟩/\K fs T' h' (n+i+r.length)|[],n,i,T,h,K,a=>⟨[],T,h,⟨rfl,rfl⟩,a⟩|s::r,n,i,T,h,K,⟨v,h1,f,d,c⟩=>by obtain⟨fs,T',h',b,a⟩:=wpRF.toF (i:=i+1) c;refine⟨f::fs,T',h',⟨f,fs,v,h1,rfl,d,b⟩,?_⟩;grind
abbrev QC:=SX->Tmps->Heap->Nat->Prop
def wpC(P:Program)(N:NM):SCode->Nat->Tmps->Heap->QC->Prop
 |.skip,n,T,h,Q=>Q .normal T h n|.ret,n,T,h,Q=>Q .ret T h n|.exit i,n,T,h,Q=>Q (.exit i) T h n|.bad,_,_,_,_=>False|.mloop pre x it f ok k l b2 rest body,n,T,h,Q=>W2 P N (.mloop pre x it f ok k l b2 rest body) (fun e B=>∃n,Q e B.T B.h n) ⟨T,h⟩|.rfunc g c M d body,n,T,h,Q=>W2 P N (.rfunc g c M d body) (fun e B=>∃n,Q e B.T B.h n) ⟨T,h⟩|.region ops [] dead,n,T,h,Q=>wpR P n ops T h fun T h n=>Q .normal (rm T dead) h n|.region ops (p::c) dead,n,T,h,Q=>wpRF P n ops T h fun fs T h n=>((p::c).all fun p=>(fs.getD p.1 ⟨false,[],[]⟩).apart (fs.getD p.2 ⟨false,[],[]⟩))=true/\Q .normal (rm T dead) h n|.seq a b,n,T,h,Q=>wpC P N a n T h fun e T h n=>match e with|.normal=>wpC P N b n T h Q|e=>Q e T h n
 |.cond x a b,n,T,h,Q=>∃t,ev T x=.bool t/\if t=true then wpC P N a n T h Q else wpC P N b n T h Q|.block i b,n,T,h,Q=>wpC P N b n T h fun e T h n=>match e with|.exit j=>if j=i then Q .normal T h n else Q (.exit j) T h n|e=>Q e T h n
 |.loop b,n,T,h,Q=>W2 P N (.loop b) (fun e B=>∃n,Q e B.T B.h n) ⟨T,h⟩
theorem wpC.toW{N:NM}:∀{c:SCode}{n:Nat}{T:Tmps}{h:Heap}{Q:QC},wpC P N c n T h Q->W2 P N c (fun e B=>∃n,Q e B.T B.h n) ⟨T,h⟩
 |.skip,n,T,h,Q,d=>W2.skip ⟨n,d⟩|.ret,n,T,h,Q,d=>W2.ret ⟨n,d⟩|.exit i,n,T,h,Q,d=>W2.exit ⟨n,d⟩|.bad,_,_,_,_,d=>d.elim|.mloop ..,n,T,h,Q,d=>d|.rfunc ..,n,T,h,Q,d=>d|.region ops [] dead,n,T,h,Q,d=>by have:=wpR.toWR (i:=0) d;exact W2.of_W<|W.regionR n (this|>fun h=>by simpa using(show _ from(wr_mono h)))|.region ops (p::E) dead,n,T,h,Q,d=>by obtain⟨fs,T',C,h1,u,y⟩:=wpRF.toF (i:=0) d;exact W2.of_W<|W.regionF n fs h1 u ⟨_,y⟩|.seq a b,n,T,h,Q,d=>by simp only[wpC]at d;refine W2.seq ((wpC.toW (c:=a) d).mono ?_);rintro e B⟨k,g⟩;cases e with|normal=>exact wpC.toW g|exit i=>exact⟨k,g⟩|ret=>exact⟨k,g⟩
 |.cond x a b,n,T,h,Q,⟨t,A,d⟩=>by
  refine W2.cond A ?_ ?_;·intro e;rw[if_pos e]at d;exact wpC.toW d
  intro e;rw[if_neg (by simp[e])]at d;exact wpC.toW d|.block i b,n,T,h,Q,d=>by simp only[wpC]at d;refine W2.block ((wpC.toW (c:=b) d).mono ?_);rintro e B⟨k,g⟩;cases e with|normal=>exact⟨k,g⟩|ret=>exact⟨k,g⟩|exit j=>
   simp only at g⊢;split;·rename_i e;rw[if_pos e]at g;exact⟨k,g⟩
   rename_i e;rw[if_neg e]at g;exact⟨k,g⟩
 |.loop b,n,T,h,Q,d=>d where
 wr_mono{ops:List SOper}{n:Nat}{T:Tmps}{h:Heap}{dead:List Nat}{Q:QC}{m:Nat}(d:WR P n 0 ops T h fun T h=>Q .normal (rm T dead) h m):WR P n 0 ops T h fun T h=>∃n,Q .normal (rm T dead) h n:=by
  have:∀{r:List SOper}{i:Nat}{T:Tmps}{h:Heap}{K K':Tmps->Heap->Prop},WR P n i r T h K->(∀T h,K T h->K' T h)->WR P n i r T h K':=by intro r;induction r with|nil=>intro i T h K K' d l;exact l _ _ d|cons s r w=>intro i T h K K'⟨f,v,h1,q,o⟩l;exact⟨f,v,h1,q,w o l⟩
  exact this d fun T h g=>⟨m,g⟩
end Go.AM
namespace Go.AM
variable{P:Program}
inductive Fr where|sq(b:SCode)|blk(i:Nat)
def ct(P:Program)(N:NM):List Fr->QC->QC
 |[],Q=>Q|.sq b::fs,Q=>fun e T h n=>match e with|.normal=>wpC P N b n T h (ct P N fs Q)|e=>ct P N fs Q e T h n
 |.blk i::fs,Q=>fun e T h n=>match e with|.exit j=>if j=i then ct P N fs Q .normal T h n else ct P N fs Q (.exit j) T h n|e=>ct P N fs Q e T h n
def wS(P:Program)(N:NM)(c:SCode)(fs:List Fr)(n:Nat)(T:Tmps)(h:Heap)(Q:QC):Prop:=wpC P N c n T h (ct P N fs Q)
def wR(P:Program)(N:NM)(ops:List SOper)(dead:List Nat)(fs:List Fr)(n:Nat)(T:Tmps)(h:Heap)(Q:QC):Prop:=wpR P n ops T h fun T h n=>ct P N fs Q .normal (rm T dead) h n
def wX(P:Program)(N:NM)(e:SX)(fs:List Fr)(n:Nat)(T:Tmps)(h:Heap)(Q:QC):Prop:=ct P N fs Q e T h n
def wO(P:Program)(N:NM)(o:Option AV)(d:Option Nat)(ops:List SOper)(dead:List Nat)(fs:List Fr)(n:Nat)(T:Tmps)(h:Heap)(Q:QC):Prop:=∃v,o=some v/\wR P N ops dead fs (n+1) (putD T d v) h Q
def wM(P:Program)(N:NM)(m:HM AV)(d:Option Nat)(ops:List SOper)(dead:List Nat)(fs:List Fr)(n:Nat)(T:Tmps)(h:Heap)(Q:QC):Prop:=∃v h1,m.run h=some (v,h1)/\wR P N ops dead fs (n+1) (putD T d v) h1 Q
def wG(P:Program)(N:NM)(o:Option Bool)(d:Option Nat)(op:SOp)(ops:List SOper)(dead:List Nat)(fs:List Fr)(n:Nat)(T:Tmps)(h:Heap)(Q:QC):Prop:=match o with|some true=>wR P N (⟨d,op,[],none⟩::ops) dead fs n T h Q|some false=>wR P N ops dead fs (n+1) (putD T d (.tup [])) h Q|none=>False
def wC(P:Program)(N:NM)(x:AV)(a b:SCode)(fs:List Fr)(n:Nat)(T:Tmps)(h:Heap)(Q:QC):Prop:=∃t,x=.bool t/\if t=true then wS P N a fs n T h Q else wS P N b fs n T h Q
def wCall(P:Program)(N:NM)(m:CallM)(x:AV)(args:List AV)(d:Option Nat)(ops:List SOper)(dead:List Nat)(fs:List Fr)(n:Nat)(T:Tmps)(h:Heap)(Q:QC):Prop:=match x with
 |.fn f a c=>match m with|.pure=>∃v,PSpec P f (a++args++c) v/\wR P N ops dead fs (n+1) (putD T d v) h Q|.heap=>∃v h1,HSpec P f (a++args++c) h v h1/\wR P N ops dead fs (n+1) (putD T d v) h1 Q|.borrow=>∃i h1 v,(mapH (frzH 4) (a++args++c)).run h=some (i,h1)/\PSpec P f i v/\flatV v=true/\wR P N ops dead fs (n+1) (putD T d v) h1 Q
 |.yld b g=>match m with|.heap=>∃v h1,RSpec P b g args h v h1/\wR P N ops dead fs (n+1) (putD T d v) h1 Q|_=>False
 |_=>False
section
variable{N:NM}{n:Nat}{T:Tmps}{h:Heap}{Q:QC}{fs:List Fr}
theorem Qmv:wS P N .skip fs n T h Q=wX P N .normal fs n T h Q:=rfl
theorem Qox:wS P N .ret fs n T h Q=wX P N .ret fs n T h Q:=rfl
theorem Qmw{i:Nat}:wS P N (.exit i) fs n T h Q=wX P N (.exit i) fs n T h Q:=rfl
theorem Qi2{ops:List SOper}{dead:List Nat}:wS P N (.region ops [] dead) fs n T h Q=wR P N ops dead fs n T h Q:=rfl
theorem Qoy{a b:SCode}:wS P N (.seq a b) fs n T h Q=wS P N a (.sq b::fs) n T h Q:=rfl
theorem Qmx{x:Opd}{a b:SCode}:wS P N (.cond x a b) fs n T h Q=wC P N (ev T x) a b fs n T h Q:=rfl
theorem Qkv{i:Nat}{b:SCode}:wS P N (.block i b) fs n T h Q=wS P N b (.blk i::fs) n T h Q:=rfl
theorem Qmy{a b:SCode}:wC P N (.bool true) a b fs n T h Q=wS P N a fs n T h Q:=by simp[wC]
theorem Qkw{a b:SCode}:wC P N (.bool false) a b fs n T h Q=wS P N b fs n T h Q:=by simp[wC]
theorem Qmz{t:Bool}{a b:SCode}:wC P N (.bool t) a b fs n T h Q=if t=true then wS P N a fs n T h Q else wS P N b fs n T h Q:=by simp_all[wC]
theorem Qoz{e:SX}:wX P N e [] n T h Q=Q e T h n:=rfl
theorem wX_sq{b:SCode}:wX P N .normal (.sq b::fs) n T h Q=wS P N b fs n T h Q:=rfl
theorem Qi3{b:SCode}:wX P N .ret (.sq b::fs) n T h Q=wX P N .ret fs n T h Q:=rfl
theorem QhL{b:SCode}{i:Nat}:wX P N (.exit i) (.sq b::fs) n T h Q=wX P N (.exit i) fs n T h Q:=rfl
theorem QoA{i:Nat}:wX P N .normal (.blk i::fs) n T h Q=wX P N .normal fs n T h Q:=rfl
theorem QhM{i:Nat}:wX P N .ret (.blk i::fs) n T h Q=wX P N .ret fs n T h Q:=rfl
theorem QgB{i j:Nat}:wX P N (.exit j) (.blk i::fs) n T h Q=if j=i then wX P N .normal fs n T h Q else wX P N (.exit j) fs n T h Q:=rfl
end
theorem ev_t(T:Tmps)(i:Nat):ev T (.t i)=lk T i:=rfl
theorem ev_c(T:Tmps)(v:AV):ev T (.c v)=v:=rfl
theorem ev_f(T:Tmps)(n:Nat):ev T (.f n)=.fn n [] []:=rfl
theorem QoB(i:Nat):lk [] i=.any:=rfl
theorem QaX(j:Nat)(v:AV)(r:Tmps)(i:Nat):lk ((j,v)::r) i=if j=i then v else lk r i:=by simp_all[lk]
theorem Qis(j:Nat)(u:AV)(r:Tmps)(i:Nat)(v:AV):up ((j,u)::r) i v=if j=i then(j,v)::r else(j,u)::up r i v:=by simp_all[up]
theorem QoC(i:Nat)(v:AV):up [] i v=[(i,v)]:=rfl
theorem QoD(l:List Nat):rm [] l=[]:=rfl
theorem rm_no(T:Tmps):rm T []=T:=by induction T with|nil=>rfl|cons p T a=>obtain⟨j,u⟩:=p;simp[rm,a]
theorem QmA(j:Nat)(u:AV)(r:Tmps)(l:List Nat):rm ((j,u)::r) l=if l.elem j=true then rm r l else(j,u)::rm r l:=by simp_all[rm]
theorem Qi4(T:Tmps)(d:Nat)(v:AV):putD T (some d) v=up T d v:=rfl
theorem Qi5(T:Tmps)(v:AV):putD T none v=T:=rfl
theorem Qkx(k:Nat):argT k []=[]:=rfl
theorem Qi6(k:Nat)(x:AV)(xs:List AV):argT k (x::xs)=(k,x)::argT (k+1) xs:=rfl
theorem QmB(T:Tmps):evs T []=[]:=rfl
theorem Qky(T:Tmps)(x:Opd)(r:List Opd):evs T (x::r)=ev T x::evs T r:=rfl
theorem Qkz(T:Tmps):evo T none=none:=rfl
theorem QkA(T:Tmps)(x:Opd):evo T (some x)=some (ev T x):=rfl
theorem QgC(T:Tmps):evParts T []=[]:=rfl
theorem QfJ(T:Tmps)(a b:Nat)(x:Opd)(r:List (Nat×Nat×Opd)):evParts T ((a,b,x)::r)=(a,b,ev T x)::evParts T r:=rfl
section
variable{N:NM}{n:Nat}{d:Option Nat}{af dead:List Nat}{r:List SOper}{T:Tmps}{h:Heap}{Q:QC}{fs:List Fr}
theorem QoE:wR P N [] dead fs n T h Q=wX P N .normal fs n (rm T dead) h Q:=rfl
theorem QkB{op:SOp}{g:Nat}{w:Bool}:wR P N (⟨d,op,af,some (g,w)⟩::r) dead fs n T h Q=wG P N (wantedA (lk T g) w) d op r dead fs n T h Q:=by
 apply propext;unfold wG;constructor;·rintro⟨v,h1,f,⟨b,hw,c⟩,a⟩;rw[hw];cases b with|true=>rw[if_pos rfl]at c;exact⟨v,h1,f,c,a⟩|false=>rw[if_neg (by simp)]at c;obtain⟨rfl,rfl,rfl⟩:=c;exact a
 intro a;cases hw:wantedA (lk T g) w with|none=>rw[hw]at a;exact a.elim|some b=>rw[hw]at a;cases b with|true=>obtain⟨v,h1,f,i,a⟩:=a;exact⟨v,h1,f,⟨true,hw,by rw[if_pos rfl];exact i⟩,a⟩|false=>exact⟨.tup [],h,⟨false,[],[]⟩,⟨false,hw,by simp⟩,a⟩
theorem QmC{b w:Bool}{op:SOp}:wG P N (wantedA (.bool b) w) d op r dead fs n T h Q=if b=w then wR P N (⟨d,op,[],none⟩::r) dead fs n T h Q else wR P N r dead fs (n+1) (putD T d (.tup [])) h Q:=by grind[wG,wantedA]
theorem QmD{w:Bool}{op:SOp}:wG P N (wantedA (.tup []) w) d op r dead fs n T h Q=wR P N r dead fs (n+1) (putD T d (.tup [])) h Q:=by simp[wG,wantedA]
theorem Qbg{op:SOp}{o:Option AV}(e:aop n T op=lift o):wR P N (⟨d,op,af,none⟩::r) dead fs n T h Q=wO P N o d r dead fs n T h Q:=by
 apply propext;constructor;·rintro⟨v,h1,f,⟨out,g,hm,ho⟩,a⟩;rw[e]at hm;obtain⟨u,c,he⟩:=QaU hm;cases he;obtain⟨rfl,rfl,_⟩:=ho;exact⟨_,c,a⟩
 rintro⟨v,b,a⟩;refine⟨v,h,_,⟨.val v,h,?_,rfl,rfl,rfl⟩,a⟩;rw[e,b];rfl
theorem run_hval'{v:AV}{h1:Heap}:∀(m:HM AV)(h:Heap),m.run h=some (v,h1)->(hval m).run h=some (.val v,h1):=by intro m;induction m with|ret a=>intro h hm;simp only[HM.run,Option.some.injEq,Prod.mk.injEq]at hm;obtain⟨rfl,rfl⟩:=hm;rfl|fail=>intro h hm;simp[HM.run]at hm|look b k d=>intro h hm;exact d _ h hm|put b x k d=>
 intro h hm;obtain⟨f,hm⟩:=Qa3 hm;have:=d _ hm;simp only[hval,HM.bind,HM.run];have c:Nat.blt b lim=true:=by simp_all
 rw[c];exact this
theorem Qbu{op:SOp}{m:HM AV}(e:aop n T op=hval m):wR P N (⟨d,op,af,none⟩::r) dead fs n T h Q=wM P N m d r dead fs n T h Q:=by
 apply propext;constructor;·rintro⟨v,h1,f,⟨out,c,hm,ho⟩,a⟩;rw[e]at hm;obtain⟨u,g,b,he⟩:=QaS hm;cases he;obtain⟨rfl,rfl,_⟩:=ho;exact⟨_,_,b,a⟩
 rintro⟨v,h1,i,a⟩;exact⟨v,h1,_,⟨.val v,h1,by grind[run_hval'],rfl,rfl,rfl⟩,a⟩
theorem QoF{x:Opd}:wR P N (⟨d,.mov x,af,none⟩::r) dead fs n T h Q=wR P N r dead fs (n+1) (putD T d (ev T x)) h Q:=by rw[Qbg (o:=some (ev T x)) rfl];simp[wO]
theorem QmE{f:Nat}{xs ys:List Opd}:wR P N (⟨d,.mkfn f xs ys,af,none⟩::r) dead fs n T h Q=wR P N r dead fs (n+1) (putD T d (.fn f (evs T xs) (evs T ys))) h Q:=by rw[Qbg (o:=some (.fn f (evs T xs) (evs T ys))) rfl];simp[wO]
theorem QmF{c a b:Opd}:wR P N (⟨d,.pick c a b,af,none⟩::r) dead fs n T h Q=wO P N (aPick (ev T c) (ev T a) (ev T b)) d r dead fs n T h Q:=Qbg rfl
theorem QkC{z:List AV}{a:List (Nat×Nat×Opd)}:wR P N (⟨d,.build z a,af,none⟩::r) dead fs n T h Q=wO P N (aBuild z (evParts T a)) d r dead fs n T h Q:=Qbg rfl
theorem Qi7{x:Opd}:wR P N (⟨d,.nilchk x,af,none⟩::r) dead fs n T h Q=wO P N (aNil (ev T x)) d r dead fs n T h Q:=Qbg rfl
theorem QoG{op:BinOp}{x y:Opd}:wR P N (⟨d,.bin op x y,af,none⟩::r) dead fs n T h Q=wO P N (aBin op (ev T x) (ev T y)) d r dead fs n T h Q:=Qbg rfl
theorem wR_eq{k:EqK}{neg:Bool}{x y:Opd}:wR P N (⟨d,.eq k neg x y,af,none⟩::r) dead fs n T h Q=wO P N (aEq k neg (ev T x) (ev T y)) d r dead fs n T h Q:=Qbg rfl
theorem QoH{neg:Bool}{x:Opd}:wR P N (⟨d,.eqn neg x,af,none⟩::r) dead fs n T h Q=wM P N (aEqN neg (ev T x)) d r dead fs n T h Q:=Qbu rfl
theorem QaD{t:Nat}{s:Site}{z:AV}:wR P N (⟨d,.allocT t s z,af,none⟩::r) dead fs n T h Q=wM P N (aBoxT t s n z) d r dead fs n T h Q:=Qbu rfl
theorem QaN{neg:Bool}{x y:Opd}:wR P N (⟨d,.eqp neg x y,af,none⟩::r) dead fs n T h Q=wO P N (aEqP neg (ev T x) (ev T y)) d r dead fs n T h Q:=Qbg rfl
theorem QaG{t k:Nat}{x:Opd}:wR P N (⟨d,.convP t k x,af,none⟩::r) dead fs n T h Q=wO P N (aConvP t k (ev T x)) d r dead fs n T h Q:=Qbg rfl
theorem QaO{x:Opd}:wR P N (⟨d,.usd x,af,none⟩::r) dead fs n T h Q=wO P N (aUsd (ev T x)) d r dead fs n T h Q:=Qbg rfl
theorem QaL{t:Nat}{x k:Opd}:wR P N (⟨d,.ustr t x k,af,none⟩::r) dead fs n T h Q=wM P N (aUstr t (ev T x) (ev T k)) d r dead fs n T h Q:=Qbu rfl
theorem Qaz{t:Nat}{s:Site}{sz bytes:Nat}{x y:Opd}:wR P N (⟨d,.appendT t s sz bytes x y,af,none⟩::r) dead fs n T h Q=wM P N (aAppendT t s n sz bytes (ev T x) (ev T y)) d r dead fs n T h Q:=Qbu rfl
theorem QkD{sz bytes:Nat}{zero:List AV}{x:Opd}:wR P N (⟨d,.clear sz bytes zero x,af,none⟩::r) dead fs n T h Q=wM P N (aClear sz zero (ev T x)) d r dead fs n T h Q:=Qbu rfl
theorem wR_un{op:UnOp}{x:Opd}:wR P N (⟨d,.un op x,af,none⟩::r) dead fs n T h Q=wO P N (aUn op (ev T x)) d r dead fs n T h Q:=Qbg rfl
theorem QmG{k:IntKind}{x:Opd}:wR P N (⟨d,.conv k x,af,none⟩::r) dead fs n T h Q=wO P N (aConv k (ev T x)) d r dead fs n T h Q:=Qbg rfl
theorem Qe1{x:Opd}:wR P N (⟨d,.convS x,af,none⟩::r) dead fs n T h Q=wO P N (aConvS (ev T x)) d r dead fs n T h Q:=Qbg rfl
theorem QaP{k f:Nat}{xs:List Opd}:wR P N (⟨d,.ext k f xs,af,none⟩::r) dead fs n T h Q=wO P N (aExt k (evs T xs)) d r dead fs n T h Q:=Qbg rfl
theorem QkE{sz:Option Nat}{x:Opd}{l a m:Option Opd}:wR P N (⟨d,.slice sz x l a m,af,none⟩::r) dead fs n T h Q=wO P N (aSliceC sz (ev T x) (evo T l) (evo T a) (evo T m)) d r dead fs n T h Q:=Qbg rfl
theorem QkF{o:Nat}{x:Opd}:wR P N (⟨d,.faddr o x,af,none⟩::r) dead fs n T h Q=wO P N (aFAddr o (ev T x)) d r dead fs n T h Q:=Qbg rfl
theorem QkG{k:Option Nat}{o:Nat}{x:Opd}:wR P N (⟨d,.field k o x,af,none⟩::r) dead fs n T h Q=wO P N (aField k o (ev T x)) d r dead fs n T h Q:=Qbg rfl
theorem QkH{a:Option Nat}{sz:Nat}{x j:Opd}:wR P N (⟨d,.iaddr a sz x j,af,none⟩::r) dead fs n T h Q=wO P N (aIAddr a sz (ev T x) (ev T j)) d r dead fs n T h Q:=Qbg rfl
theorem QkI{a:Option (Nat×Nat×Bool)}{x j:Opd}:wR P N (⟨d,.index a x j,af,none⟩::r) dead fs n T h Q=wO P N (aIndex a (ev T x) (ev T j)) d r dead fs n T h Q:=Qbg rfl
theorem QhN{j:Nat}{x:Opd}:wR P N (⟨d,.extract j x,af,none⟩::r) dead fs n T h Q=wO P N (aExtract j (ev T x)) d r dead fs n T h Q:=Qbg rfl
theorem Qi8{mn:Bool}{xs:List Opd}:wR P N (⟨d,.maxmin mn xs,af,none⟩::r) dead fs n T h Q=wO P N (aMax mn (evs T xs)) d r dead fs n T h Q:=Qbg rfl
theorem QkJ{s:Site}{z:AV}:wR P N (⟨d,.alloc s z,af,none⟩::r) dead fs n T h Q=wM P N (aBox s n z) d r dead fs n T h Q:=Qbu rfl
theorem QoI{s:Site}{x:Opd}:wR P N (⟨d,.box s x,af,none⟩::r) dead fs n T h Q=wM P N (aBox s n (ev T x)) d r dead fs n T h Q:=Qbu rfl
theorem Qi9{fz:Bool}{s:Site}{sz len:Nat}{z:List AV}{a:List (Nat×Nat×Opd)}:wR P N (⟨d,.bslice fz s sz len z a,af,none⟩::r) dead fs n T h Q=wM P N (aBuildSlice fz s n sz len z (evParts T a)) d r dead fs n T h Q:=Qbu rfl
theorem QmH{k:Option Nat}{x:Opd}:wR P N (⟨d,.load k x,af,none⟩::r) dead fs n T h Q=wM P N (aLoad k (ev T x)) d r dead fs n T h Q:=Qbu rfl
theorem QkK{k:Nat}{x v:Opd}:wR P N (⟨d,.store k x v,af,none⟩::r) dead fs n T h Q=wM P N (aStore k (ev T x) (ev T v)) d r dead fs n T h Q:=Qbu rfl
theorem QkL{s:Site}:wR P N (⟨d,.mkmap s,af,none⟩::r) dead fs n T h Q=wM P N (aMakeMap s n) d r dead fs n T h Q:=Qbu rfl
theorem QhO{s:Site}{sz b:Nat}{z:List AV}{l c:Opd}:wR P N (⟨d,.mkslice s sz b z l c,af,none⟩::r) dead fs n T h Q=wM P N (aMakeSlice s n sz b z (ev T l) (ev T c)) d r dead fs n T h Q:=Qbu rfl
theorem Qja{row:Bool}{ks:List LK}{z:AV}{ok:Bool}{x k:Opd}:wR P N (⟨d,.lookup row ks z ok x k,af,none⟩::r) dead fs n T h Q=wM P N (aLookup row ks z ok (ev T x) (ev T k)) d r dead fs n T h Q:=Qbu rfl
theorem QmI{row:Bool}{ks:List LK}{x k v:Opd}:wR P N (⟨d,.mupd row ks x k v,af,none⟩::r) dead fs n T h Q=wM P N (aMapUpd row ks (ev T x) (ev T k) (ev T v)) d r dead fs n T h Q:=Qbu rfl
theorem QoJ{k:Nat}{x:Opd}:wR P N (⟨d,.len k x,af,none⟩::r) dead fs n T h Q=wM P N (aLenC k (ev T x)) d r dead fs n T h Q:=Qbu rfl
theorem Qjb{s:Site}{sz b:Nat}{x y:Opd}:wR P N (⟨d,.append s sz b x y,af,none⟩::r) dead fs n T h Q=wM P N (aAppend s n sz b (ev T x) (ev T y)) d r dead fs n T h Q:=Qbu rfl
theorem QmJ{sz:Nat}{x y:Opd}:wR P N (⟨d,.copy sz x y,af,none⟩::r) dead fs n T h Q=wM P N (aCopy sz (ev T x) (ev T y)) d r dead fs n T h Q:=Qbu rfl
theorem QmK{m:CallM}{x:Opd}{args:List Opd}:wR P N (⟨d,.call m x args,af,none⟩::r) dead fs n T h Q=wCall P N m (ev T x) (evs T args) d r dead fs n T h Q:=by
 apply propext;have e:aop n T (.call m x args)=aCall m (ev T x) (evs T args):=rfl;constructor
 ·rintro⟨v,h1,f,⟨out,B,hm,ho⟩,i⟩;rw[e]at hm;unfold aCall at hm;unfold wCall;cases o:ev T x<;>rw[o]at hm<;>first|(simp[HM.run]at hm;done)|skip
  rotate_left;·cases m<;>simp only[HM.run,Option.some.injEq,Prod.mk.injEq,reduceCtorEq]at hm;obtain⟨rfl,rfl⟩:=hm;exact⟨_,_,ho.1,i⟩
  simp only at hm;rename_i g a c;cases m
  ·simp only[HM.run,Option.some.injEq,Prod.mk.injEq]at hm;obtain⟨rfl,rfl⟩:=hm;rcases ho with⟨ho,_⟩|⟨b,y,xs,w,u,rfl,_⟩|ho|ho;·exact⟨_,_,ho,i⟩
   ·exact⟨_,_,w.heap u,i⟩
   ·exact⟨_,_,ho.heap,i⟩
   exact⟨_,_,ho.heap,i⟩
  ·simp only[HM.run,Option.some.injEq,Prod.mk.injEq]at hm;obtain⟨rfl,rfl⟩:=hm;obtain⟨hp,rfl,_⟩:=ho;exact⟨_,hp,i⟩
  obtain⟨j,C,A,s⟩:=run_bind hm;simp only[HM.run,Option.some.injEq,Prod.mk.injEq]at s;obtain⟨rfl,rfl⟩:=s;obtain⟨hp,hf,rfl,_⟩:=ho;exact⟨_,_,_,A,hp,hf,i⟩
 intro i;unfold wCall at i;cases o:ev T x<;>rw[o]at i<;>first|exact i.elim|skip
 rotate_left
 ·rename_i b g;cases m;·obtain⟨v,h1,l,i⟩:=i;exact⟨v,h1,_,⟨.round b g (evs T args),h,by rw[e,o];rfl,l,rfl⟩,i⟩
  ·exact i.elim
  simp_all
 rename_i g a c;cases m;·obtain⟨v,h1,l,i⟩:=i;exact⟨v,h1,_,⟨.call .heap g (a++evs T args++c),h,by rw[e,o];rfl,.inl ⟨l,rfl⟩⟩,i⟩
 ·obtain⟨v,l,i⟩:=i;exact⟨v,h,_,⟨.call .pure g (a++evs T args++c),h,by rw[e,o];rfl,l,rfl,rfl⟩,i⟩
 obtain⟨j,h1,v,hm,l,hf,i⟩:=i;refine⟨v,h1,_,⟨.call .borrow g j,h1,?_,l,hf,rfl,rfl⟩,i⟩;rw[e,o];have:∀(m:HM (List AV))(h:Heap)(k:List AV->AOut),m.run h=some (j,h1)->(m.bind fun j=>.ret (k j)).run h=some (k j,h1):=by intro m;induction m with|ret a=>intro h k hm;simp only[HM.run,Option.some.injEq,Prod.mk.injEq]at hm;obtain⟨rfl,rfl⟩:=hm;rfl|fail=>intro h k hm;simp[HM.run]at hm|look b t p=>intro h k hm;exact p _ h k hm|put b x t p=>
  intro h k hm;obtain⟨E,hm⟩:=Qa3 hm;have:=p _ k hm;simp only[HM.bind,HM.run];have q:Nat.blt b lim=true:=by simp_all
  rw[q];exact this
 exact this _ h (fun j=>.call .borrow g j) hm
theorem QdN{v:AV}:wO P N (some v) d r dead fs n T h Q=wR P N r dead fs (n+1) (putD T d v) h Q:=by simp[wO]
theorem QmL:wO P N none d r dead fs n T h Q=False:=by simp[wO]
theorem QkM{c:Prop}[Decidable c]{a b:Option AV}(hc:c):wO P N (if c then a else b) d r dead fs n T h Q=wO P N a d r dead fs n T h Q:=by rw[if_pos hc]
theorem QoK{c:Prop}[Decidable c]{a b:Option AV}(hc:¬c):wO P N (if c then a else b) d r dead fs n T h Q=wO P N b d r dead fs n T h Q:=by rw[if_neg hc]
theorem QrV{c:Prop}[Decidable c]{a:Option AV}:wO P N (if c then a else none) d r dead fs n T h Q=(c/\wO P N a d r dead fs n T h Q):=by grind[QmL]
theorem cp{f:Nat}{args:List AV}{v:AV}(hp:PSpec P f args v)(k:wR P N r dead fs (n+1) (putD T d v) h Q):wCall P N .pure (.fn f [] []) args d r dead fs n T h Q:=⟨v,by simpa using hp,k⟩
theorem ch{f:Nat}{args:List AV}{v:AV}{h1:Heap}(hp:HSpec P f args h v h1)(k:wR P N r dead fs (n+1) (putD T d v) h1 Q):wCall P N .heap (.fn f [] []) args d r dead fs n T h Q:=⟨v,h1,by simpa using hp,k⟩
def ldB(o:Option Blk)(g off:Nat)(m:Option Nat):Option AV:=match o with|some (.cells a cs)=>if a=g then(match m with|none=>cs[off]?|some m=>if off+m<=cs.length then some (.agg ((cs.drop off).take m))else none)else none|_=>none
def stB(o:Option Blk)(g off m:Nat)(v:AV):Option Blk:=match o with|some (.cells a cs)=>if a=g/\v.cells.length=m/\off+m<=cs.length/\v.cells.all AV.one=true then some (.cells g (putR cs off v.cells))else none|_=>none
def wB(P:Program)(N:NM)(o:Option Blk)(b:Nat)(v:AV)(d:Option Nat)(ops:List SOper)(dead:List Nat)(fs:List Fr)(n:Nat)(T:Tmps)(h:Heap)(Q:QC):Prop:=∃x,o=some x/\b<lim/\wR P N ops dead fs (n+1) (putD T d v) (h.set b x) Q
def wN(P:Program)(N:NM)(x:List AV)(v:AV)(d:Option Nat)(ops:List SOper)(dead:List Nat)(fs:List Fr)(n:Nat)(T:Tmps)(h:Heap)(Q:QC):Prop:=h.get n=none/\n<lim/\wR P N ops dead fs (n+1) (putD T d v) (h.set n (.cells 0 x)) Q
theorem Qcp{v:AV}:wM P N (.ret v) d r dead fs n T h Q=wR P N r dead fs (n+1) (putD T d v) h Q:=by
 apply propext;constructor;·rintro⟨a,h1,hm,k⟩;simp only[HM.run,Option.some.injEq,Prod.mk.injEq]at hm;simp_all
 intro k;exact⟨v,h,rfl,k⟩
theorem QdO:wM P N .fail d r dead fs n T h Q=False:=by simp[wM,HM.run]
theorem QkN{o:Option AV}:wM P N (.opt o) d r dead fs n T h Q=wO P N o d r dead fs n T h Q:=by cases o with|none=>simp[HM.opt,QdO,QmL]|some v=>simp[HM.opt,Qcp,QdN]
theorem Qc3{c:Prop}[Decidable c]{m:HM AV}:wM P N (if c then m else .fail) d r dead fs n T h Q=(c/\wM P N m d r dead fs n T h Q):=by grind[QdO]
theorem QfK{b:Nat}{x:Blk}{v:AV}:wM P N (.put b x (.ret v)) d r dead fs n T h Q=wB P N (some x) b v d r dead fs n T h Q:=by
 apply propext;constructor;·rintro⟨i,h1,hm,k⟩;obtain⟨c,hm⟩:=Qa3 hm;simp only[HM.run,Option.some.injEq,Prod.mk.injEq]at hm;obtain⟨rfl,rfl⟩:=hm;exact⟨x,rfl,c,k⟩
 rintro⟨g,f,c,k⟩;cases f;refine⟨v,_,?_,k⟩;simp only[HM.run];have a:Nat.blt b lim=true:=by simp_all
 rw[a];rfl
theorem Qit{x:Blk}{b:Nat}{v:AV}(a:b<lim):wB P N (some x) b v d r dead fs n T h Q=wR P N r dead fs (n+1) (putD T d v) (h.set b x) Q:=by simp[wB,a]
theorem Qdh{b g:Nat}{k:List AV->HM AV}:wM P N (.cells b g k) d r dead fs n T h Q=∃cs,h.get b=some (.cells g cs)/\wM P N (k cs) d r dead fs n T h Q:=by
 apply propext;constructor;·rintro⟨a,h1,hm,c⟩;obtain⟨cs,f,hm⟩:=Qbh hm;exact⟨cs,f,a,h1,hm,c⟩
 rintro⟨cs,f,a,h1,hm,c⟩;refine⟨a,h1,?_,c⟩;simp_all[HM.cells,HM.run]
theorem Qjc{g a off:Nat}{cs:List AV}:ldB (some (.cells a cs)) g off none=if a=g then cs[off]? else none:=rfl
theorem Qjd{g a off m:Nat}{cs:List AV}:ldB (some (.cells a cs)) g off (some m)=if a=g then(if off+m<=cs.length then some (.agg ((cs.drop off).take m))else none)else none:=rfl
theorem Qje{m:Option Nat}{b g off:Nat}:wM P N (aLoad m (.ptr b g off)) d r dead fs n T h Q=wO P N (ldB (h.get b) g off m) d r dead fs n T h Q:=by
 simp only[aLoad,Qdh];apply propext;constructor;·rintro⟨cs,f,c⟩;rw[f];cases m with|none=>simpa[ldB,QkN]using c|some m=>simp only[Qc3,Qcp]at c;simp only[ldB,if_true];rw[QkM c.1,QdN];exact c.2
 rintro⟨v,a,c⟩;unfold ldB at a;split at a
 ·rename_i i cs f;split at a;·rename_i e;subst e;refine⟨cs,f,?_⟩;cases m with|none=>simp only at a;simp only[QkN,a,QdN];exact c|some m=>
   simp only at a;split at a;·simp_all[Qcp]
   cases a
  cases a
 cases a
theorem QgD{cs:List AV}:wM P N (aLoad none (.fptr cs)) d r dead fs n T h Q=wO P N cs.head? d r dead fs n T h Q:=by simp only[aLoad,QkN]
theorem QgE{m:Nat}{cs:List AV}:wM P N (aLoad (some m) (.fptr cs)) d r dead fs n T h Q=wO P N (if m<=cs.length then some (.agg (cs.take m))else none) d r dead fs n T h Q:=by simp only[aLoad,Qc3,Qcp,QrV,QdN]
theorem Qhg{g a off m:Nat}{cs:List AV}{v:AV}:stB (some (.cells a cs)) g off m v=if a=g/\v.cells.length=m/\off+m<=cs.length/\v.cells.all AV.one=true then some (.cells g (putR cs off v.cells))else none:=rfl
theorem QhP{m b g off:Nat}{v:AV}:wM P N (aStore m (.ptr b g off) v) d r dead fs n T h Q=wB P N (stB (h.get b) g off m v) b .any d r dead fs n T h Q:=by
 simp only[aStore,Qdh];apply propext;constructor;·rintro⟨cs,f,c⟩;simp only[Qc3,QfK]at c;rw[f,Qhg,if_pos ⟨rfl,c.1⟩];exact c.2
 rintro⟨x,a,i,c⟩;unfold stB at a;split at a
 ·rename_i j cs f;split at a;·rename_i e;obtain⟨rfl,e⟩:=e;cases a;refine⟨cs,f,?_⟩;simp only[Qc3,QfK];exact⟨e,_,rfl,i,c⟩
  cases a
 cases a
theorem Qqd{x:AV}(g:x.boxable=true):wM P N (aBox .dyn n x) d r dead fs n T h Q=wN P N x.cells (.ptr n 0 0) d r dead fs n T h Q:=by
 simp only[aBox,if_pos g];apply propext;constructor;·rintro⟨i,h1,hm,b⟩;unfold HM.new at hm;simp only[HM.run]at hm;cases a:h.get n with|none=>rw[a]at hm;obtain⟨f,hm⟩:=Qa3 hm;simp only[HM.run,Option.some.injEq,Prod.mk.injEq]at hm;obtain⟨rfl,rfl⟩:=hm;exact⟨a,f,b⟩|some z=>rw[a]at hm;cases hm
 rintro⟨a,f,b⟩;refine⟨_,_,?_,b⟩;unfold HM.new;simp only[HM.run,a];have c:Nat.blt n lim=true:=by simp_all
 rw[c];rfl
theorem QrW{x:List AV}{v:AV}(b:h.get n=none)(a:n<lim):wN P N x v d r dead fs n T h Q=wR P N r dead fs (n+1) (putD T d v) (h.set n (.cells 0 x)) Q:=by grind[wN]
theorem Qjf{s:List UInt8}:wM P N (aLenC 0 (.str s)) d r dead fs n T h Q=wR P N r dead fs (n+1) (putD T d (.int .i64 s.length)) h Q:=by simp[aLenC,lenKind,aLen,Qcp]
theorem QkO{b g off len sz:Nat}:wM P N (aLenC 1 (.sl b g off len sz)) d r dead fs n T h Q=wR P N r dead fs (n+1) (putD T d (.int .i64 len)) h Q:=by simp[aLenC,lenKind,aLen,Qcp]
theorem Qjg{cs:List AV}{len sz:Nat}:wM P N (aLenC 1 (.fsl cs len sz)) d r dead fs n T h Q=wR P N r dead fs (n+1) (putD T d (.int .i64 len)) h Q:=by simp[aLenC,lenKind,aLen,Qcp]
theorem QgF:wM P N (aLenC 1 .nilsl) d r dead fs n T h Q=wR P N r dead fs (n+1) (putD T d (.int .i64 0)) h Q:=by simp[aLenC,lenKind,aLen,Qcp]
theorem Qjh:wM P N (aLenC 1 .esl) d r dead fs n T h Q=wR P N r dead fs (n+1) (putD T d (.int .i64 0)) h Q:=by simp[aLenC,lenKind,aLen,Qcp]
end
section
variable{k:IntKind}{a b:Int}
theorem Qhh:aBin .add (.int k a) (.int k b)=some (.int k (wr k (a+b))):=by simp[aBin]
theorem Qhi:aBin .sub (.int k a) (.int k b)=some (.int k (wr k (a-b))):=by simp[aBin]
theorem Qhj:aBin .mul (.int k a) (.int k b)=some (.int k (wr k (a*b))):=by simp[aBin]
theorem QkP:aBin .quo (.int k a) (.int k b)=if b=0 then none else some (.int k (wr k (a.tdiv b))):=by simp[aBin]
theorem QkQ:aBin .rem (.int k a) (.int k b)=if b=0 then none else some (.int k (a.tmod b)):=by simp[aBin]
theorem Qd1:aBin .eql (.int k a) (.int k b)=some (.bool (decide (a=b))):=by simp[aBin]
theorem Qd2:aBin .neq (.int k a) (.int k b)=some (.bool (!decide (a=b))):=by simp[aBin]
theorem Qd3:aBin .lss (.int k a) (.int k b)=some (.bool (decide (a<b))):=by simp[aBin]
theorem Qd4:aBin .leq (.int k a) (.int k b)=some (.bool (decide (a<=b))):=by simp[aBin]
theorem Qd5:aBin .gtr (.int k a) (.int k b)=some (.bool (decide (b<a))):=by simp[aBin]
theorem Qd6:aBin .geq (.int k a) (.int k b)=some (.bool (decide (b<=a))):=by simp[aBin]
theorem QmM{b:Bool}:aUn .not (.bool b)=some (.bool (!b)):=rfl
theorem QmN:aUn .neg (.int k a)=some (.int k (wr k (0-a))):=rfl
theorem QfL{b:IntKind}:aConv k (.int b a)=some (.int k (wr k a)):=rfl
theorem QhQ{t:Bool}{x y:AV}:aPick (.bool t) x y=some (if t then x else y):=rfl
theorem QhR{x y:AV}:aPick (.bool true) x y=some x:=rfl
theorem QgG{x y:AV}:aPick (.bool false) x y=some y:=rfl
theorem QfM{j:Nat}{vs:List AV}:aExtract j (.tup vs)=vs[j]?:=rfl
theorem QkR{v:AV}{vs:List AV}:(v::vs)[0]?=some v:=rfl
theorem QkS{v:AV}{vs:List AV}{j:Nat}:(v::vs)[j+1]?=vs[j]?:=rfl
theorem QfN{n:Int}(h1:-9223372036854775808<=n)(a:n<=9223372036854775807):wr .i64 n=n:=wr_of h1 a
theorem QoL{n:Int}(h1:0<=n)(a:n<=18446744073709551615):wr .u64 n=n:=wr_of h1 a
theorem wr_u8{n:Int}(h1:0<=n)(a:n<=255):wr .u8 n=n:=wr_of h1 a
theorem QoM{n:Int}(h1:0<=n)(a:n<=65535):wr .u16 n=n:=wr_of h1 a
theorem QoN{n:Int}(h1:0<=n)(a:n<=4294967295):wr .u32 n=n:=wr_of h1 a
theorem QoO{n:Int}(h1:-2147483648<=n)(a:n<=2147483647):wr .i32 n=n:=wr_of h1 a
theorem QhS{sz len s:Nat}{cs:List AV}:aIAddr none sz (.fsl cs len s) (.int k a)=if 0<=a/\a<len/\s=sz then some (.fptr (cs.drop (a.toNat*sz)))else none:=rfl
theorem Qji{sz len s b g off:Nat}:aIAddr none sz (.sl b g off len s) (.int k a)=if 0<=a/\a<len/\s=sz then some (.ptr b g (off+a.toNat*sz))else none:=rfl
theorem QhT{m sz b g off:Nat}:aIAddr (some m) sz (.ptr b g off) (.int k a)=if 0<=a/\a<m then some (.ptr b g (off+a.toNat*sz))else none:=rfl
theorem QgH{m sz:Nat}{cs:List AV}:aIAddr (some m) sz (.fptr cs) (.int k a)=if 0<=a/\a<m then some (.fptr (cs.drop (a.toNat*sz)))else none:=rfl
theorem QhU{o off b g:Nat}:aFAddr off (.ptr b g o)=some (.ptr b g (o+off)):=rfl
theorem QgI{off:Nat}{cs:List AV}:aFAddr off (.fptr cs)=some (.fptr (cs.drop off)):=rfl
theorem QhV{m sz:Nat}{cs:List AV}:aIndex (some (m,sz,false)) (.agg cs) (.int k a)=if 0<=a/\a<m then cs[a.toNat*sz]? else none:=by simp[aIndex]
theorem QgJ{off:Nat}{cs:List AV}:aField none off (.agg cs)=cs[off]?:=rfl
theorem QgK{m off:Nat}{cs:List AV}:aField (some m) off (.agg cs)=if off+m<=cs.length then some (.agg ((cs.drop off).take m))else none:=rfl
end
def Sub(L T:Tmps):Prop:=∀i,lk L i=.any\/lk L i=lk T i
theorem Sub.nil{T:Tmps}:Sub [] T:=fun _=>.inl rfl
theorem Sub.cons{T L:Tmps}{j:Nat}{v:AV}(a:lk T j=v)(h:Sub L T):Sub ((j,v)::L) T:=by
 intro i;rw[QaX];split;·simp_all
 exact h i
theorem Sub.of_eq{L T:Tmps}(h:∀i,lk L i=lk T i):Sub L T:=fun i=>.inr (h i)
theorem W2.weak{N:NM}{c:SCode}{Q:SX->St->Prop}{T L:Tmps}{h:Heap}(f:Sub L T)(hw:W2 P N c Q ⟨L,h⟩):W2 P N c Q ⟨T,h⟩:=by
 intro code b ctx a w S ro d Q' g;refine hw code b ctx a w ⟨S.heap,fun i=>?_,S.size,S.defers⟩ ro d Q' g;rcases f i with e|e;·simp_all[VRel]
 show VRel ctx w (lk L i) _;rw[e];exact S.tmps i
def loopQ(P:Program)(N:NM){α:Type}(env:α->Tmps)(H:α->Heap->Nat->Prop)(μ:α->Nat)(a:α)(fs:List Fr)(Q:QC):QC:=fun e T h n=>match e with|.normal=>∃b,μ b<μ a/\Sub (env b) T/\H b h n|e=>wX P N e fs n T h Q
section
variable{N:NM}{n:Nat}{T:Tmps}{h:Heap}{Q:QC}{fs:List Fr}{α:Type}{env:α->Tmps}{H:α->Heap->Nat->Prop}{μ:α->Nat}{a:α}
theorem QfO:loopQ P N env H μ a fs Q .normal T h n=∃b,μ b<μ a/\Sub (env b) T/\H b h n:=rfl
theorem QhW{i:Nat}:loopQ P N env H μ a fs Q (.exit i) T h n=wX P N (.exit i) fs n T h Q:=rfl
theorem Qjj:loopQ P N env H μ a fs Q .ret T h n=wX P N .ret fs n T h Q:=rfl
end
def wLp(P:Program)(N:NM)(b:SCode)(fs:List Fr)(n:Nat)(T:Tmps)(h:Heap)(Q:QC):Prop:=WL2 P N b (fun e B=>∃n,ct P N fs Q e B.T B.h n) ⟨T,h⟩
def unQ(P:Program)(N:NM)(b:SCode)(fs:List Fr)(Q:QC):QC:=fun e T h n=>match e with|.normal=>wLp P N b fs n T h Q|e=>wX P N e fs n T h Q
section
variable{N:NM}{n:Nat}{T:Tmps}{h:Heap}{Q:QC}{fs:List Fr}{b:SCode}
theorem QhX:unQ P N b fs Q .normal T h n=wLp P N b fs n T h Q:=rfl
theorem QkT{i:Nat}:unQ P N b fs Q (.exit i) T h n=wX P N (.exit i) fs n T h Q:=rfl
theorem QmO:unQ P N b fs Q .ret T h n=wX P N .ret fs n T h Q:=rfl
theorem QoP(hw:wLp P N b fs n T h Q):wS P N (.loop b) fs n T h Q:=WL2.loop hw
theorem QoQ(hw:wS P N b [] n T h (unQ P N b fs Q)):wLp P N b fs n T h Q:=by refine WL2.round ((wpC.toW hw).mono ?_);rintro e B⟨m,a⟩;cases e with|normal=>exact a|exit i=>exact⟨m,a⟩|ret=>exact⟨m,a⟩
end
theorem PSpec.of_rn{f:Nat}{sf:SFn}{args:List AV}{v:AV}(n:Nat)(a:okFn P f sf=true)(c:Nat.ble args.length sf.n=true)(d:noRefs args=true)(b:noRef v=true)(hw:wS P ⟨sf.n,0⟩ sf.body [] n (argT 0 args) .e fun e T h _=>(e=.normal\/e=.ret)/\∃vs,resV T h sf.res=some vs/\Rn 0 π0 h v (resOf vs)):PSpec P f args v:=PSpec.of_W2 a (Nat.le_of_ble_eq_true c) d b ((wpC.toW hw).mono fun e B⟨_,h⟩=>h)
theorem Qj9{ok:Okc}{F:Nat->Prop}{m:Nat}{c':Ctx ok}{w w':World}(E:Evo2 m (only F) w c' w'):Go.RowKit.Below w.heap.size w w':=⟨E.os,E.tape,E.output,E.size,fun k a=>E.keep k a (fun h=>h)⟩
open Go.RowKit in theorem law_of_W2{f:Nat}{sf:SFn}{args:List AV}(hok:okFn P f sf=true)(hl:Nat.ble args.length sf.n=true)(hw:W2 P ⟨sf.n,0⟩ sf.body (fun e B=>(e=.normal\/e=.ret)/\resV B.T B.h sf.res=some [.bool true]) ⟨argT 0 args,.e⟩){F:Nat->Prop}{w:World}{cargs:Array Value}(hF:∀k,F k->k<w.heap.size)(ha:VRels (only (ok:=okc P) F) w args cargs.toList):Calls P f cargs w fun e w'=>e=.returned (.bool true)/\Below w.heap.size w w':=by
 refine(Qc2 (R:=fun vs _=>vs=[.bool true]) hok (Nat.le_of_ble_eq_true hl) (hw.mono ?_) (HRel.only hF) ha).mono ?_;·simp_all
 ·rintro e w'⟨cv,c',vs,h',rfl,E,H,V,rfl⟩;simp only[resOf,VRel]at V;subst V;exact⟨rfl,Qj9 E⟩
theorem PSpec.QaB{f:Nat}{sf:SFn}{args:List AV}{v:AV}(n:Nat)(a:okFn P f sf=true)(c:Nat.ble args.length sf.n=true)(d:noRefs args=true)(b:noRef v=true)(hw:wS P ⟨sf.n,0⟩ sf.body [] n (argT 0 args) .e fun e T h _=>(e=.normal\/e=.ret)/\∃vs,resV T h sf.res=some vs/\resOf vs=v):PSpec P f args v:=PSpec.of_W2 a (Nat.le_of_ble_eq_true c) d b ((wpC.toW hw).mono fun e B⟨_,he,vs,h1,g⟩=>⟨he,vs,h1,by simp_all[Rn.same]⟩)
theorem PSpec.toH{f:Nat}{args:List AV}{v:AV}(S:PSpec P f args v)(h:Heap):HSpec P f args h v h:=by obtain⟨d,hc,_⟩:=S.2.2;exact⟨hc,fun c w a H b=>(S.pure H b).2⟩
end Go.AM
namespace Go.AM
variable{P:Program}
noncomputable section
structure FFn where
 n:Nat
 res:List SRes
 body:FCode
def FFn.slim(f:FFn):SFn:=⟨f.n,f.res,f.body.slim⟩
structure Ans(α:Type)where
 bad:α
 asm:List AV->List AV->α->α
 holds:α->Prop
def ansB:Ans Bool:=⟨false,fun _ _ _=>false,fun b=>b=true⟩
structure Ans.OK{α:Type}(A:Ans α):Prop where
 bad:¬A.holds A.bad
 asm:∀x y p,A.holds (A.asm x y p)->x=y/\A.holds p
theorem Qiu:ansB.OK:=⟨fun h=>(by cases h),fun _ _ _ h=>(by cases h)⟩
variable{α:Type}
abbrev ifB(c:Bool)(a b:α):α:=@Bool.rec (fun _=>α) b a c
theorem QaI(c:Bool)(a b:α):ifB c a b=if c=true then a else b:=by cases c<;>rfl
def fNat(m:Nat)(k:Nat->α):α:=@Nat.rec (fun _=>α) (k 0) (fun n _=>k (Nat.succ n)) m
theorem Qbv(m:Nat)(k:Nat->α):fNat m k=k m:=by cases m<;>rfl
def fInt(n:Int)(k:Int->α):α:=@Int.rec (fun _=>α) (fun m=>fNat m fun m=>k (.ofNat m)) (fun m=>fNat m fun m=>k (.negSucc m)) n
theorem Qq3(n:Int)(k:Int->α):fInt n k=k n:=by cases n<;>simp[fInt,Qbv]
def fBool(b:Bool)(k:Bool->α):α:=@Bool.rec (fun _=>α) (k false) (k true) b
theorem QcG(b:Bool)(k:Bool->α):fBool b k=k b:=by cases b<;>rfl
def fList{β:Type}(l:List β)(k:List β->α):α:=@List.rec β (fun _=>(List β->α)->α) (fun k=>k []) (fun x _ a k=>a fun r=>k (x::r)) l k
theorem QcH{β:Type}(l:List β)(k:List β->α):fList l k=k l:=by
 have:∀(l:List β)(k:List β->α),@List.rec β (fun _=>(List β->α)->α) (fun k=>k []) (fun x _ a k=>a fun r=>k (x::r)) l k=k l:=by intro l;induction l with|nil=>intro k;rfl|cons x r a=>intro k;exact a _
 exact this l k
def fAV(v:AV)(k:AV->α):α:=match v with|.int t n=>fInt n fun n=>k (.int t n)|.bool b=>fBool b fun b=>k (.bool b)|.any=>k .any|.str s=>fList s fun s=>k (.str s)|.agg cs=>fList cs fun cs=>k (.agg cs)|.tup cs=>fList cs fun cs=>k (.tup cs)|.nilptr=>k .nilptr|.ptr b g o=>fNat o fun o=>k (.ptr b g o)|.fptr cs=>fList cs fun cs=>k (.fptr cs)|.nilsl=>k .nilsl|.sl b g o l s=>fNat o fun o=>fNat l fun l=>k (.sl b g o l s)|.fsl cs l s=>fNat l fun l=>fList cs fun cs=>k (.fsl cs l s)|.esl=>k .esl|.nsl=>k .nsl|.nilmap=>k .nilmap|.map b g=>k (.map b g)|.fmap x y=>fList x fun x=>fList y fun y=>k (.fmap x y)|.nilfn=>k .nilfn|.fn f x y=>fList x fun x=>fList y fun y=>k (.fn f x y)|.yld b g=>k (.yld b g)|.nilif=>k .nilif|.ifc t v=>k (.ifc t v)|.typed t n v=>fNat t fun t=>fNat n fun n=>k (.typed t n v)
theorem Qc4(v:AV)(k:AV->α):fAV v k=k v:=by unfold fAV;grind[Qq3,QcG,QcH,Qbv]
def fBlk(x:Blk)(k:Blk->α):α:=match x with|.cells g cs=>fList cs fun cs=>k (.cells g cs)|x=>k x
theorem Qq4(x:Blk)(k:Blk->α):fBlk x k=k x:=by unfold fBlk;grind[QcH]
def lkK(T:Tmps)(i:Nat)(k:AV->α):α:=@List.rec (Nat×AV) (fun _=>α) (k .any) (fun p _ a=>ifB (Nat.beq p.1 i) (k p.2) a) T
theorem QeH(T:Tmps)(i:Nat)(k:AV->α):lkK T i k=k (lk T i):=by induction T with|nil=>rfl|cons p T a=>
 show ifB (Nat.beq p.1 i) (k p.2) (lkK T i k)=_;rw[a,QaI,QaX];by_cases h:p.1=i;·subst h;simp
 simp_all[Bool.eq_false_iff]
def evK(T:Tmps)(x:Opd)(k:AV->α):α:=@Opd.rec (fun _=>α) (fun i=>lkK T i k) (fun v=>k v) (fun n=>k (.fn n [] [])) (fun _=>k .any) x
theorem Qbo(T:Tmps)(x:Opd)(k:AV->α):evK T x k=k (ev T x):=by
 cases x;·exact QeH _ _ _
 ·rfl
 ·rfl
 rfl
def upR(T:Tmps)(i:Nat)(v:AV)(k:Tmps->α):α:=@List.rec (Nat×AV) (fun _=>(Tmps->α)->α) (fun k=>k [(i,v)]) (fun p r a k=>ifB (Nat.beq p.1 i) (k ((i,v)::r)) (a fun b=>k (p::b))) T k
theorem Qdv(T:Tmps)(i:Nat)(v:AV)(k:Tmps->α):upR T i v k=k (up T i v):=by
 have:∀(T:Tmps)(k:Tmps->α),@List.rec (Nat×AV) (fun _=>(Tmps->α)->α) (fun k=>k [(i,v)]) (fun p r a k=>ifB (Nat.beq p.1 i) (k ((i,v)::r)) (a fun b=>k (p::b))) T k=k (up T i v):=by intro T;induction T with|nil=>intro k;rfl|cons p T a=>
  intro k;show ifB (Nat.beq p.1 i) (k ((i,v)::T)) (@List.rec (Nat×AV) (fun _=>(Tmps->α)->α) (fun k=>k [(i,v)]) (fun p r a k=>ifB (Nat.beq p.1 i) (k ((i,v)::r)) (a fun b=>k (p::b))) T fun b=>k (p::b))=_;rw[a,QaI,Qis];by_cases h:p.1=i;·subst h;simp
  simp_all[Bool.eq_false_iff]
 exact this T k
def putS(a:Bool)(T:Tmps)(dst:Option Nat)(v:AV)(k:Tmps->α):α:=@Option.rec Nat (fun _=>α) (k T) (fun d=>ifB a (k ((d,v)::T)) (upR T d v k)) dst
theorem Qjk(a:Bool)(T:Tmps)(dst:Option Nat)(v:AV)(k:Tmps->α):∃T',putS a T dst v k=k T'/\∀i,lk T' i=lk (putD T dst v) i:=by cases dst with|none=>exact⟨T,rfl,fun _=>rfl⟩|some d=>cases a with|false=>exact⟨up T d v,Qdv T d v k,fun _=>rfl⟩|true=>
 refine⟨(d,v)::T,rfl,fun i=>?_⟩;rw[QaX,QbI];by_cases h:d=i;·subst h;simp
 simp_all
def rmR(m:Nat)(T:Tmps)(k:Tmps->α):α:=@List.rec (Nat×AV) (fun _=>(Tmps->α)->α) (fun k=>k []) (fun p r a k=>ifB (Nat.beq (Nat.land (Nat.shiftRight m p.1) 1) 1) (a k) (a fun b=>k (p::b))) T k
def rmM(m:Nat):Tmps->Tmps|[]=>[]|p::r=>if Nat.beq (Nat.land (Nat.shiftRight m p.1) 1) 1=true then rmM m r else p::rmM m r
theorem QoR(m:Nat)(T:Tmps)(k:Tmps->α):rmR m T k=k (rmM m T):=by
 have:∀(T:Tmps)(k:Tmps->α),@List.rec (Nat×AV) (fun _=>(Tmps->α)->α) (fun k=>k []) (fun p r a k=>ifB (Nat.beq (Nat.land (Nat.shiftRight m p.1) 1) 1) (a k) (a fun b=>k (p::b))) T k=k (rmM m T):=by intro T;induction T with|nil=>intro k;rfl|cons p T a=>intro k;show ifB (Nat.beq (Nat.land (Nat.shiftRight m p.1) 1) 1) (@List.rec (Nat×AV) (fun _=>(Tmps->α)->α) (fun k=>k []) (fun p r a k=>ifB (Nat.beq (Nat.land (Nat.shiftRight m p.1) 1) 1) (a k) (a fun b=>k (p::b))) T k) (@List.rec (Nat×AV) (fun _=>(Tmps->α)->α) (fun k=>k []) (fun p r a k=>ifB (Nat.beq (Nat.land (Nat.shiftRight m p.1) 1) 1) (a k) (a fun b=>k (p::b))) T fun b=>k (p::b))=_;rw[a,a,QaI];simp only[rmM];split<;>rfl
 exact this T k
theorem QmP(m:Nat)(T:Tmps):Sub (rmM m T) T:=by
 have dead:∀(T:Tmps)(i:Nat),Nat.beq (Nat.land (Nat.shiftRight m i) 1) 1=true->lk (rmM m T) i=.any:=by intro T i hi;induction T with|nil=>rfl|cons p T a=>
  simp only[rmM];split;·exact a
  rename_i h;rw[QaX,if_neg (by grind)];exact a
 have live:∀(T:Tmps)(i:Nat),¬Nat.beq (Nat.land (Nat.shiftRight m i) 1) 1=true->lk (rmM m T) i=lk T i:=by intro T i hi;induction T with|nil=>rfl|cons p T a=>
  simp only[rmM];split;·rename_i h;rw[QaX,if_neg (by grind)];exact a
  grind[QaX]
 intro i;grind
def getR{β:Type}(t:Tr β)(b:Nat)(k:Option β->α):α:=@Tr.rec β (fun _=>Nat->α) (fun _=>k none) (fun _ v _ a c b=>ifB (Nat.beq b 0) (k v) (ifB (Nat.beq (Nat.mod b 2) 1) (a (Nat.div b 2)) (c (Nat.sub (Nat.div b 2) 1)))) t b
theorem QbJ{β:Type}(t:Tr β)(b:Nat)(k:Option β->α):getR t b k=k (t.get b):=by induction t generalizing b with|e=>rfl|n l v r a g=>show ifB (Nat.beq b 0) (k v) (ifB (Nat.beq (Nat.mod b 2) 1) (getR l (Nat.div b 2) k) (getR r (Nat.sub (Nat.div b 2) 1) k))=_;rw[a,g,QaI,QaI];simp only[Tr.get];have f:Nat.mod b 2=b%2:=rfl;have c:Nat.div b 2=b/2:=rfl;have d:Nat.sub (b/2) 1=b/2-1:=rfl;rw[f,c,d];cases Nat.beq b 0<;>cases Nat.beq (b%2) 1<;>rfl
def setE{β:Type}(f:Nat)(b:Nat)(x:β)(k:Tr β->α):α:=@Nat.rec (fun _=>Nat->(Tr β->α)->α) (fun _ k=>k .e) (fun _ a b k=>ifB (Nat.beq b 0) (k (.n .e (some x) .e)) (ifB (Nat.beq (Nat.mod b 2) 1) (a (Nat.div b 2) fun l=>k (.n l none .e)) (a (Nat.sub (Nat.div b 2) 1) fun r=>k (.n .e none r)))) f b k
theorem Qq5{β:Type}(f:Nat)(b:Nat)(x:β)(k:Tr β->α):setE f b x k=k (Tr.setF f .e b x):=by induction f generalizing b k with|zero=>rfl|succ f a=>show ifB (Nat.beq b 0) (k (.n .e (some x) .e)) (ifB (Nat.beq (Nat.mod b 2) 1) (setE f (Nat.div b 2) x fun l=>k (.n l none .e)) (setE f (Nat.sub (Nat.div b 2) 1) x fun r=>k (.n .e none r)))=_;rw[a,a,QaI,QaI];simp only[Tr.setF];have g:Nat.mod b 2=b%2:=rfl;have c:Nat.div b 2=b/2:=rfl;have d:Nat.sub (b/2) 1=b/2-1:=rfl;rw[g,c,d];cases Nat.beq b 0<;>cases Nat.beq (b%2) 1<;>rfl
def setR{β:Type}(t:Tr β)(f:Nat)(b:Nat)(x:β)(k:Tr β->α):α:=@Tr.rec β (fun _=>Nat->Nat->(Tr β->α)->α) (fun f b k=>setE f b x k) (fun l v r a c f b k=>@Nat.rec (fun _=>α) (k (.n l v r)) (fun f _=>ifB (Nat.beq b 0) (k (.n l (some x) r)) (ifB (Nat.beq (Nat.mod b 2) 1) (a f (Nat.div b 2) fun l=>k (.n l v r)) (c f (Nat.sub (Nat.div b 2) 1) fun r=>k (.n l v r)))) f) t f b k
theorem Qq6{β:Type}(t:Tr β)(f:Nat)(b:Nat)(x:β)(k:Tr β->α):setR t f b x k=k (Tr.setF f t b x):=by induction t generalizing f b k with|e=>exact Qq5 f b x k|n l v r a h=>cases f with|zero=>rfl|succ f=>show ifB (Nat.beq b 0) (k (.n l (some x) r)) (ifB (Nat.beq (Nat.mod b 2) 1) (setR l f (Nat.div b 2) x fun l=>k (.n l v r)) (setR r f (Nat.sub (Nat.div b 2) 1) x fun r=>k (.n l v r)))=_;rw[a,h,QaI,QaI];simp only[Tr.setF];have g:Nat.mod b 2=b%2:=rfl;have c:Nat.div b 2=b/2:=rfl;have d:Nat.sub (b/2) 1=b/2-1:=rfl;rw[g,c,d];cases Nat.beq b 0<;>cases Nat.beq (b%2) 1<;>rfl
def putBR(A:Ans α)(h:Heap)(b:Nat)(x:Blk)(k:Heap->α):α:=ifB (Nat.ble (Nat.succ b) lim) (setR h 40 b x k) A.bad
theorem QbS(A:Ans α)(h:Heap)(b:Nat)(x:Blk)(k:Heap->α):putBR A h b x k=if b<lim then k (h.set b x)else A.bad:=by
 unfold putBR;rw[Qq6,QaI];by_cases a:b<lim;·rw[if_pos (Nat.ble_eq_true_of_le a),if_pos a];rfl
 rw[if_neg (fun h=>a (Nat.le_of_ble_eq_true h)),if_neg a]
def runR{β:Type}(A:Ans α)(m:HM β)(h:Heap)(k:β->Heap->α):α:=@HM.rec β (fun _=>Heap->α) (fun a h=>k a h) (fun _=>A.bad) (fun b _ c h=>getR h b fun o=>c o h) (fun b x _ c h=>fBlk x fun x=>putBR A h b x fun h=>c h) m h
theorem QcQ{β:Type}(A:Ans α)(m:HM β):∀(h:Heap)(k:β->Heap->α),runR A m h k=match m.run h with|some (a,h')=>k a h'|none=>A.bad:=by induction m with|ret a=>intro h k;rfl|fail=>intro h k;rfl|look b m c=>intro h k;show getR h b (fun o=>runR A (m o) h k)=_;rw[QbJ];exact c _ h k|put b x m c=>
 intro h k;show fBlk x (fun x=>putBR A h b x fun h=>runR A m h k)=_;rw[Qq4,QbS];simp only[HM.run];by_cases d:b<lim
 ·have :Nat.blt b lim=true:=by simp_all
  grind
 have :Nat.blt b lim=false:=by simp_all[Bool.eq_false_iff]
 grind
def optR(A:Ans α)(o:Option AV)(k:AV->α):α:=@Option.rec AV (fun _=>α) A.bad (fun v=>fAV v k) o
theorem QbK(A:Ans α)(o:Option AV)(k:AV->α):optR A o k=match o with|some v=>k v|none=>A.bad:=by cases o with|none=>rfl|some v=>exact Qc4 v k
def hiN:IntKind->Nat|.i8=>127|.i16=>32767|.i32=>2147483647|.i64=>9223372036854775807|.u8=>255|.u16=>65535|.u32=>4294967295|.u64=>18446744073709551615
theorem QrX(k:IntKind):hi k=hiN k:=by cases k<;>rfl
theorem lo_le(k:IntKind):lo k<=0:=by cases k<;>decide
theorem QhY{k:IntKind}{m:Nat}(h:m<=hiN k):wr k (.ofNat m)=.ofNat m:=wr_of (by grind[lo_le]) (by simp_all[QrX])
def kn:IntKind->Nat|.i8=>0|.i16=>1|.i32=>2|.i64=>3|.u8=>4|.u16=>5|.u32=>6|.u64=>7
theorem QkU{k a:IntKind}(h:Nat.beq (kn k) (kn a)=true):k=a:=by cases k<;>cases a<;>first|rfl|(cases h)
def bin2(A:Ans α)(op:BinOp)(d:IntKind)(a b:Nat)(c:α)(k:AV->α):α:=match op with|.add=>fNat (Nat.add a b) fun r=>ifB (Nat.ble r (hiN d)) (k (.int d (.ofNat r))) c|.sub=>ifB (Nat.ble b a) (fNat (Nat.sub a b) fun r=>ifB (Nat.ble r (hiN d)) (k (.int d (.ofNat r))) c) c|.mul=>fNat (Nat.mul a b) fun r=>ifB (Nat.ble r (hiN d)) (k (.int d (.ofNat r))) c|.eql=>fBool (Nat.beq a b) fun t=>k (.bool t)|.neq=>fBool (Nat.beq a b) fun t=>ifB t (k (.bool false)) (k (.bool true))|.lss=>fBool (Nat.ble (Nat.succ a) b) fun t=>k (.bool t)|.leq=>fBool (Nat.ble a b) fun t=>k (.bool t)|.gtr=>fBool (Nat.ble (Nat.succ b) a) fun t=>k (.bool t)|.geq=>fBool (Nat.ble b a) fun t=>k (.bool t)|_=>c
def binN(op:BinOp)(below:Bool)(a:α)(k:AV->α):α:=match op with|.eql=>k (.bool false)|.neq=>k (.bool true)|.lss=>ifB below (k (.bool true)) (k (.bool false))|.leq=>ifB below (k (.bool true)) (k (.bool false))|.gtr=>ifB below (k (.bool false)) (k (.bool true))|.geq=>ifB below (k (.bool false)) (k (.bool true))|_=>a
def binR(A:Ans α)(op:BinOp)(x y:AV)(k:AV->α):α:=match x with|.int c (.ofNat a)=>(match y with|.int d (.ofNat b)=>ifB (Nat.beq (kn c) (kn d)) (bin2 A op c a b (optR A (aBin op x y) k) k) (optR A (aBin op x y) k)|.int d (.negSucc b)=>ifB (Nat.beq (kn c) (kn d)) (binN op false (optR A (aBin op x y) k) k) (optR A (aBin op x y) k)|_=>optR A (aBin op x y) k)|.int c (.negSucc a)=>(match y with|.int d (.ofNat b)=>ifB (Nat.beq (kn c) (kn d)) (binN op true (optR A (aBin op x y) k) k) (optR A (aBin op x y) k)|_=>optR A (aBin op x y) k)|_=>optR A (aBin op x y) k
theorem Qq7(A:Ans α)(op:BinOp)(c:IntKind)(a b:Nat)(k:AV->α):binN op true (optR A (aBin op (.int c (.negSucc a)) (.int c (.ofNat b))) k) k=optR A (aBin op (.int c (.negSucc a)) (.int c (.ofNat b))) k:=by
 have d:(Int.negSucc a:Int)<Int.ofNat b:=by grind
 generalize Int.negSucc a=x at*;generalize Int.ofNat b=y at*;unfold binN;grind[Qd1,QbK,decide,Qd2,Qd3,Qd4,Qd5,Qd6]
theorem binN_eq'(A:Ans α)(op:BinOp)(c:IntKind)(a b:Nat)(k:AV->α):binN op false (optR A (aBin op (.int c (.ofNat a)) (.int c (.negSucc b))) k) k=optR A (aBin op (.int c (.ofNat a)) (.int c (.negSucc b))) k:=by
 have d:(Int.negSucc b:Int)<Int.ofNat a:=by grind
 generalize Int.negSucc b=x at*;generalize Int.ofNat a=y at*;unfold binN;grind[Qd1,QbK,decide,Qd2,Qd3,Qd4,Qd5,Qd6]
theorem Qq8(A:Ans α)(op:BinOp)(c:IntKind)(a b:Nat)(k:AV->α):bin2 A op c a b (optR A (aBin op (.int c (.ofNat a)) (.int c (.ofNat b))) k) k=optR A (aBin op (.int c (.ofNat a)) (.int c (.ofNat b))) k:=by
 unfold bin2;cases op<;>simp only<;>try rfl
 ·rw[Qbv,QaI];split;·rename_i h1;rw[Qhh,show(Int.ofNat a+Int.ofNat b:Int)=Int.ofNat (a+b)from rfl,QhY (m:=a+b) (Nat.le_of_ble_eq_true h1),QbK];rfl
  rfl
 ·rw[QaI];split
  ·rename_i d;have d:=Nat.le_of_ble_eq_true d;rw[Qbv,QaI];split;·rename_i h1;rw[Qhi,show(Int.ofNat a-Int.ofNat b:Int)=Int.ofNat (a-b)from(Int.ofNat_sub d).symm,QhY (m:=a-b) (Nat.le_of_ble_eq_true h1),QbK];rfl
   rfl
  rfl
 ·rw[Qbv,QaI];split;·rename_i h1;rw[Qhj,show(Int.ofNat a*Int.ofNat b:Int)=Int.ofNat (a*b)from rfl,QhY (m:=a*b) (Nat.le_of_ble_eq_true h1),QbK];rfl
  rfl
 ·rw[QcG,Qd1,QbK];simp only;congr 2;rw[Bool.eq_iff_iff];simp;omega
 ·rw[QcG,Qd2,QbK,QaI];simp only;by_cases e:a=b;·subst e;simp
  have h1:Nat.beq a b=false:=by simp_all[Bool.eq_false_iff]
  grind[decide]
 ·rw[QcG,Qd3,QbK];simp only;congr 2;rw[Bool.eq_iff_iff];simp;omega
 ·rw[QcG,Qd4,QbK];simp only;congr 2;rw[Bool.eq_iff_iff];simp
 ·rw[QcG,Qd5,QbK];simp only;congr 2;rw[Bool.eq_iff_iff];simp;omega
 rw[QcG,Qd6,QbK];simp only;congr 2;rw[Bool.eq_iff_iff];simp
theorem Qq9(A:Ans α)(op:BinOp)(x y:AV)(k:AV->α):binR A op x y k=match aBin op x y with|some v=>k v|none=>A.bad:=by
 rw[<-QbK A];unfold binR;split
 ·split;·grind[QaI,QkU,Qq8]
  ·grind[QaI,QkU,binN_eq']
  rfl
 ·split;·grind[QaI,QkU,Qq7]
  rfl
 rfl
def nthR(A:Ans α)(cs:List AV)(j:Nat)(k:AV->α):α:=@List.rec AV (fun _=>Nat->α) (fun _=>A.bad) (fun c _ a j=>@Nat.rec (fun _=>α) (k c) (fun j _=>a j) j) cs j
theorem QmQ(A:Ans α)(cs:List AV)(j:Nat)(k:AV->α):nthR A cs j k=match cs[j]? with|some v=>k v|none=>A.bad:=by induction cs generalizing j with|nil=>rfl|cons c cs a=>cases j with|zero=>rfl|succ j=>exact(a j).trans (by simp)
def nthSetR(cs:List AV)(j:Nat)(v:AV)(k:List AV->α):α:=@List.rec AV (fun _=>Nat->(List AV->α)->α) (fun _ k=>k []) (fun c r a j k=>@Nat.rec (fun _=>α) (k (v::r)) (fun j _=>a j fun r=>k (c::r)) j) cs j k
theorem QnK(cs:List AV)(j:Nat)(v:AV)(k:List AV->α):nthSetR cs j v k=k (cs.set j v):=by induction cs generalizing j k with|nil=>rfl|cons c cs a=>cases j with|zero=>rfl|succ j=>exact a j _
def dropR(cs:List AV)(j:Nat)(k:List AV->α):α:=@List.rec AV (fun _=>Nat->α) (fun _=>k []) (fun c r a j=>@Nat.rec (fun _=>α) (k (c::r)) (fun j _=>a j) j) cs j
theorem Qhk(cs:List AV)(j:Nat)(k:List AV->α):dropR cs j k=k (cs.drop j):=by induction cs generalizing j with|nil=>simp[dropR]|cons c cs a=>cases j with|zero=>rfl|succ j=>exact a j
def isPtr:AV->Bool|.ptr ..=>true|_=>false
def loadR(A:Ans α)(m:Option Nat)(x:AV)(h:Heap)(k:AV->α):α:=match m with|none=>(match x with|.ptr b g off=>getR h b fun o=>(match o with|some (.cells a cs)=>ifB (Nat.beq a g) (nthR A cs off k) A.bad|_=>A.bad)|.fptr cs=>(match cs with|c::_=>k c|[]=>A.bad)|_=>A.bad)|some _=>runR A (aLoad m x) h fun v _=>fAV v k
theorem QkV(A:Ans α)(m:Option Nat)(x:AV)(h:Heap)(k:AV->α):loadR A m x h k=match(aLoad m x).run h with|some (v,_)=>k v|none=>A.bad:=by
 unfold loadR;split
 ·split;·rename_i b g off;rw[QbJ];simp only[aLoad,HM.cells,HM.run];cases d:h.get b with|none=>rfl|some x=>cases x with|map a es=>rfl|dead a=>rfl|loop=>rfl|cells a cs=>simp only;rw[QaI,QmQ];cases f:Nat.beq a g with|true=>simp only[cond_true,if_true];cases cs[off]?<;>rfl|false=>simp[HM.run]
  ·rename_i cs;split<;>rfl
  rename_i h1 c;cases x<;>first|rfl|(exact absurd rfl (h1 _ _ _))|(exact absurd rfl (c _))
 grind[QcQ,Qc4]
def one1:AV->Bool|.any|.agg _|.tup _=>false|_=>true
def storeR(A:Ans α)(m:Nat)(x v:AV)(h:Heap)(k:AV->Heap->α):α:=match x with|.ptr b g off=>ifB (one1 v&&Nat.beq m 1) (getR h b fun o=>(match o with|some (.cells a cs)=>ifB (Nat.beq a g) (ifB (Nat.ble (Nat.succ off) cs.length) (nthSetR cs off v fun cs=>putBR A h b (.cells a cs) fun h=>k .any h) A.bad) A.bad|_=>A.bad)) (runR A (aStore m x v) h k)|_=>runR A (aStore m x v) h k
theorem QoS(A:Ans α)(m:Nat)(x v:AV)(h:Heap)(k:AV->Heap->α):storeR A m x v h k=match(aStore m x v).run h with|some (u,h')=>k u h'|none=>A.bad:=by
 unfold storeR;split
 ·rename_i b g off;rw[QaI];split
  ·rename_i h1;simp only[Bool.and_eq_true]at h1;obtain⟨h1,j⟩:=h1;have:m=1:=by simpa using j
   subst this;have d:v.cells=[v]/\AV.one v=true:=by cases v<;>first|(exact⟨rfl,rfl⟩)|(cases h1)
   rw[QbJ];simp only[aStore,HM.cells,HM.run];cases f:h.get b with|none=>rfl|some x=>cases x with|map a es=>rfl|dead a=>rfl|loop=>rfl|cells a cs=>simp only;rw[QaI,QaI];cases i:Nat.beq a g with|false=>simp[HM.run]|true=>
    have:a=g:=by simpa using i
    subst this;simp only[cond_true,if_true,d.1];by_cases c:off<cs.length
    ·rw[if_pos (Nat.ble_eq_true_of_le c),if_pos ⟨rfl,c,by simp[d.2]⟩,QnK,QbS];simp only[HM.run];have e:Go.AM.putR cs off [v]=cs.set off v:=rfl;by_cases f:b<lim
     ·have :Nat.blt b lim=true:=by simp_all
      grind
     have :Nat.blt b lim=false:=by simp_all[Bool.eq_false_iff]
     grind
    rw[if_neg (fun h=>c (Nat.le_of_ble_eq_true h)),if_neg (by simp;omega)];rfl
  grind[QcQ]
 grind[QcQ]
end
end Go.AM
namespace Go.AM
variable{P:Program}
theorem HRel.turnL{ok:Okc}{c:Ctx ok}{h:Heap}{w:World}(H:HRel c h w){b g cb:Nat}{r:Loop}{x:Blk}(o:Obj)(p:b<lim)(f:Live h b g)(hp:c.ρ b g=some (.loc cb 0))(j:w.heap[cb]?=some (.loop r))(i:x.gen=g)(s:∀c',Evo c w c' (w.putObj cb o)->c'.ρ b g=some (.loc cb 0)->c'.O cb->BRel c' (w.putObj cb o) b x):∃c',Evo c w c' (w.putObj cb o)/\HRel c' (h.set b x) (w.putObj cb o)/\c'.ρ b g=some (.loc cb 0):=by
 subst i;have l:=Qbe j;have other:∀k,k≠cb->(w.putObj cb o).heap[k]?=w.heap[k]?:=fun k d=>World.putObj_heap_other d;have a:∀y,x.gen<y->c.ρ b y=none:=by intro y u;obtain⟨z,q,m,_⟩:=f;exact H.later b z q y (by omega)
 have:=H.put (w':=w.putObj cb o) (cb:=cb) (base:=0) p a (.inr hp) (.inr ⟨x.gen,0,f,hp⟩) rfl rfl rfl (by simp_all) (by simp_all) (fun k _ d=>other k d) (fun C e t hc=>by simp_all) (fun E=>s _ E (by show(if b=b/\x.gen=x.gen then _ else _)=_;simp_all) (.inr rfl));exact⟨_,this.1,this.2,by show(if b=b/\x.gen=x.gen then _ else _)=_;simp_all⟩
def upsT:Tmps->List Nat->List AV->Tmps|T,p::a,x::xs=>upsT (up T p x) a xs|T,_,_=>T
theorem QkW{ok:Okc}{c:Ctx ok}{w:World}:∀(a:List Nat)(xs:List AV)(vs:List Value)(T:Tmps)(t:Array Value),(∀p∈a,p<t.size)->xs.length=a.length->VRels c w xs vs->(∀i,VRel c w (lk T i) (t.getD i undef))->(∀i,VRel c w (lk (upsT T a xs) i) (((a.zip vs).foldl (fun t(p:Nat×Value)=>t.setIfInBounds p.1 p.2) t).getD i undef))/\((a.zip vs).foldl (fun t(p:Nat×Value)=>t.setIfInBounds p.1 p.2) t).size=t.size
 |[],xs,vs,T,t,_,_,_,f=>by cases xs<;>exact⟨f,rfl⟩
 |p::a,[],_,_,_,_,b,_,_=>by simp at b|p::a,x::xs,vs,T,t,hp,b,g,f=>by simp only[VRels]at g;obtain⟨v,d,rfl,h1,j⟩:=g;have l:p<t.size:=hp p (by simp);obtain⟨k,o⟩:=QkW a xs d (up T p x) (t.setIfInBounds p v) (fun q m=>by simp_all) (by simpa using b) j (fun i=>by
  rw[lk_up];by_cases e:i=p;·simp_all
  rw[if_neg e];have:=f i;simpa[Array.getElem?_setIfInBounds_ne (fun h=>e h.symm)]using this);exact⟨k,by simp_all⟩
def stOf:SX->LSt|.normal=>.ready|e=>.done e
def SX.isNormal:SX->Bool|.normal=>true|_=>false
theorem RSpec.of_W{b g N:Nat}{T:Tmps}{A:List Nat}{J body:LCode}{args:List AV}{h h':Heap}{v:AV}(hb:h.get b=some (.loop g N T A J body .ready))(Z:b<lim)(hlen:args.length=A.length)(K:∀p∈A,p<N)(hw:W P N J.slim (fun e B=>e=.normal/\∃N1 T1 s m j,B.h.get b=some (.loop g N1 T1 s m j .ready)/\W P N body.slim (fun e C=>∃N2 T2 o q d,C.h.get b=some (.loop g N2 T2 o q d .busy)/\v=.bool e.isNormal/\∀x,(C.h.set b (.loop g N2 T2 o q d (stOf e))).get x=h'.get x) ⟨B.T,B.h.set b (.loop g N1 T1 s m j .busy)⟩) ⟨upsT T A args,h⟩):RSpec P b g args h v h':=by
 intro c w f F H ha I;obtain⟨cb0,r,h1,h2,h3,L⟩:=H.blk b _ hb;rw[I]at h1;cases h1;have Y:f.size=r.params.size:=by
  have e1:=QaC ha;have e2:r.params.toList.length=A.length:=by rw[L.params]
  simp_all
 refine⟨r.fn,_,r.assign,r.body,run_yield h3 Y,roundIn_of_wpIn trivial ?_⟩;have l:(r.params.zip f).foldl (fun tmps(x:Nat×Value)=>tmps.setIfInBounds x.1 x.2) r.tmps=(A.zip f.toList).foldl (fun t(p:Nat×Value)=>t.setIfInBounds p.1 p.2) r.tmps:=by rw[<-Array.foldl_toList,Array.toList_zip,L.params]
 obtain⟨ht,Q⟩:=QkW A args f.toList T r.tmps (fun p hp=>by rw[L.size];exact K p hp) hlen ha L.tmps;refine hw r.assign L.okA.1 (c.rb 0) ⟨_,[]⟩ w ⟨H.rebase 0,fun i=>?_,?_,Nat.zero_le _⟩ (some F) (fun e=>by rw[L.okA.2]at e;cases e) _ ?_;·rw[l];exact(ht i).rebase 0
 ·rw[l,Q,L.size]
 rintro e B c1 a1 w1⟨rfl,N1,T1,s,m,j,hB,M⟩S1 E1;obtain⟨V,r1,g1,g2,O,L1⟩:=S1.heap.blk b _ hB;have y:c1.ρ b g=some (.loc F 0):=E1.rho _ _ _ I;rw[show c1.ρ b g=some (.loc V 0)from g1]at y;cases y;refine⟨_,run_beginRound O L1.state,?_⟩;obtain⟨c2,E2,H2,G⟩:=S1.heap.turnL (.loop {r1 with state:=.busy}) (x:=.loop g N1 T1 s m j .busy) Z ⟨_,hB,rfl,fun k=>by simp⟩ g1 O rfl (fun c' E' U X=>⟨F,_,U,X,World.putObj_heap_same (Qbe O),by have L':=L1.mono (E'.ext S1.heap.disj);exact⟨L'.params,L'.size,L'.tmps,L'.okA,L'.okB,rfl,L'.pend⟩⟩);refine M r.body L.okB.1 c2 a1 _ ⟨H2,fun i=>VRel.mono (E2.ext S1.heap.disj) _ _ (S1.tmps i),S1.size,S1.defers.mono E2⟩ (some F) (fun e=>by rw[L.okB.2]at e;cases e) _ ?_;rintro e C c3 a3 w3⟨N2,T2,o,q,d,hC,rfl,hh⟩S3 E3;obtain⟨S,r3,q1,q2,R,L3⟩:=S3.heap.blk b _ hC;have u:c3.ρ b g=some (.loc F 0):=E3.rho _ _ _ G;rw[show c3.ρ b g=some (.loc S 0)from q1]at u;cases u;have fin:∀(a:Option Code),a.isNone=e.isNormal->(stOf e).pend=a->(stOf e).state=(if a.isNone then .ready else .done)->∃v w',(Instr.endRound F a).run P w3=.ok v w'/\Rets P c w h' (.bool e.isNormal) (.returned v) w':=by intro a j1 j2 j3;obtain⟨c4,E4,H4,_⟩:=S3.heap.turnL (.loop {r3 with state:=if a.isNone then .ready else .done,pending:=a}) (x:=.loop g N2 T2 o q d (stOf e)) Z ⟨_,hC,rfl,fun k=>by simp⟩ q1 R rfl (fun c' E' U X=>⟨F,_,U,X,World.putObj_heap_same (Qbe R),by have L':=L3.mono (E'.ext S3.heap.disj);exact⟨L'.params,L'.size,L'.tmps,L'.okA,L'.okB,j3.symm,j2.symm⟩⟩);have E:=((E1.trans E2).trans E3).trans E4;exact⟨_,_,run_endRound a R,_,(c4.rb (c.base)),rfl,E.rebase,(Qcc hh H4).rebase _,by simp[VRel,j1]⟩
 cases e with|normal=>exact fin none rfl rfl rfl|exit i=>exact fin (some (.exit i)) rfl rfl rfl|ret=>exact fin (some .ret) rfl rfl rfl
def leftQ(Q:SX->St->Prop)(B:St):LSt->Prop|.ready=>Q .normal B|.busy=>False|.done e=>e.isNormal=false/\Q e B
theorem W.rfunc{N:Nat}{Q:SX->St->Prop}{A:St}{g:Opd}{Y:List Nat}{O body:SCode}{f b:Nat}{first cap:List AV}{v:AV}{h2:Heap}{T2:Tmps}{N2:Nat}{ps2:List Nat}{as2 H:LCode}{st:LSt}(las lbody:LCode)(hla:las.slim=O)(hlb:lbody.slim=body)(hg:ev A.T g=.fn f first cap)(hb:A.h.get b=none)(hl:b<lim)(hs:HSpec P f (first++[.yld b 0]++cap) (A.h.set b (.loop 0 N A.T Y las lbody .ready)) v h2)(R:h2.get b=some (.loop 0 N2 T2 ps2 as2 H st))(hQ:leftQ Q ⟨A.T,h2.set b (.dead 0)⟩ st):W P N (.rfunc g Y N O body) Q A:=by
 intro code T c a w S ro hro Q' q;cases code<;>simp only[okCode,Bool.false_eq_true,Bool.and_eq_true,beq_iff_eq,Bool.not_eq_true']at T;rename_i g' ps' U G;obtain⟨⟨⟨⟨⟨⟨⟨k1,k2⟩,_⟩,_⟩,k3⟩,k4⟩,k5⟩,k6⟩:=T;have:=hro rfl;subst this;have s:=Qat S.tmps k1;rw[hg]at s;simp only[VRel]at s;obtain⟨x',y',hgv,hx,hy⟩:=s;refine wpIn_rangeFunc fun fn _=>?_;obtain⟨E0,H0⟩:=S.heap.grow (w':=w.alloc (.deferred (some []))) rfl rfl rfl (by simp) (fun k j=>Go.RowKit.Below.heap_alloc w _ k j);obtain⟨rec,o⟩:∃rec:Loop,rec={state:=.ready,pending:=none,fn,tmps:=a.tmps,params:=ps',assign:=U,body:=G,defers:=w.heap.size}:=⟨_,rfl⟩;have X:(w.alloc (.deferred (some []))).heap.size=w.heap.size+1:=by simp
 obtain⟨E1,H1⟩:=H0.put (w':=(w.alloc (.deferred (some []))).alloc (.loop rec)) (b:=b) (cb:=w.heap.size+1) (base:=0) (x:=.loop 0 N A.T Y las lbody .ready) hl (fun y hy=>H0.fresh b hb y) (.inl (H0.fresh b hb _)) (.inl X.symm) rfl rfl rfl (by simp) (by simp) (fun k j _=>Go.RowKit.Below.heap_alloc _ _ k j) (fun C e fr hc=>by simp_all) (fun E=>⟨w.heap.size+1,rec,by show(if b=b/\0=0 then _ else _)=_;simp_all,.inr rfl,by have:=World.alloc_heap_new (w.alloc (.deferred (some []))) (.loop rec);simp_all,by subst o;exact⟨k2,S.size,fun i=>VRel.mono (E0.trans E|>.ext S.heap.disj) _ _ (S.tmps i),by rw[hla];exact⟨k5,k3⟩,by rw[hlb];exact⟨k6,k4⟩,rfl,rfl⟩⟩);generalize u:c.with b (Blk.loop 0 N A.T Y las lbody .ready).gen (.loc (w.heap.size+1) 0) (some (w.heap.size+1))=m at E1 H1;have hρ1:m.ρ b 0=some (.loc (w.heap.size+1) 0):=by rw[<-u];show(if b=b/\0=0 then _ else _)=_;simp_all
 have hO1:∀k,m.O k->c.O k\/k=w.heap.size+1:=by
  intro k j;rw[<-u]at j;rcases j with j|j;·exact .inl j
  simp_all
 have hF1:∀k,m.F k->c.F k:=by intro k j;rw[<-u]at j;exact j
 generalize hW1:(w.alloc (.deferred (some []))).alloc (.loop rec)=W1 at E1 H1;have J:W1.heap[w.heap.size]?=some (.deferred (some [])):=by grind[Go.RowKit.Below.heap_alloc,World.alloc_heap_new]
 have E01:=E0.trans E1;have p:VRels m W1 (first++[.yld b 0]++cap) (x'++#[Value.func (.yield (w.heap.size+1)) #[] #[]]++y').toList:=by
  have e1:=VRels.mono (E01.ext S.heap.disj) _ _ hx;have e2:=VRels.mono (E01.ext S.heap.disj) _ _ hy;have e3:VRels m W1 [.yld b 0] [.func (.yield (w.heap.size+1)) #[] #[]]:=by simp only[VRels,VRel];simp_all
  grind[Qbw]
 refine⟨w.heap.size+1,[{target:=.collected w.heap.size,args:=#[]}],W1,{target:=.fn (.func f) y',args:=x'++#[.func (.yield (w.heap.size+1)) #[] #[]]},W1,f,x'++#[.func (.yield (w.heap.size+1)) #[] #[]]++y',W1,?_,?_,fun _ _=>trivial,?_,fun h=>by simp[FW,Fence.wide]at h,?_⟩;·rw[<-hW1,o];exact run_enterLoop_outer _ _ _ _ _
 ·simp_all[resolve,Deferred.ofValue,Act.eval]
 ·simp only[invoke];exact QfC hs.1 _
 refine callsFW ((hs.2 m W1 _ H1 p).mono ?_);rintro e w2⟨cv,c2,rfl,E2,H2,V2⟩;obtain⟨cb,r,p1,p2,p3,L⟩:=H2.blk b _ R;have hρ2:c2.ρ b 0=some (.loc (w.heap.size+1) 0):=E2.rho _ _ _ hρ1;rw[show c2.ρ b 0=some (.loc cb 0)from p1]at hρ2;cases hρ2;have F:r.state≠.busy:=by rw[L.state];cases st<;>simp[LSt.state,leftQ]at hQ⊢
 obtain⟨V,E3,H3,_⟩:=H2.turnL (.loop {r with state:=.exhausted}) (x:=.dead 0) hl ⟨_,R,rfl,fun k=>by simp⟩ p1 p3 rfl (fun c' _ _ _=>trivial);have K:=run_endLoop (P:=P) p3 F;generalize w2.putObj (w.heap.size+1) (.loop {r with state:=.exhausted})=W3 at E3 H3 K;refine⟨r.pending,W3,K,?_⟩;have E:=(E01.trans E2).trans E3;have I:=S.defers.low;have hD:w.heap.size<W1.heap.size:=Qbe J;have t:¬m.O w.heap.size:=fun h=>by
  rcases hO1 _ h with h|h;·have:=S.heap.inO _ h;omega
  omega
 have M:Marks V W3 ({target:=.collected w.heap.size,args:=#[]}::a.defers):=by
  have B:¬m.F w.heap.size:=fun h=>by have:=S.heap.inF _ (hF1 _ h);omega
  have step:=(E2.trans E3);have m1:Marks m W1 ({target:=.collected w.heap.size,args:=#[]}::a.defers):=by
   refine⟨⟨w.heap.size,rfl,by rw[E01.base];exact I,t,B,J,fun d' hd' e=>?_⟩,S.defers.mono E01⟩;have key:∀{Z:List Deferred},Marks c w Z->∀d∈Z,∀D,d.target=.collected D->D<w.heap.size:=by intro Z;induction Z with|nil=>intro _ d hd;cases hd|cons x xs ih=>
    rintro⟨⟨D0,x1,x2,x3,x4,x5,x6⟩,hr⟩d hd D e;rcases List.mem_cons.1 hd with rfl|hd;·grind
    grind
   have:=key S.defers d' hd' _ e;omega
  exact m1.mono step
 have S3:SRel N V ⟨A.T,h2.set b (.dead 0)⟩ {a with defers:={target:=.collected w.heap.size,args:=#[]}::a.defers} W3:=⟨H3,fun i=>VRel.mono (E.ext S.heap.disj) _ _ (S.tmps i),S.size,M⟩;have l:=L.pend;cases st with|ready=>rw[show r.pending=none from l];exact q .normal _ V _ _ hQ S3 E|busy=>exact hQ.elim|done e=>rw[show r.pending=some e.toCode from l];obtain⟨he,hq⟩:=hQ;cases e with|normal=>cases he|exit i=>exact wpIn_exit (q (.exit i) _ V _ _ hq S3 E)|ret=>exact wpIn_ret (q .ret _ V _ _ hq S3 E)
end Go.AM
