/- A part of the proof of GuardsOfCardSaid: lemmas on the way (AmT, AnDa, AnDb, AnDc, AnDd, AnDe, AnDf, AnDg, AnDi, AmO, AmOa, AmP, AmQ). Conditions: none of ours. -/
import Derived.Laws.IdiomRangeMap
import Derived.Test.YtikknocmfjfohaaGreatDoorAmO7
theorem Go.AM.bW6FO{p:Prop}(h:p:=by
 intro h k hm;obtain⟨hl,hm⟩:=Qa2 hm;have:=ih _ k hm;simp only[HM.bind,HM.run];have hl':Nat.blt b lim=true:=by simp_all
 rw[hl'];exact this):p:=h
set_option linter.unusedSectionVars false
set_option maxHeartbeats 32000000
set_option maxRecDepth 100000
set_option linter.unusedVariables false
set_option linter.unusedSimpArgs false
namespace Go.AM
variable{P:Program}{ok':Okc}{c:Ctx ok'}{w:World}{h:Heap}
variable{v:AV}{a:Act}{K:Act->World->Prop}{es:Array MapEntry}{seen:Array Nat}{ops:Array Oper}{Q:Exit->Act->World->Prop}{n vis:List Nat}{p:MLParts}{N b d i r:Nat}{o o':Obj}{x:Opd}{body:SCode}{A C:St}{ty:TypeId}{cv:Value}{w' w0:World}
def upo(w:World)(r:Nat)(o:Obj):World:={w with heap:=w.heap.setIfInBounds r o}
theorem Qsz(a:r<w.heap.size):(upo w r o).heap[r]?=some o:=by simp[upo,a]
theorem QcC{k}(a:k≠r):(upo w r o).heap[k]?=w.heap[k]?:=by simp_all[upo,Ne.symm]
theorem QeA:(upo w r o).heap.size=w.heap.size:=by simp[upo]
theorem HRel.other(H:HRel c h w)(s:w.heap[r]?=some o)(hc:∀C e d,o≠.cells C e d)(t:¬c.O r)(n:¬c.F r):Ext c w c (upo w r o')/\HRel c h (upo w r o'):=by
 have E:Ext c w c (upo w r o'):=by
  refine⟨fun _ _ _ h=>h,fun _ h=>h,fun i p hf f=>?_,fun i C e d f=>?_⟩;·grind[QcC]
  refine⟨C,d,?_,rfl⟩;rw[QcC (fun q=>by simp_all)];exact f
 refine⟨E,H.fresh,H.later,fun b x g=>?_,H.inj,H.disj,fun k a=>by rw[QeA];exact H.inF k a,fun k a=>by rw[QeA];exact H.inO k a⟩;refine Zcg E (fun i base l hp=>?_) (H.blk b x g);have m:=H.owned ⟨x,g,rfl,l⟩ hp;grind[QcC]
def Ctx.name{a}(c:Ctx a)(b r:Nat):Ctx a:={c with ρ:=fun x y=>if x=b/\y=0 then some (.loc r 0)else c.ρ x y}
variable{c0:Ctx (okc P)}{c':Ctx ok'}
theorem HRel.name(H:HRel c h w)(o:h.get b=none)(f:b<lim):Evo c w (c.name b r) w/\HRel (c.name b r) (h.set b (.dead 0)) w:=by
 have E:Evo c w (c.name b r) w:=by
  refine⟨rfl,rfl,rfl,Zau _,fun _ C _ A h=>⟨C,A,h,rfl⟩,fun _ _ _=>rfl,?_,fun _ h=>h,fun _ h=>.inl h,fun _ h=>.inl h,rfl⟩;intro x y p hp;show(if x=b/\y=0 then some (Place.loc r 0)else c.ρ x y)=some p;by_cases e:x=b/\y=0;·obtain⟨rfl,rfl⟩:=e;rw[H.fresh _ o]at hp;cases hp
  simp_all
 have d:∀{x y:Nat},x≠b->(c.name b r).ρ x y=c.ρ x y:=by intro x y a;show(if x=b/\y=0 then some (Place.loc r 0)else c.ρ x y)=_;simp_all
 refine⟨E,?_,?_,?_,?_,H.disj,H.inF,H.inO⟩
 ·intro x a g;rw[Zcd _ f]at a;by_cases e:x=b;·simp_all
  rw[if_neg e]at a;rw[d e];exact H.fresh x a g
 ·intro x z a g n;rw[Zcd _ f]at a;by_cases e:x=b;·rw[if_pos e]at a;cases a;subst e;show(if x=x/\g=0 then some (Place.loc r 0)else c.ρ x g)=none;rw[if_neg (by omega)];exact H.fresh _ o g
  rw[if_neg e]at a;rw[d e];exact H.later x z a g n
 ·intro x z a;rw[Zcd _ f]at a;by_cases e:x=b;·rw[if_pos e]at a;cases a;trivial
  rw[if_neg e]at a;refine Zcg (E.ext H.disj) (fun t base k hp=>?_) (H.blk x z a);exact⟨H.owned ⟨z,a,rfl,k⟩ hp,rfl⟩
 intro x g G I t base m l F p q;have live:∀{x g:Nat},Live (h.set b (.dead 0)) x g->x≠b/\Live h x g:=by
  rintro x g⟨z,i,n,k⟩;rw[Zcd _ f]at i;by_cases e:x=b;·grind
  rw[if_neg e]at i;exact⟨e,z,i,n,k⟩
 obtain⟨v,B⟩:=live l;obtain⟨u,s⟩:=live F;rw[d v]at p;rw[d u]at q;exact H.inj _ _ _ _ _ _ _ B s p q
theorem Qkp:∀{xs:List (AV×AV)}{es:List MapEntry}{n k:Nat},MRel c w xs es n->k+xs.length=n->∀(i:Nat)(e:MapEntry),es[i]?=some e->e.born=k+i/\i<xs.length|[],es,n,k,hm,a,i,e,hi=>by simp_all[MRel]|(x,y)::xs,es,n,k,hm,a,i,e,hi=>by simp only[MRel]at hm;obtain⟨h,d,rfl,_,_,_,f,b⟩:=hm;simp only[ZaC]at a;cases i with|zero=>simp at hi;subst hi;exact⟨by omega,by simp⟩|succ i=>simp at hi;obtain⟨g,l⟩:=Qkp b (k:=k+1) (by omega) i e hi;exact⟨by omega,by simp;omega⟩
theorem Qn3{since c0 clock}(k:w.heap[r]?=some (.mapIter (some d) since seen c0))(q:w.heap[d]?=some (.map es clock))(hold:∀x∈es.toList,x.born<since)(g:since<=c0):((leftOf es seen).size=0/\(Instr.next (.pointer (some ⟨r,0,none⟩)) false ty).run P w=.ok (.tuple #[.bool false]) w)\/∃e∈(leftOf es seen).toList,∃a:World,(a=w\/a=w.drew)/\(Instr.next (.pointer (some ⟨r,0,none⟩)) false ty).run P w=.ok (.tuple #[.bool true,e.key,e.val]) (upo a r (.mapIter (some d) since (seen.push e.born) clock)):=by
 simp only[Instr.next,getObj,Sem.run_bind,Sem.run,k,q,Result.andThen,next_test_false seen es since c0 hold g,Zar,if_false];unfold leftOf;have b:∀x∈(Array.filter (fun e=>!seen.contains e.born) es).toList,x.born<since:=fun x m=>hold x (by simp_all);generalize Array.filter (fun e=>!seen.contains e.born) es=L at b⊢;have n:L.filter (fun x=>decide (x.born<since))=L:=Array.filter_eq_self.2 (fun x m=>by simp_all);have o:L.filter (fun x=>decide (x.born≥since))=#[]:=by simp_all
 simp only[n,o,Array.append_empty];by_cases p:L.size=0;·left;have:L=#[]:=Array.eq_empty_of_size_eq_zero p;subst this;refine⟨rfl,?_⟩;simp_all[Question.forced]
 right;have f:L.isEmpty=false:=by simp_all
 simp only[f,Zar,if_false,Array.empty_append,Array.size_map];have h:∃(j:Nat)(a:World),j<L.size/\(a=w\/a=w.drew)/\(choose (Question.mapNext L.size)).run P w=.ok j a:=by
  by_cases hf:L.size<=1;·exact⟨0,w,by omega,.inl rfl,by simp_all[Question.forced]⟩
  exact⟨_,w.drew,Nat.mod_lt _ (by omega),.inr rfl,by simp only[choose,Sem.run,Question.forced,decide_eq_true_eq,hf,if_false,Question.cut];rfl⟩
 obtain⟨j,a,s,c,i⟩:=h;refine⟨L[j],by simp,a,c,?_⟩;have l:a.heap[r]?=some (.mapIter (some d) since seen c0):=by rcases c with rfl|rfl<;>exact k
 simp_all[setObj,upo,Sem.run]
theorem Ql7{a since clock:Nat}{e:MapEntry}(d:w.heap[r]?=some (.mapIter (some a) since (seen.push e.born) clock))(b:w.heap[a]?=some (.map es clock))(he:e∈es.toList)(c:(es.toList.map (·.born)).Nodup):(Instr.entry (.pointer (some ⟨r,0,none⟩))).run P w=.ok (.tuple #[e.key,e.val]) w:=by
 have hf:es.find? (·.born==e.born)=some e:=by rw[<-Array.find?_toList];grind[find_born]
 simp_all[Instr.entry,getObj,Sem.run]
theorem QcO{o}(ho:ops[i]?=some o)(hg:o.guard=none)(hr:(execOp a.eval o).run P w=.ok (.value cv) w')(hK:K (a.put o.dst cv) w'):wpOpIn (FW none) 0 P ops Q i K a w:=by
 unfold wpOpIn;rw[ho];have:Region.wanted o (yielded ops a.tmps)=true:=by simp[Region.wanted,hg]
 simp only[this,if_true];refine⟨fun _ _=>trivial,?_⟩;show o.uponIn (FW none) 0 P a K Q ((o.semAt none a.eval).run P w);rw[Oper.semAt_none,hr];exact hK
theorem QjC{base}(hQ:∀c a w,SRel N c C a w->Evo c0 w0 c w->wpOpsIn (FW none) 0 P ops Q n a w):∀(l:List SOper)(i j:Nat)(fs:List FP)(A:St)(c:Ctx (okc P))(a:Act)(w:World),(∀k s,l[k]?=some s->∃o,ops[i+k]?=some o/\okOper P N ops o s=true)->RunF P base j l fs A C->SRel N c A a w->Evo c0 w0 c w->wpOpsIn (FW none) 0 P ops Q (List.range' i l.length++n) a w|[],i,j,fs,A,c,a,w,b,d,S,E=>by obtain⟨_,rfl⟩:=d;grind|s::l,i,j,fs,A,c,a,w,b,d,S,E=>by obtain⟨f,h,v,h1,_,y,d⟩:=d;rw[ZaC,Zb9,ZaU,wpOpsIn_cons];obtain⟨o,ho,x⟩:=b 0 s rfl;rw[Nat.add_zero]at ho;refine QfE S ho x y fun t p u S' E'=>?_;refine QjC hQ l (i+1) (j+1) h _ t p u ?_ d S' (E.trans E');intro k q g;obtain⟨z,r,m⟩:=b (k+1) q (by simpa using g);grind
theorem QpH{code}(h:mlParts code=some p):∃b a i8,code=.seq (.region b p.ops6 false) (.block p.b (.loop (.seq (.region a p.ops7 false) (.seq (.cond (.tmp p.c) .skip (.exit p.b')) (.block p.b3 (.seq (.region i8 p.ops8 false) p.body)))))):=by unfold mlParts at h;grind
theorem Qqt:VRel (c.name b r) w (.ptr b 0 0) (.pointer (some ⟨r,0,none⟩)):=by simp only[VRel];exact⟨r,0,by show(if b=b/\0=0 then some (Place.loc r 0)else _)=_;simp,by simp⟩
structure IterAt{ok':Okc}(c:Ctx ok')(w:World)(b r mb mg n:Nat)(vis:List Nat)(m:Nat)(seen:Array Nat):Prop where
 name:c.ρ b 0=some (.loc r 0)free:¬c.O r/\¬c.F r/\r<w.heap.size
 obj:w.heap[r]?=some (.mapIter (some m) n seen n)place:c.ρ mb mg=some (.loc m 0)seen:∀i,i<n->(seen.contains i=true↔i∈vis)
theorem IterAt.evo{mb mg n m}(I:IterAt c w b r mb mg n vis m seen)(E:Evo c w c' w'):IterAt c' w' b r mb mg n vis m seen:=⟨E.rho _ _ _ I.name,⟨fun h=>(E.own r h).elim I.free.1 (fun h=>absurd I.free.2.2 (by omega)),fun h=>(E.frzNew r h).elim I.free.2.1 (fun h=>h.elim I.free.1 (fun h=>absurd I.free.2.2 (by omega))),Za0 I.free.2.2 E.size⟩,by rw[E.keep r I.free.2.2 I.free.1];exact I.obj,E.rho _ _ _ I.place,I.seen⟩
theorem Qfg(S:SRel N c A a w)(b:d<N)(V:VRel c w v cv):SRel N c ⟨up A.T d v,A.h⟩ (a.put (some d) cv) w:=by have:=S.put (dst:=some d) (.refl c w) S.heap (fun e he=>by simp_all) V;exact this
theorem Marks.turn(k:w.heap[r]?=some o)(f:o≠.deferred (some [])):∀{ds:List Deferred},Marks c w ds->Marks c (upo w r o') ds|[],h=>by show c.base<=_;rw[QeA];exact h|d::ds,⟨⟨D,h1,l,i,g,a,b⟩,hm⟩=>⟨⟨D,h1,l,i,g,by rw[QcC (fun e=>by simp_all)];exact a,b⟩,Marks.turn k f hm⟩
theorem SRel.turn(S:SRel N c A a w)(b:w.heap[r]?=some o)(hc:∀C e f,o≠.cells C e f)(d:¬c.O r)(g:¬c.F r)(h:o≠.deferred (some [])):SRel N c A a (upo w r o'):=by obtain⟨E,H⟩:=S.heap.other (o':=o') b hc d g;exact⟨H,fun i=>Zce E _ _ (S.tmps i),S.size,S.defers.turn b h⟩
theorem Evo.turn{c0}(E:Evo c0 w0 c w)(hr:w0.heap.size<=r):Evo c0 w0 c (upo w r o'):=⟨E.os,E.tape,E.output,by rw[QeA];exact E.size,fun cb C e fr hb=>by obtain⟨C',fr',h1,h2⟩:=E.shape cb C e fr hb;grind[QcC],fun cb hlt hO=>by rw[QcC (by omega)];exact E.keep cb hlt hO,E.rho,E.frz,E.frzNew,E.own,E.base⟩
theorem Qgr:∀(L:List Nat),i∈L->(L.filter fun j=>j≠i).length<L.length
 |[],h=>by cases h|y::L,a=>by
  rcases Zax.1 a with h|h;·grind
  have :=Qgr L h;grind
theorem W.mloop{n:Nat}{Q:SX->St->Prop}{B0:St}{pre rest:List SOper}{it nx ok en Y b2:Nat}(base:Nat)(fs:List FP)(hr:RunF P base 0 pre fs A B0){V T:Nat}{es:List (AV×AV)}(hx:ev B0.T x=.map V T)(hm:B0.h.get V=some (.map T es))(hn:B0.h.get n=none)(hnl:n<lim)(I:List Nat->St->Prop)(hI:∀b B,I b B->lk B.T it=.ptr n 0 0/\∃es',B.h.get V=some (.map T es')/\es'.length=es.length)(h0:I [] ⟨up B0.T it (.ptr n 0 0),B0.h.set n (.dead 0)⟩)(round:∀b B i k v es',I b B->i∉b->B.h.get V=some (.map T es')->es'[i]?=some (k,v)->∃bs fs C,RunF P bs 0 rest fs ⟨up (up (up B.T nx .any) ok (.bool true)) en (.tup [k,v]),B.h⟩ C/\W P N body (fun e D=>match e with|.normal=>I (i::b) D|.exit j=>if j=b2 then I (i::b) D else if j=Y then Q .normal D else Q (.exit j) D|.ret=>Q .ret D) C)(done:∀b B,I b B->(∀i,i<es.length->i∈b)->Q .normal ⟨up (up B.T nx .any) ok (.bool false),B.h⟩):W P N (.mloop pre x it nx ok en Y b2 rest body) Q A:=by
 intro code M c0 a0 R S0 ro hro Q' hQ;have:=hro rfl;subst this;simp only[okCode]at M;split at M
 ·rename_i p hp;simp only[Zab,beq_iff_eq]at M;obtain⟨⟨⟨⟨⟨⟨⟨o6,ob⟩,o7⟩,oc⟩,ob'⟩,ob3⟩,o8⟩,obd⟩:=M;obtain⟨i6,i7,i8,rfl⟩:=QpH hp;rw[ob,oc,ob',ob3];unfold okRange at o6;split at o6
  ·rename_i o ho;simp only[Zab,beq_iff_eq,decide_eq_true_eq,Option.isNone_iff_eq_none]at o6;obtain⟨⟨⟨⟨⟨g1,g2⟩,g3⟩,g4⟩,g5⟩,g6⟩:=o6;obtain⟨k1,k2⟩:=QdS g6;have hpre:∀k s,pre[k]?=some s->∃o,p.ops6[0+k]?=some o/\okOper P N p.ops6 o s=true:=by
    intro k s hs;have hlt:k<pre.length:=(Zaj.1 hs).1;have hlt6:k<p.ops6.size:=by omega
    have e1:(p.ops6.toList.take pre.length)[k]?=some p.ops6[k]:=by simp_all
    grind
   refine wpIn_seq (wpIn_region ?_);rw[g5,show List.range (pre.length+1)=List.range' 0 pre.length++[pre.length]by rw[ZaK,ZbR]];refine QjC (c0:=c0) (w0:=R) ?_ pre 0 0 fs A c0 a0 R hpre hr S0 (.refl _ _);intro c a w S E;rw[wpOpsIn_cons];split at g4
   ·rename_i t y hop;simp only[Zab]at g4;obtain⟨gt,gx⟩:=g4;have hxr:=Qat S.tmps gx;rw[hx]at hxr;simp only[VRel]at hxr;obtain⟨m,hpm,hym⟩:=hxr;obtain⟨ms,clock,hOm,hCm,hRm,hcl⟩:=S.heap.atMap hm hpm;obtain⟨kt,et,hu⟩:∃kt et,P.underlying t=some (.map kt et):=by grind[isMapT]
    have hrun:(execOp a.eval o).run P w=.ok (.value (.pointer (some ⟨w.heap.size,0,none⟩))) (w.alloc (.mapIter (some m) clock #[] clock)):=by
     have e1:execOp a.eval o=(do pure (.value (<-Instr.range t (a.eval y)))):=by cases o;simp only at hop;subst hop;rfl
     rw[e1,hym];simp[run_range_map w t kt et m ms clock hu hCm]
    refine QcO ho g3 hrun ?_;show Exit.then _ _ .normal _ _;rw[g1];obtain⟨E1,H1⟩:=S.heap.grow (w':=w.alloc (.mapIter (some m) clock #[] clock)) rfl rfl rfl (by simp) (fun k hk=>by simp_all[heap_alloc_old]);obtain⟨E2,H2⟩:=H1.name (b:=n) (r:=w.heap.size) hn hnl;have E02:Evo c0 R (c.name n w.heap.size) (w.alloc (.mapIter (some m) clock #[] clock)):=(E.trans E1).trans E2;have S2:SRel N (c.name n w.heap.size) ⟨up B0.T it (.ptr n 0 0),B0.h.set n (.dead 0)⟩ (a.put (some it) (.pointer (some ⟨w.heap.size,0,none⟩))) (w.alloc (.mapIter (some m) clock #[] clock)):=S.put (dst:=some it) (E1.trans E2) H2 (fun d hd=>by simp_all) Qqt;have hsz:w.heap.size<(w.alloc (.mapIter (some m) clock #[] clock)).heap.size:=by simp
    have J2:IterAt (c.name n w.heap.size) (w.alloc (.mapIter (some m) clock #[] clock)) n w.heap.size V T es.length [] m #[]:=by
     refine⟨?_,⟨fun hO=>absurd (S.heap.inO _ hO) (Nat.lt_irrefl _),fun hF=>absurd (S.heap.inF _ hF) (Nat.lt_irrefl _),hsz⟩,?_,E2.rho _ _ _ hpm,fun i _=>by simp⟩;·show(if n=n/\0=0 then some (Place.loc w.heap.size 0)else _)=_;simp
     rw[heap_alloc_new,hcl]
    have hr0':R.heap.size<=w.heap.size:=E.size;generalize w.heap.size=r at*;generalize w.alloc (.mapIter (some m) clock #[] clock)=w2 at*;generalize a.put (some it) (.pointer (some ⟨r,0,none⟩))=a2 at*;generalize hB2:(⟨up B0.T it (.ptr n 0 0),B0.h.set n (.dead 0)⟩:St)=B2 at*;generalize c.name n r=c2 at*;refine wpIn_block ?_;have key:∀(left:Nat)(b:List Nat)(B:St)(c:Ctx (okc P))(a:Act)(w:World)(m:Nat)(seen:Array Nat),((List.range es.length).filter fun i=>i∉b).length=left->I b B->SRel N c B a w->Evo c0 R c w->IterAt c w n r V T es.length b m seen->Lp none P (.seq (.region i7 p.ops7 false) (.seq (.cond (.tmp ok) .skip (.exit Y)) (.block b2 (.seq (.region i8 p.ops8 false) p.body)))) (fun e K G=>match e with|.exit j=>if j=Y then Q' .normal K G else Q' (.exit j) K G|e=>Q' e K G) a w:=by intro left;induction left using Nat.strongRecOn with|_ left ih=>
     intro b B c a w m seen hleft hIB S E J;obtain⟨hit,es',O,hel⟩:=hI b B hIB;have hv:=S.tmps it;rw[hit]at hv;simp only[VRel]at hv;obtain⟨cb,bs,hp1,hv⟩:=hv;rw[J.name]at hp1;cases hp1;obtain⟨ms,clock,hOm,hCm,hRm,hcl⟩:=S.heap.atMap O J.place;have hlen:=QbY hRm;have L:∀(i:Nat)(e:MapEntry),ms.toList[i]?=some e->e.born=i/\i<es.length:=by intro i e hi;have:=Qkp hRm (k:=0) (by omega) i e hi;omega
     have hold:∀y∈ms.toList,y.born<es.length:=by grind[List.mem_iff_getElem?]
     unfold okNext at o7;split at o7
     ·rename_i oa ob7 h7;simp only[Zab,beq_iff_eq,decide_eq_true_eq,Option.isNone_iff_eq_none,Zbq,beq_eq_false_iff_ne]at o7;obtain⟨⟨⟨⟨⟨⟨⟨⟨⟨q1,q2⟩,q3⟩,q4⟩,q5⟩,q6⟩,q7⟩,q8⟩,q9⟩,q10⟩:=o7;have h7':p.ops7=#[oa,ob7]:=by grind
      have hround:(Code.seq (.region i7 p.ops7 false) (.seq (.cond (.tmp ok) .skip (.exit Y)) (.block b2 (.seq (.region i8 p.ops8 false) p.body)))).wpIn (FW none) 0 P (fun e K G=>match e with|.normal=>∃f g B' Z m' q,f<left/\((List.range es.length).filter fun i=>i∉g).length=f/\I g B'/\SRel N Z B' K G/\Evo c0 R Z G/\IterAt Z G n r V T es.length g m' q|.exit j=>if j=Y then Q' .normal K G else Q' (.exit j) K G|e=>Q' e K G) a w:=by
       refine wpIn_seq (wpIn_region ?_);rw[h7'];show wpOpsIn (FW none) 0 P _ _ [0,1] a w;rw[wpOpsIn_cons];split at q4
       ·rename_i j hopa;have H:j=it:=by simpa using q4
        subst H;split at q8
        ·rename_i u hopb;have hj2:u=nx:=by simpa using q8
         subst hj2;have hevi:a.eval (.tmp j)=.pointer (some ⟨r,0,none⟩):=by grind[Act.eval]
         have eA:execOp a.eval oa=(do pure (.value (<-Instr.next (a.eval (.tmp j)) false oa.type))):=by cases oa;simp only at hopa;subst hopa;rfl
         have eB:∀(a:Act),execOp a.eval ob7=(do pure (.value (<-Instr.extract (a.eval (.tmp u)) 0))):=by intro a;cases ob7;simp only at hopb;subst hopb;rfl
         rcases Qn3 (P:=P) (ty:=oa.type) J.obj hCm hold (Zau _)with⟨h1,h2⟩|⟨e,he,U,hw1,h2⟩
         ·refine QcO (by simp) q3 (cv:=.tuple #[.bool false]) (w':=w) (by simp_all) ?_;rw[q1];have S1:SRel N c ⟨up B.T u .any,B.h⟩ (a.put (some u) (.tuple #[.bool false])) w:=Qfg S q2 (by simp[VRel]);have hl1:u<(a.put (some u) (.tuple #[.bool false])).tmps.size:=by rw[S1.size];exact q2
          have hev1:(a.put (some u) (.tuple #[.bool false])).eval (.tmp u)=.tuple #[.bool false]:=by simp_all[Act.eval,Act.put]
          rw[wpOpsIn_cons];refine QcO (by simp) q7 (cv:=.bool false) (w':=w) (by simp_all[Instr.extract]) ?_;rw[q5];have S2:SRel N c ⟨up (up B.T u .any) ok (.bool false),B.h⟩ ((a.put (some u) (.tuple #[.bool false])).put (some ok) (.bool false)) w:=Qfg S1 q6 (by simp[VRel]);show Exit.then _ _ .normal _ _;refine wpIn_seq ?_;have hc2:((a.put (some u) (.tuple #[.bool false])).put (some ok) (.bool false)).eval (.tmp ok)=.bool false:=by have:=S2.tmps ok;simp_all[lk_up,VRel,Act.eval]
          refine wpIn_cond hc2 ?_;refine wpIn_exit ?_;show(if Y=Y then Q' .normal _ _ else _);rw[if_pos rfl];refine hQ .normal _ c _ w (done b B hIB ?_) S2 E;intro i hi;have hmi:i<ms.toList.length:=by omega
          have hbi:=L i ms.toList[i] (Zak hmi);refine(J.seen i hi).1 ?_;cases hcs:seen.contains i with|true=>rfl|false=>
           exfalso;have F:ms.toList[i]∈(leftOf ms seen).toList:=by grind[leftOf]
           have:(leftOf ms seen).toList.length=0:=by simpa using h1
           rw[List.length_eq_zero_iff.1 this]at F;cases F
         have hem:e∈ms.toList/\seen.contains e.born=false:=by simp_all[leftOf]
         obtain⟨i,hi⟩:=List.mem_iff_getElem?.1 hem.1;obtain⟨hb1,hilt⟩:=L i e hi;have hnv:i∉b:=by intro hiv;have:=(J.seen i hilt).2 hiv;simp_all
         have hilt':i<es'.length:=by omega
         have hesi:es'[i]?=some es'[i]:=Zak hilt';obtain⟨e',he',hk1,hk2⟩:=Qew i hRm hesi;rw[hi]at he';cases he';obtain⟨E1,H1⟩:=S.heap.drew;have Sd:SRel N c B a U/\Evo c w c U:=by
          rcases hw1 with rfl|rfl;·exact⟨S,.refl _ _⟩
          exact⟨⟨H1,fun i=>Zce (E1.ext S.heap.disj) _ _ (S.tmps i),S.size,S.defers.mono E1⟩,E1⟩
         have hr1:U.heap[r]?=some (.mapIter (some m) es.length seen es.length):=by rcases hw1 with rfl|rfl<;>exact J.obj
         have hC1:U.heap[m]?=some (.map ms clock):=by rcases hw1 with rfl|rfl<;>exact hCm
         have hmr:m≠r:=by grind
         have S1:=Sd.1.turn (o':=.mapIter (some m) es.length (seen.push e.born) clock) hr1 (by simp_all) J.free.1 J.free.2.1 (by simp_all);have E1':Evo c0 R c (upo U r (.mapIter (some m) es.length (seen.push e.born) clock)):=(E.trans Sd.2).turn hr0';have hsz1:r<U.heap.size:=by grind
         have J1:IterAt c (upo U r (.mapIter (some m) es.length (seen.push e.born) clock)) n r V T es.length (i::b) m (seen.push e.born):=by
          refine⟨J.name,⟨J.free.1,J.free.2.1,by grind[QeA]⟩,by simp_all[Qsz],J.place,?_⟩;intro j hj;rw[Array.contains_push,Zax,hb1];by_cases H:j=i;·simp[H]
          have :(j==i)=false:=by simpa using H
          simp only[this,Zb4,H,false_or];exact J.seen j hj
         have hC2:(upo U r (.mapIter (some m) es.length (seen.push e.born) clock)).heap[m]?=some (.map ms clock):=by simp_all[QcC]
         generalize hw2:upo U r (.mapIter (some m) es.length (seen.push e.born) clock)=h at*;refine QcO (by simp) q3 (cv:=.tuple #[.bool true,e.key,e.val]) (w':=h) (by simp_all) ?_;rw[q1];have S2:SRel N c ⟨up B.T u .any,B.h⟩ (a.put (some u) (.tuple #[.bool true,e.key,e.val])) h:=Qfg S1 q2 (by simp[VRel]);have hev1:(a.put (some u) (.tuple #[.bool true,e.key,e.val])).eval (.tmp u)=.tuple #[.bool true,e.key,e.val]:=by
          have hl0:u<a.tmps.size:=by rw[S.size];exact q2
          simp[Act.eval,Act.put,hl0]
         rw[wpOpsIn_cons];refine QcO (by simp) q7 (cv:=.bool true) (w':=h) (by simp_all[Instr.extract]) ?_;rw[q5];have S3:SRel N c ⟨up (up B.T u .any) ok (.bool true),B.h⟩ ((a.put (some u) (.tuple #[.bool true,e.key,e.val])).put (some ok) (.bool true)) h:=Qfg S2 q6 (by simp[VRel]);show Exit.then _ _ .normal _ _;refine wpIn_seq ?_;have hc2:((a.put (some u) (.tuple #[.bool true,e.key,e.val])).put (some ok) (.bool true)).eval (.tmp ok)=.bool true:=by have:=S3.tmps ok;simp_all[lk_up,VRel,Act.eval]
         refine wpIn_cond hc2 ?_;refine wpIn_skip ?_;show Exit.then _ _ .normal _ _;refine wpIn_block (wpIn_seq (wpIn_region ?_));unfold okEntry at o8;split at o8
         ·rename_i oe le h8;simp only[Zab,beq_iff_eq,decide_eq_true_eq,Option.isNone_iff_eq_none]at o8;obtain⟨⟨⟨⟨z1,z2⟩,z3⟩,z4⟩,z5⟩:=o8;obtain⟨y1,y2⟩:=QdS z5;have hs8:p.ops8.size=1+rest.length:=by
           have:p.ops8.toList.length=(oe::le).length:=by rw[h8]
           grind
          have hg8:∀k,p.ops8[k]?=(oe::le)[k]?:=fun k=>by rw[<-h8,ZaP]
          rw[hs8,show List.range (1+rest.length)=0::(List.range' 1 rest.length++[])by rw[ZbR,Nat.add_comm,Zb9];simp];rw[wpOpsIn_cons];split at z4
          ·rename_i j3 hope;have hj3:j3=j:=by simpa using z4
           subst hj3;have eE:∀(a:Act),execOp a.eval oe=(do pure (.value (<-Instr.entry (a.eval (.tmp j3))))):=by intro a;cases oe;simp only at hope;subst hope;rfl
           have hev3:((a.put (some u) (.tuple #[.bool true,e.key,e.val])).put (some ok) (.bool true)).eval (.tmp j3)=.pointer (some ⟨r,0,none⟩):=by simp_all[Act.eval,Act.put]
           have hnd:(ms.toList.map (·.born)).Nodup:=by grind[Zbf]
           have hobj2:h.heap[r]?=some (.mapIter (some m) es.length (seen.push e.born) clock):=by rw[J1.obj,hcl,hel]
           refine QcO (by rw[hg8];rfl) z3 (cv:=.tuple #[e.key,e.val]) (w':=h) (by rw[eE,hev3];simp[Ql7 (P:=P) hobj2 hC2 hem.1 hnd]) ?_;rw[z1];have vk:VRel c h (es'[i]).1 e.key/\VRel c h (es'[i]).2 e.val:=by obtain⟨X,_⟩:=Sd.1.heap.other (o':=.mapIter (some m) es.length (seen.push e.born) clock) hr1 (by simp_all) J.free.1 J.free.2.1;rw[hw2]at X;exact⟨Zce X _ _ (Zce (Sd.2.ext S.heap.disj) _ _ hk1),Zce X _ _ (Zce (Sd.2.ext S.heap.disj) _ _ hk2)⟩
           have S4:SRel N c ⟨up (up (up B.T u .any) ok (.bool true)) en (.tup [(es'[i]).1,(es'[i]).2]),B.h⟩ (((a.put (some u) (.tuple #[.bool true,e.key,e.val])).put (some ok) (.bool true)).put (some en) (.tuple #[e.key,e.val])) h:=Qfg S3 z2 (by simp only[VRel];exact⟨_,rfl,by simp only[VRels];grind⟩);obtain⟨bs,fs8,C8,hr8,hbody⟩:=round b B i (es'[i]).1 (es'[i]).2 es' hIB hnv O hesi;have hrest:∀k s,rest[k]?=some s->∃o,p.ops8[1+k]?=some o/\okOper P N p.ops8 o s=true:=by
            intro k s hs;have hlt:k<rest.length:=(Zaj.1 hs).1;have hlt8:k<le.length:=by omega
            obtain⟨s',hs',hk⟩:=y2 k le[k] (Zak hlt8);grind
           refine QjC (c0:=c) (w0:=h) ?_ rest 1 0 fs8 _ c _ h hrest hr8 S4 (.refl _ _);intro c5 a5 w5 S5 E5;show Exit.then _ _ .normal _ _;refine hbody p.body obd c5 a5 w5 S5 none (fun _=>rfl) _ ?_;intro e2 D c6 a6 w6 z S6 E6;have E06:Evo c0 R c6 w6:=(E1'.trans E5).trans E6;have J6:=(J1.evo E5).evo E6;have again:I (i::b) D->∃f g B' Z m' q,f<left/\((List.range es.length).filter fun i=>i∉g).length=f/\I g B'/\SRel N Z B' a6 w6/\Evo c0 R Z w6/\IterAt Z w6 n r V T es.length g m' q:=by
            intro hI6;refine⟨_,i::b,D,c6,m,_,?_,rfl,hI6,S6,E06,J6⟩;rw[<-hleft];have hsub:((List.range es.length).filter fun j=>j∉i::b)=(((List.range es.length).filter fun j=>j∉b).filter fun j=>j≠i):=by simp_all
            rw[hsub];have F:i∈(List.range es.length).filter fun j=>j∉b:=Zbi.2 ⟨Zat.2 hilt,by simpa using hnv⟩;exact Qgr _ F
           cases e2 with|normal=>exact again z|ret=>exact hQ .ret D c6 a6 w6 z S6 E06|exit jj=>
            simp only at z;show(if jj=b2 then _ else _);split at z;·simp_all
            rename_i e3;rw[if_neg e3];show(if jj=Y then Q' .normal _ _ else Q' (.exit jj) _ _);split at z;·rename_i e4;rw[if_pos e4];exact hQ .normal D c6 a6 w6 z S6 E06
            rename_i e4;rw[if_neg e4];exact hQ (.exit jj) D c6 a6 w6 z S6 E06
          cases z4
         cases o8
        cases q8
       cases q4
      refine Lp.round (wpIn_mono hround ?_);intro e K G hq;cases e with|normal=>obtain⟨f,g,B',Z,m',q,hlt,hl',hI',S',E',J'⟩:=hq;exact ih f hlt g B' Z K G m' q hl' hI' S' E' J'|exit j=>exact hq|goto l=>exact hq|ret=>exact hq|panic ch=>exact hq|outgrown=>exact hq
     cases o7
    exact wpIn_mono (key _ [] B2 c2 a2 w2 m #[] rfl h0 S2 E02 J2).loop fun e K G hq=>by cases e<;>exact hq
   cases g4
  cases o6
 cases M
end Go.AM
namespace Go.AM.SD
variable{c:List (Nat×Nat)}{o':List Int}{al l mk o t unc xs:List Nat}{i n r v x y:Nat}{left:Nat->Bool}{p:Nat×Nat}
abbrev Ed:=Nat×Nat×Nat
variable{R:Ed->Ed->Prop}{es:List Ed}{f:Nat->List Ed}
structure Dst(es:List Ed)(mk:List Nat)(left:Nat->Bool)(o:Nat->Int):Prop where
 neg:∀x,-1<=o x
 zero:∀x,left x=true->x∈mk->o x=0
 zero':∀x,o x=0->left x=true/\x∈mk
 succ:∀x(d:Nat),o x=(d:Int)+1->left x=true/\∃e∈es,e.1=x/\o e.2.2=(d:Int)edge:∀e∈es,left e.1=true->∀d:Nat,o e.2.2=(d:Int)->0<=o e.1/\o e.1<=(d:Int)+1
def InN(n:Nat)(es:List Ed)(mk:List Nat):Prop:=(∀e∈es,e.1<n/\e.2.2<n)/\∀x∈mk,x<n
theorem QfG{l:List Int}{j}{a}(hi:i<l.length):(l.set i a).getD j 0=if j=i then a else l.getD j 0:=by grind
def cntN(n:Nat)(o:List Int):Nat:=(List.range n).countP fun x=>decide (o.getD x 0<0)
def preds(es:List Ed)(v:Nat):List Nat:=(es.filter fun e=>e.2.2==v).map (·.1)
theorem QdX:y∈preds es v↔∃e∈es,e.1=y/\e.2.2=v:=by simp only[preds,Zap,Zbi,beq_iff_eq];simp_all
abbrev QS:=List Int×List Nat
variable{s:QS}
def bMk(left:Nat->Bool)(s:QS)(x:Nat):QS:=if left x then(s.1.set x 0,s.2++[x])else s
def bMks(n:Nat)(mk:List Nat)(left:Nat->Bool):QS:=mk.foldl (bMk left) (List.replicate n (-1),[])
def bEd(left:Nat->Bool)(v:Nat)(s:QS)(y:Nat):QS:=if left y&&decide (s.1.getD y 0<0)then(s.1.set y (s.1.getD v 0+1),s.2++[y])else s
def bRow(es:List Ed)(left:Nat->Bool)(v:Nat)(s:QS):QS:=(preds es v).foldl (bEd left v) s
def bQ(es:List Ed)(left:Nat->Bool):Nat->Nat->QS->QS|0,_,s=>s|k+1,i,s=>match s.2[i]? with|some v=>bQ es left k (i+1) (bRow es left v s)|none=>s
def pDist(n:Nat)(es:List Ed)(mk:List Nat)(left:Nat->Bool):List Int:=(bQ es left (n+1) 0 (bMks n mk left)).1
structure BI(n:Nat)(es:List Ed)(mk:List Nat)(left:Nat->Bool)(s:QS):Prop where
 len:s.1.length=n
 cnt:cntN n s.1+s.2.length=n
 neg:∀x,x<n->-1<=s.1.getD x 0
 inl:∀x,x∈s.2↔x<n/\0<=s.1.getD x 0
 zero:∀x,x<n->left x=true->x∈mk->s.1.getD x 0=0
 zero':∀x,x<n->s.1.getD x 0=0->left x=true/\x∈mk
 succ:∀x(d:Nat),x<n->s.1.getD x 0=(d:Int)+1->left x=true/\∃e∈es,e.1=x/\s.1.getD e.2.2 0=(d:Int)mono:∀(a b x y:Nat),a<=b->s.2[a]?=some x->s.2[b]?=some y->s.1.getD x 0<=s.1.getD y 0
def Done(es:List Ed)(left:Nat->Bool)(i:Nat)(s:QS):Prop:=∀(a v:Nat),a<i->s.2[a]?=some v->∀e∈es,e.2.2=v->left e.1=true->0<=s.1.getD e.1 0/\s.1.getD e.1 0<=s.1.getD v 0+1
def Near(v:Nat)(s:QS):Prop:=∀x,x∈s.2->s.1.getD x 0<=s.1.getD v 0+1
theorem Qoi{o}{a}(m:o.length=n)(g:y<n)(h:o.getD y 0<0)(p:0<=a):cntN n (o.set y a)+1=cntN n o:=by have d:∀x,(o.set y a).getD x 0=if x=y then a else o.getD x 0:=fun x=>QfG (by omega);unfold cntN;have c:(List.range n).Nodup:=Zbc;have b:y∈List.range n:=Zat.2 g;generalize List.range n=l at c b;induction l with|nil=>cases b|cons z l i=>
 rw[Zcb]at c;rw[Zca,Zca,d];by_cases f:z=y
 ·subst f;rw[if_pos rfl,if_neg (by simp;omega),if_pos (by simpa using h)];have:l.countP (fun x=>decide ((o.set z a).getD x 0<0))=l.countP (fun x=>decide (o.getD x 0<0)):=by refine List.countP_congr fun x k=>?_;grind
  rw[this]
 grind
theorem Qoj{b z}(h:(l++[y])[b]?=some z):l[b]?=some z\/(b=l.length/\z=y):=by grind
theorem BI.push(h:BI n es mk left s)(u:InN n es mk)(G:s.2[i]?=some v)(g:Near v s){e}(he:e∈es)(I:e.1=y)(C:e.2.2=v)(E:left y=true)(m:s.1.getD y 0<0):BI n es mk left (s.1.set y (s.1.getD v 0+1),s.2++[y])/\Near v (s.1.set y (s.1.getD v 0+1),s.2++[y])/\(s.1.set y (s.1.getD v 0+1)).getD v 0=s.1.getD v 0/\(∀x,x<n->0<=s.1.getD x 0->(s.1.set y (s.1.getD v 0+1)).getD x 0=s.1.getD x 0):=by
 have t:y<n:=by have:=(u.1 e he).1;omega
 have o:=(h.inl v).1 (Zac G);have c:∀x,(s.1.set y (s.1.getD v 0+1)).getD x 0=if x=y then s.1.getD v 0+1 else s.1.getD x 0:=fun x=>QfG (by grind);have hold:∀x,x<n->0<=s.1.getD x 0->(s.1.set y (s.1.getD v 0+1)).getD x 0=s.1.getD x 0:=fun x f k=>by grind
 have p:=hold v o.1 o.2;have B:y∉s.2:=fun hm=>by have:=((h.inl y).1 hm).2;omega
 refine⟨⟨by simp[h.len],?_,fun x f=>?_,fun x=>?_,fun x f A hm=>?_,fun x f k=>?_,fun x d f k=>?_,fun a b x z r f H=>?_⟩,fun x f=>?_,p,hold⟩;·have h1:=Qoi h.len t m (a:=s.1.getD v 0+1) (by omega);have q:=h.cnt;grind
 ·rw[c];split;·omega
  exact h.neg x f
 ·rw[c,ZaE,ZaS];by_cases f:x=y;·omega
  rw[if_neg f,h.inl x];simp[f]
 ·have :=h.zero x f A hm;grind
 ·rw[c]at k;split at k;·omega
  exact h.zero' x f k
 ·rw[c]at k;split at k;·grind
  obtain⟨A,K,F,q,J⟩:=h.succ x d f k;grind
 ·rcases Qoj f with h1|⟨h1,rfl⟩<;>rcases Qoj H with q|⟨q,rfl⟩;·have l:=(h.inl x).1 (Zac h1);have w:=(h.inl z).1 (Zac q);rw[hold x l.1 l.2,hold z w.1 w.2];exact h.mono a b x z r h1 q
  ·have l:=(h.inl x).1 (Zac h1);rw[hold x l.1 l.2,c,if_pos rfl];exact g x (Zac h1)
  ·grind
  omega
 rw[p];rcases ZaE.1 f with h1|h1;·have l:=(h.inl x).1 h1;rw[hold x l.1 l.2];exact g x h1
 simp_all
theorem Done.push(h:BI n es mk left s)(c:InN n es mk)(hi:i<=s.2.length)(k:Done es left i s)(hold:∀x,x<n->0<=s.1.getD x 0->o'.getD x 0=s.1.getD x 0):Done es left i (o',s.2++[y]):=by
 intro a v l m e he f g;have b:s.2[a]?=some v:=by grind
 have:=k a v l b e he f g;have d:=(h.inl v).1 (Zac b);show 0<=o'.getD e.1 0/\o'.getD e.1 0<=o'.getD v 0+1;rw[hold _ (c.1 e he).1 this.1,hold v d.1 d.2];exact this
theorem BI.row(a:InN n es mk):∀(ys:List Nat)(s:QS),(∀y∈ys,∃e∈es,e.1=y/\e.2.2=v)->BI n es mk left s->s.2[i]?=some v->Near v s->Done es left i s->BI n es mk left (ys.foldl (bEd left v) s)/\(ys.foldl (bEd left v) s).2[i]?=some v/\Near v (ys.foldl (bEd left v) s)/\Done es left i (ys.foldl (bEd left v) s)/\(∀x,x<n->0<=s.1.getD x 0->(ys.foldl (bEd left v) s).1.getD x 0=s.1.getD x 0)/\∀y∈ys,left y=true->0<=(ys.foldl (bEd left v) s).1.getD y 0:=by intro ys;induction ys with|nil=>intro s _ h b m l;exact⟨h,b,m,l,fun _ _ _=>rfl,fun y k=>by cases k⟩|cons y ys F=>
 intro s c h b m l;obtain⟨e,he,k,f⟩:=c y (by simp);have E:y<n:=by have:=(a.1 e he).1;omega
 rw[ZaR];by_cases hc:(left y&&decide (s.1.getD y 0<0))=true
 ·have p:bEd left v s y=(s.1.set y (s.1.getD v 0+1),s.2++[y]):=if_pos hc;simp only[Zab,decide_eq_true_eq]at hc;obtain⟨h1,r,L,C⟩:=h.push a b m he k f hc.1 hc.2;have A:i<s.2.length:=(Zaj.1 b).1;have o:=Done.push (y:=y) h a (by omega) l C;have g:(s.2++[y])[i]?=some v:=by grind
  rw[p];obtain⟨w,B,t,u,K,I⟩:=F _ (fun z d=>c z (by simp[d])) h1 g r o;refine⟨w,B,t,u,fun x M H=>?_,fun z d J=>?_⟩;·simp_all
  rcases Zax.1 d with rfl|d
  ·have q:(s.1.set z (s.1.getD v 0+1)).getD z 0=s.1.getD v 0+1:=by rw[QfG (by grind),if_pos rfl]
   have G:=(h.inl v).1 (Zac b);grind
  simp_all
 have p:bEd left v s y=s:=if_neg hc;simp_all
structure BH(n:Nat)(es:List Ed)(mk:List Nat)(left:Nat->Bool)(i:Nat)(s:QS):Prop where
 bi:BI n es mk left s
 done:Done es left i s
 near:∀v,s.2[i]?=some v->Near v s
 le:i<=s.2.length
theorem BH.step(b:InN n es mk)(h:BH n es mk left i s)(m:s.2[i]?=some v):BH n es mk left (i+1) (bRow es left v s):=by
 obtain⟨g,f,o,t,C,r⟩:=BI.row b (preds es v) s (fun y w=>QdX.1 w) h.bi m (h.near v m) h.done;have z:i<(bRow es left v s).2.length:=(Zaj.1 f).1;refine⟨g,fun a u B c e he d q=>?_,fun u c x A=>?_,by omega⟩
 ·by_cases k:a<i;·exact t a u k c e he d q
  have :a=i:=by omega
  subst this;have l:u=v:=Option.some.inj (c.symm.trans f);subst l;have p:=r e.1 (QdX.2 ⟨e,he,rfl,d⟩) q;exact⟨p,o e.1 ((g.inl _).2 ⟨(b.1 e he).1,p⟩)⟩
 have h1:=o x A;have d:=g.mono i (i+1) v u (by omega) f c;grind[bRow]
theorem BH.dst(c:InN n es mk)(h:BH n es mk left i s)(hi:s.2[i]?=none):Dst es mk left (fun x=>if x<n then s.1.getD x 0 else-1):=by
 have p:s.2.length<=i:=List.getElem?_eq_none_iff.1 hi;refine⟨fun x=>?_,fun x g hm=>?_,fun x f=>?_,fun x d f=>?_,fun e he g d f=>?_⟩
 ·split;·rename_i b;exact h.bi.neg x b
  omega
 ·have b:=c.2 x hm;rw[if_pos b];exact h.bi.zero x b g hm
 ·split at f;·rename_i b;exact h.bi.zero' x b f
  omega
 ·split at f;·rename_i b;obtain⟨g,e,he,m,o⟩:=h.bi.succ x d b f;exact⟨g,e,he,m,by rw[if_pos (c.1 e he).2];exact o⟩
  omega
 obtain⟨hf,l⟩:=c.1 e he;rw[if_pos l]at f;rw[if_pos hf];have hm:e.2.2∈s.2:=(h.bi.inl _).2 ⟨l,by omega⟩;obtain⟨a,k⟩:=List.getElem?_of_mem hm;have q:a<s.2.length:=(Zaj.1 k).1;have:=h.done a e.2.2 (by omega) k e he rfl g;omega
theorem Qqu(a:InN n es mk):∀(k i:Nat)(s:QS),BH n es mk left i s->n<k+i->(bQ es left k i s).1.length=n/\Dst es mk left (fun x=>if x<n then(bQ es left k i s).1.getD x 0 else-1):=by intro k;induction k with|zero=>intro i s h c;have:=h.bi.cnt;have:=h.le;omega|succ k d=>intro i s h c;unfold bQ;cases b:s.2[i]? with|some v=>exact d (i+1) _ (h.step a b) (by omega)|none=>exact⟨h.bi.len,h.dst a b⟩
theorem QtG(n):cntN n (List.replicate n (-1))=n:=by grind[cntN,List.countP_eq_length]
theorem QjD(l:InN n es mk)(f:mk.Nodup):BH n es mk left 0 (bMks n mk left):=by
 have key:∀(ms pre:List Nat)(s:QS),(pre++ms).Nodup->(∀x∈pre++ms,x<n)->s.1.length=n->cntN n s.1+s.2.length=n->(∀x,x<n->s.1.getD x 0=if left x&&pre.contains x then 0 else-1)->(∀x,x∈s.2↔left x=true/\x∈pre)->(ms.foldl (bMk left) s).1.length=n/\cntN n (ms.foldl (bMk left) s).1+(ms.foldl (bMk left) s).2.length=n/\(∀x,x<n->(ms.foldl (bMk left) s).1.getD x 0=if left x&&(pre++ms).contains x then 0 else-1)/\(∀x,x∈(ms.foldl (bMk left) s).2↔left x=true/\x∈pre++ms):=by intro ms;induction ms with|nil=>intro pre s _ _ h1 o k i;rw[Zas];exact⟨h1,o,k,i⟩|cons m ms u=>
  intro pre s f g h1 o k i;have r:m<n:=g m (by simp);have B:m∉pre:=fun hm=>by grind
  have e:pre++m::ms=(pre++[m])++ms:=by simp
  rw[e]at f g⊢;rw[ZaR];have A:s.1.getD m 0=-1:=by grind
  by_cases q:left m=true
  ·have p:bMk left s m=(s.1.set m 0,s.2++[m]):=if_pos q;rw[p];refine u (pre++[m]) _ f g (by simp[h1]) ?_ (fun x c=>?_) fun x=>?_;·have :=Qoi h1 r (by omega) (a:=0) (by omega);grind
   ·show(s.1.set m 0).getD x 0=_;rw[QfG (by omega)];by_cases h:x=m;·grind
    rw[if_neg h,k x c];simp[h]
   show x∈s.2++[m]↔_;rw[ZaE,ZaE,i,ZaS];constructor
   ·rintro(F|rfl);·grind
    grind
   grind
  have p:bMk left s m=s:=if_neg q;rw[p];refine u (pre++[m]) _ f g h1 o (fun x c=>?_) fun x=>?_
  ·rw[k x c];by_cases h:x=m;·grind
   simp[h]
  rw[ZaE,i,ZaS];constructor;·grind
  grind
 obtain⟨h1,o,k,i⟩:=key mk [] (List.replicate n (-1),[]) (by simpa using f) (by simpa using l.2) (by simp) (by rw[QtG];rfl) (fun x c=>by simp_all) (fun x=>by simp);rw[ZaW]at k i;have G:∀x,x<n->(bMks n mk left).1.getD x 0=0\/(bMks n mk left).1.getD x 0=-1:=fun x c=>by grind[bMks]
 have t:∀x,x∈(bMks n mk left).2->(bMks n mk left).1.getD x 0=0:=fun x c=>by grind[bMks]
 refine⟨⟨h1,o,fun x c=>?_,fun x=>?_,fun x c q hm=>?_,fun x c w=>?_,fun x d c w=>?_,fun a b x y _ z E=>?_⟩,fun a v z=>by omega,fun v C x c=>?_,Zai _⟩;·grind
 ·constructor;·intro c;exact⟨l.2 x ((i x).1 c).2,by simp_all⟩
  grind[bMks]
 ·simp_all[bMks]
 ·simp_all[bMks]
 ·grind
 ·grind
 grind
def bad(left:Nat->Bool)(unc:List Nat)(e:Ed):Bool:=left e.1&&!left e.2.2&&unc.contains e.2.1
def pLs(left:Nat->Bool)(unc:List Nat)(out:List (Nat×Nat))(e:Ed):List (Nat×Nat):=if bad left unc e then(if(match out.getLast? with|some p=>p.1==e.1|none=>false)then out else out++[(e.1,e.2.1)])else out
def pLost(es:List Ed)(left:Nat->Bool)(unc:List Nat):List (Nat×Nat):=es.foldl (pLs left unc) []
def rL1(es:List Ed)(left:Nat->Bool)(unc:List Nat)(st:Nat):Option (Nat×Nat):=if left st then(es.find? fun e=>e.1==st&&!left e.2.2&&unc.contains e.2.1).map fun e=>(st,e.2.1)else none
def rLost(n:Nat)(es:List Ed)(left:Nat->Bool)(unc:List Nat):List (Nat×Nat):=(List.range n).filterMap (rL1 es left unc)
theorem Qqv{l:List (Nat×Nat)}(h:l.Pairwise fun a b=>a.1<b.1)(h':c.Pairwise fun a b=>a.1<b.1)(hm:∀p,p∈l↔p∈c):l=c:=by induction l generalizing c with
 |nil=>cases c with|nil=>rfl|cons p c=>exact absurd ((hm p).2 (by simp)) (by simp)
 |cons p l d=>cases c with|nil=>exact absurd ((hm p).1 (by simp)) (by simp)|cons q c=>
  rw[ZaB]at h h';have e:p=q:=by grind
  subst e;rw[d h.2 h'.2 fun r=>?_];constructor;·grind
  grind
theorem Qgs(n)(es)(left)(unc):(rLost n es left unc).Pairwise fun a b=>a.1<b.1:=by
 unfold rLost;refine List.Pairwise.filterMap _ (R:=(·<·)) ?_ Zbz;intro a b c p hp q d;have h1:∀(st:Nat)(p:Nat×Nat),rL1 es left unc st=some p->p.1=st:=by simp_all[rL1]
 grind
theorem Qkq:p∈rLost n es left unc↔p.1<n/\rL1 es left unc p.1=some p:=by
 unfold rLost;rw[ZbP];have h1:∀(st:Nat)(p:Nat×Nat),rL1 es left unc st=some p->p.1=st:=by simp_all[rL1]
 grind
theorem QjE{pre:List Ed}{e:Ed}(st:Nat):rL1 (pre++[e]) left unc st=match rL1 pre left unc st with|some p=>some p|none=>if e.1==st&&bad left unc e then some (st,e.2.1)else none:=by grind[rL1,bad]
theorem Qqw:∀(es2 pre:List Ed)(out:List (Nat×Nat)),(pre++es2).Pairwise (fun a b=>a.1<=b.1)->out.Pairwise (fun a b=>a.1<b.1)->(∀p,p∈out↔rL1 pre left unc p.1=some p)->(∀p∈out,∃e∈pre,e.1=p.1)->(es2.foldl (pLs left unc) out).Pairwise (fun a b=>a.1<b.1)/\∀p,p∈es2.foldl (pLs left unc) out↔rL1 (pre++es2) left unc p.1=some p:=by intro es2;induction es2 with|nil=>intro pre out _ h1 h2 _;rw[Zas];exact⟨h1,h2⟩|cons e es2 ih=>
 intro pre out hs h1 h2 h3;have ea:pre++e::es2=(pre++[e])++es2:=by simp
 rw[ea]at hs⊢;rw[ZaR];have hge:∀p∈out,p.1<=e.1:=fun p hp=>by obtain⟨x,hx,hxe⟩:=h3 p hp;rw[Zbb]at hs;have:=(Zbb.1 hs.1).2.2 x hx e (by simp);omega
 by_cases hb:bad left unc e=true
 ·by_cases hlast:(match out.getLast? with|some p=>p.1==e.1|none=>false)=true
  ·have e1:pLs left unc out e=out:=by grind[pLs]
   rw[e1];refine ih (pre++[e]) out hs h1 (fun p=>?_) fun p hp=>?_;·rw[QjE];cases hr:rL1 pre left unc p.1 with|some q=>rw[h2 p,hr]|none=>
    have hnp:¬p∈out:=fun hp=>by grind
    have hne:(e.1==p.1)=false:=by grind
    simp only[hne,Zb7,Zar,if_false];exact⟨fun hp=>absurd hp hnp,fun h=>by cases h⟩
   obtain⟨x,hx,hxe⟩:=h3 p hp;grind
  have e1:pLs left unc out e=out++[(e.1,e.2.1)]:=by grind[pLs]
  have hlt:∀p∈out,p.1<e.1:=by intro p hp;cases hg:out.getLast? with|none=>rw[List.getLast?_eq_none_iff]at hg;subst hg;cases hp|some q=>
   rw[hg]at hlast;have hqe:q.1≠e.1:=by grind
   have hq:q∈out:=List.mem_of_getLast? hg;have hqle:=hge q hq;obtain⟨init,hi⟩:∃init,out=init++[q]:=by grind[List.getLast?_eq_some_iff]
   rw[hi]at hp h1;rcases ZaE.1 hp with hp|hp;·grind
   grind
  rw[e1];refine ih (pre++[e]) _ hs (Zbb.2 ⟨h1,by simp,fun p hp q hq=>by grind⟩) (fun p=>?_) fun p hp=>?_
  ·rw[QjE,ZaE,ZaS]
   cases hr:rL1 pre left unc p.1 with|some q=>
    have hq1:p.1=q.1:=by
     unfold rL1 at hr;split at hr;·cases hf:pre.find? fun e=>e.1==p.1&&!left e.2.2&&unc.contains e.2.1 with|none=>rw[hf]at hr;cases hr|some e=>rw[hf]at hr;cases hr;rfl
     cases hr
    have hqm:q∈out:=(h2 q).2 (by grind);have hne:p≠(e.1,e.2.1):=by grind
    simp only[hne,or_false];rw[h2 p,hr]|none=>
    have hnp:¬p∈out:=fun hp=>by grind
    simp only[hnp,false_or];by_cases hep:e.1=p.1;·grind
    grind
  rcases ZaE.1 hp with hp|hp;·obtain⟨x,hx,hxe⟩:=h3 p hp;grind
  grind
 have e1:pLs left unc out e=out:=by grind[pLs]
 rw[e1];refine ih (pre++[e]) out hs h1 (fun p=>?_) fun p hp=>?_;·rw[QjE];grind
 obtain⟨x,hx,hxe⟩:=h3 p hp;grind
theorem QsA(i:es.Pairwise fun a b=>a.1<=b.1)(d:∀e∈es,e.1<n):pLost es left unc=rLost n es left unc:=by
 obtain⟨h1,c⟩:=Qqw (left:=left) (unc:=unc) es [] [] (by simpa using i) List.Pairwise.nil (fun p=>by simp[rL1]) (fun p hp=>by cases hp);rw[ZaW]at c;refine Qqv h1 (Qgs n es left unc) fun p=>?_;rw[Qkq];refine(c p).trans ⟨fun h=>⟨?_,h⟩,fun h=>h.2⟩;unfold rL1 at h;split at h;·cases hf:es.find? fun e=>e.1==p.1&&!left e.2.2&&unc.contains e.2.1 with|none=>rw[hf]at h;cases h|some e=>have g:=ZbD hf;have f:=List.find?_some hf;simp only[Zab,beq_iff_eq]at f;have:=d e g;omega
 cases h
structure Rm where
 st:Nat
 rank:Int
 reason:Nat
 ev:Int deriving DecidableEq
def lostF(rank:Int)(l:List (Nat×Nat)):List Rm:=l.map fun p=>⟨p.1,rank,2,(p.2:Int)⟩
def blkF(left:Nat->Bool)(rank:Int)(d:List Int):List Rm:=(List.range d.length).filterMap fun i=>if left i&&decide (d.getD i 0<0)then some ⟨i,rank,3,-1⟩else none
def pNext(n:Nat)(es:List Ed)(mk:List Nat)(left:Nat->Bool)(unc:List Nat)(rank:Int)(all:Bool):List Rm:=if decide (0<(pLost es left unc).length)||!all then lostF rank (pLost es left unc)else blkF left rank (pDist n es mk left)
abbrev LB:=List Bool
def lf(l:LB):Nat->Bool:=fun i=>l.getD i false
def offs(l:LB)(xs:List Nat):LB:=xs.foldl (fun l x=>l.set x false) l
def pRounds(n:Nat)(es:List Ed)(mk:List Nat)(unc:List Nat)(all:Bool):Nat->Nat->LB->List Rm->Nat->LB×List Rm×Nat|0,_,l,rs,k=>(l,rs,k)|f+1,a,l,rs,k=>if(pNext n es mk (lf l) unc a all).length=0 then(l,rs,k)else pRounds n es mk unc all f (a+1) (offs l ((pNext n es mk (lf l) unc a all).map (·.st))) (rs++pNext n es mk (lf l) unc a all) a
def putR(rs:List Rm)(l:List Rm):List Rm:=l.foldl (fun rs x=>rs.set x.st x) rs
def rm0(i:Nat):Rm:=⟨i,1,1,-1⟩
theorem Qh4(xs):∀l:LB,(offs l xs).length=l.length:=by induction xs with|nil=>intro l;rfl|cons x xs a=>intro l;show(offs (l.set x false) xs).length=_;rw[a];simp
theorem Qg2(xs):∀(l:LB)(i:Nat),lf (offs l xs) i=(lf l i&&!xs.contains i):=by induction xs with|nil=>intro l i;simp[offs,lf]|cons x xs a=>
 intro l i;show lf (offs (l.set x false) xs) i=_;rw[a];have:lf (l.set x false) i=(lf l i&&!(i==x)):=by grind[lf]
 rw[this,List.contains_cons];cases lf l i<;>cases(i==x)<;>cases xs.contains i<;>rfl
theorem QsB{rank:Int}{all:Bool}(c:InN n es mk)(d:mk.Nodup)(h:es.Pairwise fun a b=>a.1<=b.1):(pNext n es mk left unc rank all).Pairwise (fun a b=>a.st<b.st)/\∀r∈pNext n es mk left unc rank all,r.st<n/\left r.st=true:=by
 have f:(pDist n es mk left).length=n:=(Qqu c (n+1) 0 _ (QjD (left:=left) c d) (by omega)).1;unfold pNext;split
 ·unfold lostF;rw[QsA h fun e he=>(c.1 e he).1];constructor;·simp_all[Zbl,Qgs]
  intro r g;obtain⟨p,hp,rfl⟩:=Zap.1 g;simp_all[Qkq,rL1]
 unfold blkF;rw[f];constructor;·grind[Zbz]
 grind
def cntL(n:Nat)(l:LB):Nat:=(List.range n).countP fun i=>lf l i
theorem QtH{l c}(h:∀i,i<n->lf c i=true->lf l i=true)(g:x<n)(h1:lf l x=true)(o:lf c x=false):cntL n c<cntL n l:=by unfold cntL;have a:x∈List.range n:=Zat.2 g;have b:∀y∈List.range n,lf c y=true->lf l y=true:=fun y f=>h y (Zat.1 f);generalize List.range n=L at a b;induction L with|nil=>cases a|cons y L m=>
 have hle:L.countP (fun x=>lf c x)<=L.countP (fun x=>lf l x):=List.countP_mono_left fun z k d=>b z (by simp[k]) d;rw[Zca,Zca];rcases Zax.1 a with e|hm;·grind
 grind
theorem QiF(h:r∈xs):xs.contains r=true:=by simpa using h
structure Agr(n:Nat)(l:LB)(rs rr:List Rm):Prop where
 len:rr.length=n
 st:∀(i:Nat)(r:Rm),rr[i]?=some r->r.st=i
 nd:(rs.map (·.st)).Nodup
 mem:∀r:Rm,r∈rs↔r.st<n/\lf l r.st=false/\rr[r.st]?=some r
theorem QsC(l):∀rs,(putR rs l).length=rs.length:=by induction l with|nil=>intro rs;rfl|cons x l a=>intro rs;show(putR (rs.set x.st x) l).length=_;rw[a];simp
theorem QsD:∀(l:List Rm)(rs:List Rm)(i:Nat),(∀r∈l,r.st<rs.length)->l.Pairwise (fun a b=>a.st<b.st)->(putR rs l)[i]?=match l.find? (fun r=>r.st==i)with|some r=>some r|none=>rs[i]?:=by intro l;induction l with|nil=>intro rs i _ _;rfl|cons x l f=>
 intro rs i c hp;rw[ZaB]at hp;show(putR (rs.set x.st x) l)[i]?=_;rw[f _ i (fun r g=>by simp_all) hp.2];have d:=c x (by simp);by_cases e:x.st=i;·grind
 simp_all
theorem Agr.step{l:LB}{rs rr d:List Rm}(h:Agr n l rs rr)(z:l.length=n)(hp:d.Pairwise fun a b=>a.st<b.st)(hm:∀r∈d,r.st<n/\lf l r.st=true):Agr n (offs l (d.map (·.st))) (rs++d) (putR rr d):=by
 have m:=fun i=>QsD d rr i (fun r c=>by rw[h.len];simp_all) hp;have g:∀r∈d,d.find? (fun q=>q.st==r.st)=some r:=by intro r c;cases hf:d.find? (fun q=>q.st==r.st)with|none=>rw[Zb1]at hf;exact absurd (hf r c) (by simp)|some q=>
  have o:=ZbD hf;have x:q.st=r.st:=by grind
  have:q=r:=by clear hf m;induction d with|nil=>cases c|cons y d A=>
   rw[ZaB]at hp;rcases Zax.1 c with e|p<;>rcases Zax.1 o with v|u;·rw[e,v]
   ·grind
   ·grind
   simp_all
  rw[this]
 refine⟨by rw[QsC,h.len],fun i r c=>?_,?_,fun r=>?_⟩;·rw[m]at c;cases hf:d.find? (fun q=>q.st==i)with|some q=>rw[hf]at c;cases c;simpa using List.find?_some hf|none=>rw[hf]at c;exact h.st i r c
 ·rw[ZaI,List.nodup_append];refine⟨h.nd,?_,fun a w b s e=>?_⟩;·rw[ZaO,Zbl];exact hp.imp fun h=>by omega
  subst e;obtain⟨r,c,rfl⟩:=Zap.1 w;obtain⟨q,o,t⟩:=Zap.1 s;have h1:=((h.mem r).1 c).2.1;grind
 rw[ZaE,Qg2,m];constructor
 ·rintro(c|c);·obtain⟨h1,k,f⟩:=(h.mem r).1 c;grind
  grind
 rintro⟨h1,k,f⟩;cases hf:d.find? (fun q=>q.st==r.st)with|some q=>rw[hf]at f;cases f;exact .inr (ZbD hf)|none=>
  rw[hf]at f;refine .inl ((h.mem r).2 ⟨h1,?_,f⟩);have:(d.map (·.st)).contains r.st=false:=by simp_all
  rw[this]at k;simpa using k
def left0(n:Nat)(forb:List Nat):LB:=offs (List.replicate n true) forb
theorem Ql8{forb}:lf (left0 n forb) x=true↔x<n/\x∉forb:=by grind[left0,Qg2,lf]
def fin(n:Nat)(es:List Ed)(mk:List Nat)(forb unc:List Nat)(all:Bool):LB×List Rm×Nat:=pRounds n es mk unc all (n+1) 2 (left0 n forb) (forb.map rm0) (if forb.length=0 then 0 else 1)
structure Aut where
 al:List Nat
 n:Nat
 ms:List Nat
 es:List Ed
variable{a:Aut}
structure WfA(a:Aut):Prop where
 al:a.al.Pairwise (·<·)al5:∀x∈a.al,x<32
 n5:a.n<=4096
 ms:a.ms.Pairwise (·<·)msn:∀x∈a.ms,x<a.n
 es:a.es.Pairwise fun x y=>x.1<y.1\/(x.1=y.1/\x.2.1<y.2.1)esn:∀e∈a.es,e.1<a.n/\e.2.2<a.n
 ev:∀e∈a.es,e.2.1∈a.al
theorem WfA.inN(h:WfA a):InN a.n a.es a.ms:=⟨h.esn,h.msn⟩
theorem WfA.nd(h:WfA a):a.ms.Nodup:=by rw[ZaO];exact h.ms.imp fun h=>by omega
theorem WfA.srt(h:WfA a):a.es.Pairwise fun x y=>x.1<=y.1:=h.es.imp fun h=>by omega
def stepA(es:List Ed)(s ev:Nat):Option Nat:=(es.find? fun e=>e.1==s&&e.2.1==ev).map (·.2.2)
def fEv(es:List Ed)(s:Nat)(out:List Nat)(ev:Nat):List Nat:=match stepA es s ev with|some to=>if out.contains to then out else out++[to]|none=>out
def fRow(al:List Nat)(es:List Ed)(s:Nat)(out:List Nat):List Nat:=al.foldl (fEv es s) out
def fQ(al:List Nat)(es:List Ed):Nat->Nat->List Nat->List Nat|0,_,out=>out|k+1,i,out=>match out[i]? with|some s=>fQ al es k (i+1) (fRow al es s out)|none=>out
def found(a:Aut):List Nat:=fQ a.al a.es (a.n+1) 0 (if 0<a.n then[0]else[])
def idx(l:List Nat)(x:Nat):Nat:=l.findIdx (·==x)
def cRow(a:Aut)(f:List Nat)(i s:Nat):List Ed:=a.al.filterMap fun ev=>(stepA a.es s ev).map fun to=>(i,ev,idx f to)
def cRows(a:Aut)(f:List Nat):List Ed:=(List.range f.length).flatMap fun i=>cRow a f i (f.getD i 0)
def canon(a:Aut):Aut:=⟨a.al,(found a).length,(List.range (found a).length).filter fun i=>a.ms.contains ((found a).getD i 0),cRows a (found a)⟩
theorem QfH(a:∀e∈es,e.1<n/\e.2.2<n){s ev to}(h:stepA es s ev=some to):to<n:=by unfold stepA at h;cases hf:es.find? fun e=>e.1==s&&e.2.1==ev with|none=>rw[hf]at h;cases h|some e=>rw[hf]at h;cases h;exact(a e (ZbD hf)).2
structure FI(n:Nat)(out:List Nat):Prop where
 nd:out.Nodup
 lt:∀x∈out,x<n
theorem Qa4:∀(n:Nat)(l:List Nat),l.Nodup->(∀x∈l,x<n)->l.length<=n
 |0,l,_,h=>by cases l with|nil=>exact Zau _|cons x l=>have:=h x (by simp);omega
 |n+1,l,a,h=>by
  by_cases hm:n∈l
  ·have h1:=Qa4 n (l.erase n) (a.erase n) fun x b=>by grind
   simp_all
  have :=Qa4 n l a fun x b=>by grind
  omega
theorem FI.len{out}(h:FI n out):out.length<=n:=Qa4 n out h.nd h.lt
theorem FI.row(g:∀e∈es,e.1<n/\e.2.2<n)(s):∀(al:List Nat)(out:List Nat),FI n out->FI n (al.foldl (fEv es s) out)/\(∃t,al.foldl (fEv es s) out=out++t)/\∀ev∈al,∀to,stepA es s ev=some to->to∈al.foldl (fEv es s) out:=by intro al;induction al with|nil=>intro out h;exact⟨h,⟨[],by simp⟩,fun ev f=>by cases f⟩|cons ev al k=>
 intro out h;rw[ZaR];have h1:FI n (fEv es s out ev)/\(∃t,fEv es s out ev=out++t)/\∀to,stepA es s ev=some to->to∈fEv es s out ev:=by unfold fEv;cases o:stepA es s ev with|none=>exact⟨h,⟨[],by simp⟩,fun to d=>by cases d⟩|some to=>
  dsimp only;split;·simp_all
  rename_i hc;refine⟨⟨?_,fun x c=>?_⟩,⟨[to],rfl⟩,fun t d=>by cases d;simp⟩;·rw[List.nodup_append];refine⟨h.nd,by simp,fun a u b w e=>?_⟩;simp_all
  rcases ZaE.1 c with c|c;·exact h.lt x c
  simp at c;subst c;exact QfH g o
 obtain⟨m,⟨t,v⟩,q⟩:=h1;obtain⟨l,⟨i,p⟩,r⟩:=k _ m;refine⟨l,⟨t++i,by simp_all⟩,fun e he to d=>?_⟩;rcases Zax.1 he with rfl|he;·grind
 grind
theorem fQ_ok(w:∀e∈es,e.1<n/\e.2.2<n):∀(k i:Nat)(out:List Nat),FI n out->i<=out.length->n<k+i->(∀j s,j<i->out[j]?=some s->∀ev∈al,∀to,stepA es s ev=some to->to∈out)->FI n (fQ al es k i out)/\(∃t,fQ al es k i out=out++t)/\∀s∈fQ al es k i out,∀ev∈al,∀to,stepA es s ev=some to->to∈fQ al es k i out:=by intro k;induction k with|zero=>intro i out h hi l _;have:=h.len;omega|succ k o=>intro i out h hi l v;unfold fQ;cases f:out[i]? with|none=>have c:out.length<=i:=List.getElem?_eq_none_iff.1 f;refine⟨h,⟨[],by simp⟩,fun s hm ev a to g=>?_⟩;have hm:s∈out:=hm;obtain⟨j,b⟩:=List.getElem?_of_mem hm;have p:j<out.length:=(Zaj.1 b).1;exact v j s (by omega) b ev a to g|some s=>
 dsimp only;obtain⟨x,⟨t,d⟩,A⟩:=FI.row w s al out h;have c:i<out.length:=(Zaj.1 f).1;have d:fRow al es s out=out++t:=d;obtain⟨q,⟨u,y⟩,r⟩:=o (i+1) (fRow al es s out) x (by grind) (by omega) fun j z b m ev a to g=>by grind
 exact⟨q,⟨t++u,by simp_all⟩,r⟩
theorem QfI(c:∀e∈a.es,e.1<a.n/\e.2.2<a.n):FI a.n (found a)/\(∃t,found a=(if 0<a.n then[0]else[])++t)/\∀s∈found a,∀ev∈a.al,∀to,stepA a.es s ev=some to->to∈found a:=by
 refine fQ_ok c (a.n+1) 0 _ ?_ (Zai _) (by omega) fun j s f=>by omega
 split;·rename_i d;exact⟨by simp,fun x b=>by simp_all⟩
 exact⟨by simp,fun x b=>by cases b⟩
theorem QiG(h:x∈l):idx l x<l.length:=Zbo ⟨x,h,by simp⟩
theorem QtI(h:x∈l):l[idx l x]?=some x:=by have h1:=QiG h;rw[Zak h1];have:=List.findIdx_getElem (p:=(·==x)) (w:=h1);exact congrArg some (by simp_all:l[List.findIdx (·==x) l]'h1=x)
theorem QcV(h1:∀i∈l,(f i).Pairwise R)(a:l.Pairwise fun i j=>∀x∈f i,∀y∈f j,R x y):(l.flatMap f).Pairwise R:=by grind
theorem QsE(g:a.al.Pairwise (·<·))(r:∀x∈a.al,x<32)(l:a.n<=4096)(t:∀e∈a.es,e.1<a.n/\e.2.2<a.n):WfA (canon a):=by
 obtain⟨h1,_,v⟩:=QfI t;have b:∀i s,∀e∈cRow a (found a) i s,e.1=i/\e.2.1∈a.al/\(s∈found a->e.2.2<(found a).length):=by intro i s e he;obtain⟨ev,d,hm⟩:=ZbP.1 he;cases c:stepA a.es s ev with|none=>rw[c]at hm;cases hm|some to=>rw[c]at hm;cases hm;exact⟨rfl,d,fun n=>QiG (v s n ev d to c)⟩
 have f:∀i,i<(found a).length->(found a).getD i 0∈found a:=fun i hi=>by simp_all
 refine⟨g,r,ZaA h1.len l,?_,fun x o=>?_,?_,fun e he=>?_,fun e he=>?_⟩;·exact List.pairwise_lt_range.filter _
 ·have :=(Zbi.1 o).1;exact Zat.1 this
 ·refine QcV (fun i hi=>?_) (List.pairwise_lt_range.imp fun u x o y A=>.inl ?_);·refine List.Pairwise.filterMap _ (R:=(·<·)) ?_ g;intro x y m p hp q k;cases c:stepA a.es ((found a).getD i 0) x with|none=>rw[c]at hp;cases hp|some to=>cases h:stepA a.es ((found a).getD i 0) y with|none=>rw[h]at k;cases k|some to2=>rw[c]at hp;rw[h]at k;cases hp;cases k;exact .inr ⟨rfl,m⟩
  grind
 ·obtain⟨i,hi,he⟩:=Zbt.1 he;have hi:=Zat.1 hi;obtain⟨w,_,z⟩:=b _ _ e he;exact⟨by rw[w];exact hi,z (f i hi)⟩
 obtain⟨i,hi,he⟩:=Zbt.1 he;exact(b _ _ e he).2.1
abbrev OE:=List Nat×List Ed
def sEd(i:Nat)(s:OE)(e:Ed):OE:=if s.1.contains e.2.2 then(s.1,s.2++[(i,e.2.1,idx s.1 e.2.2)])else(s.1++[e.2.2],s.2++[(i,e.2.1,s.1.length)])
def sOut(es:List Ed)(left:Nat->Bool)(v:Nat):List Ed:=es.filter fun e=>e.1==v&&left e.2.2
def sRow(es:List Ed)(left:Nat->Bool)(i v:Nat)(s:OE):OE:=(sOut es left v).foldl (sEd i) s
def sQ(es:List Ed)(left:Nat->Bool):Nat->Nat->OE->OE|0,_,s=>s|k+1,i,s=>match s.1[i]? with|some v=>sQ es left k (i+1) (sRow es left i v s)|none=>s
def sAll(a:Aut)(left:Nat->Bool):OE:=sQ a.es left (a.n+1) 0 (if decide (0<a.n)&&left 0 then[0]else[],[])
def restr(a:Aut)(left:Nat->Bool):Aut:=⟨a.al,(sAll a left).1.length,(List.range (sAll a left).1.length).filter fun i=>a.ms.contains ((sAll a left).1.getD i 0),(sAll a left).2⟩
theorem QdB(h:x∈l):idx (l++t) x=idx l x:=by simp_all[idx,List.findIdx_append]
theorem Qej(h:x∉l):idx (l++[x]) x=l.length:=by grind[idx]
theorem QuU(a:l.Nodup)(h:l[i]?=some x):idx l x=i:=by grind[QtI,List.getElem?_inj]
def num(o:List Nat)(i:Nat)(e:Ed):Ed:=(i,e.2.1,idx o e.2.2)
theorem QdC(i):∀(c:List Ed)(s:OE),(∀e∈c,e.2.2<n/\left e.2.2=true)->FI n s.1->(∀x∈s.1,left x=true)->FI n (c.foldl (sEd i) s).1/\(∀x∈(c.foldl (sEd i) s).1,left x=true)/\(∃t,(c.foldl (sEd i) s).1=s.1++t)/\(∀e∈c,e.2.2∈(c.foldl (sEd i) s).1)/\(c.foldl (sEd i) s).2=s.2++c.map (num (c.foldl (sEd i) s).1 i):=by intro c;induction c with|nil=>intro s _ h l;exact⟨h,l,⟨[],by simp⟩,(fun e he=>by cases he),by simp⟩|cons e c p=>
 intro s f h l;rw[ZaR];obtain⟨u,v⟩:=f e (by simp);by_cases hc:s.1.contains e.2.2=true
 ·have o:sEd i s e=(s.1,s.2++[(i,e.2.1,idx s.1 e.2.2)]):=if_pos hc;have hm:e.2.2∈s.1:=by simpa using hc
  rw[o];obtain⟨m,k,⟨t,g⟩,q,r⟩:=p (s.1,s.2++[(i,e.2.1,idx s.1 e.2.2)]) (fun x d=>f x (by simp[d])) h l;refine⟨m,k,⟨t,g⟩,fun x d=>?_,?_⟩;·grind
  grind[num,QdB]
 have o:sEd i s e=(s.1++[e.2.2],s.2++[(i,e.2.1,s.1.length)]):=if_neg hc;have hm:e.2.2∉s.1:=by simpa using hc
 rw[o];obtain⟨m,k,⟨t,g⟩,q,r⟩:=p (s.1++[e.2.2],s.2++[(i,e.2.1,s.1.length)]) (fun x d=>f x (by simp[d])) ⟨by rw[List.nodup_append];refine⟨h.nd,by simp,fun a w b y e=>?_⟩;simp_all,fun x d=>by
  rcases ZaE.1 d with d|d;·exact h.lt x d
  simp_all⟩ (fun x d=>by grind);have g:(c.foldl (sEd i) (s.1++[e.2.2],s.2++[(i,e.2.1,s.1.length)])).1=(s.1++[e.2.2])++t:=g;refine⟨m,k,⟨[e.2.2]++t,by simp_all⟩,fun x d=>?_,?_⟩;·grind
 grind[num,QdB,Qej]
structure SI(n:Nat)(es:List Ed)(left:Nat->Bool)(i:Nat)(s:OE):Prop where
 fi:FI n s.1
 lft:∀x∈s.1,left x=true
 le:i<=s.1.length
 cl:∀j v,j<i->s.1[j]?=some v->∀e∈sOut es left v,e.2.2∈s.1
 ed:s.2=(List.range i).flatMap fun j=>(sOut es left (s.1.getD j 0)).map (num s.1 j)
theorem Qbd{e}:e∈sOut es left v↔e∈es/\e.1=v/\left e.2.2=true:=by simp_all[sOut]
theorem SI.step(l:∀e∈es,e.1<n/\e.2.2<n){s}(h:SI n es left i s)(p:s.1[i]?=some v):SI n es left (i+1) (sRow es left i v s):=by
 obtain⟨q,o,⟨t,a⟩,r,f⟩:=QdC i (sOut es left v) s (fun e he=>⟨(l e (Qbd.1 he).1).2,(Qbd.1 he).2.2⟩) h.fi h.lft;have m:i<s.1.length:=(Zaj.1 p).1;have a:(sRow es left i v s).1=s.1++t:=a;have c:∀j,j<s.1.length->(sRow es left i v s).1.getD j 0=s.1.getD j 0:=fun j b=>by grind
 refine⟨q,o,by grind,fun j u b k e he=>?_,?_⟩
 ·rw[a,Za6 (by omega)]at k;by_cases g:j<i;·rw[a];exact List.mem_append_left _ (h.cl j u g k e he)
  grind
 show(sRow es left i v s).2=_;have f:(sRow es left i v s).2=s.2++(sOut es left v).map (num (sRow es left i v s).1 i):=f;rw[f,h.ed,ZaK,Zao];congr 1
 ·have :∀j∈List.range i,(sOut es left (s.1.getD j 0)).map (num s.1 j)=(sOut es left ((sRow es left i v s).1.getD j 0)).map (num (sRow es left i v s).1 j):=fun j b=>by
   have b:=Zat.1 b;rw[c j (by omega)];have d:s.1[j]?=some (s.1.getD j 0):=by grind
   refine Zba fun e he=>?_;unfold num;rw[a,QdB (h.cl j _ b d e he)]
  grind[Zba]
 simp_all
theorem sQ_ok(c:∀e∈es,e.1<n/\e.2.2<n):∀(k i:Nat)(s:OE),SI n es left i s->n<k+i->SI n es left (sQ es left k i s).1.length (sQ es left k i s)/\∃t,(sQ es left k i s).1=s.1++t:=by intro k;induction k with|zero=>intro i s h g;have:=h.fi.len;have:=h.le;omega|succ k f=>intro i s h g;unfold sQ;cases a:s.1[i]? with|some v=>obtain⟨h1,t,l⟩:=f (i+1) _ (h.step c a) (by omega);obtain⟨_,_,⟨b,d⟩,_,_⟩:=QdC i (sOut es left v) s (fun e he=>⟨(c e (Qbd.1 he).1).2,(Qbd.1 he).2.2⟩) h.fi h.lft;have d:(sRow es left i v s).1=s.1++b:=d;exact⟨h1,b++t,by simp_all⟩|none=>
 have:s.1.length=i:=by have:=List.getElem?_eq_none_iff.1 a;have:=h.le;omega
 dsimp only;rw[this];exact⟨h,[],by simp⟩
theorem QdD(h:WfA a):SI a.n a.es left (sAll a left).1.length (sAll a left)/\∃t,(sAll a left).1=(if decide (0<a.n)&&left 0 then[0]else[])++t:=by
 refine sQ_ok h.esn (a.n+1) 0 _ ?_ (by omega);refine⟨?_,fun x b=>?_,Zai _,fun j v c=>by omega,by simp⟩
 ·split;·rename_i hc;simp only[Zab,decide_eq_true_eq]at hc;exact⟨by simp,fun x b=>by simp_all⟩
  exact⟨by simp,fun x b=>by cases b⟩
 simp_all
theorem Qh5(h:WfA a):WfA (restr a left):=by
 obtain⟨g,_⟩:=QdD (left:=left) h;have d:∀(j:Nat)(e:Ed),j<(sAll a left).1.length->e∈(sOut a.es left ((sAll a left).1.getD j 0)).map (num (sAll a left).1 j)->∃b∈a.es,b.1=(sAll a left).1.getD j 0/\e=(j,b.2.1,idx (sAll a left).1 b.2.2)/\b.2.2∈(sAll a left).1:=by
  intro j e c he;obtain⟨b,f,rfl⟩:=Zap.1 he;have m:(sAll a left).1[j]?=some ((sAll a left).1.getD j 0):=by simp_all
  exact⟨b,(Qbd.1 f).1,(Qbd.1 f).2.1,rfl,g.cl j _ c m b f⟩
 refine⟨h.al,h.al5,ZaA g.fi.len h.n5,List.pairwise_lt_range.filter _,fun x k=>Zat.1 (Zbi.1 k).1,?_,fun e he=>?_,fun e he=>?_⟩
 ·show(sAll a left).2.Pairwise _;rw[g.ed];refine QcV (fun j c=>?_) (List.pairwise_lt_range.imp_of_mem fun{i j}hi c r x k y n=>.inl ?_);·rw[Zbl];have:(sOut a.es left ((sAll a left).1.getD j 0)).Pairwise fun x y=>x.1<y.1\/(x.1=y.1/\x.2.1<y.2.1):=h.es.filter _;refine this.imp_of_mem fun{x y}k n p=>.inr ⟨rfl,?_⟩;have h1:=(Qbd.1 k).2.1;have s:=(Qbd.1 n).2.1;show x.2.1<y.2.1;omega
  grind
 ·have he:e∈(sAll a left).2:=he;rw[g.ed]at he;obtain⟨j,c,he⟩:=Zbt.1 he;obtain⟨b,_,_,l,o⟩:=d j e (Zat.1 c) he;rw[l];exact⟨Zat.1 c,QiG o⟩
 have he:e∈(sAll a left).2:=he;rw[g.ed]at he;obtain⟨j,c,he⟩:=Zbt.1 he;obtain⟨b,q,_,l,o⟩:=d j e (Zat.1 c) he;rw[l];exact h.ev b q
theorem QtJ(ho:o.Nodup)(i):∀(a:List Ed)(s:OE)(t:List Nat),(a.foldl (sEd i) s).1++t=o->(∃f,s.1++f=o)->(a.map (num o i)).foldl (sEd i) (List.range s.1.length,s.2)=(List.range (a.foldl (sEd i) s).1.length,(a.foldl (sEd i) s).2):=by intro a;induction a with|nil=>intro s t _ _;rfl|cons e a g=>
 intro s t k l;rw[ZaR]at k;rw[ZaL,ZaR,ZaR];obtain⟨f,l⟩:=l;have c:∀(a:List Ed)(s:OE),∃u,(a.foldl (sEd i) s).1=s.1++u:=by intro a;induction a with|nil=>intro s;exact⟨[],by simp⟩|cons e a g=>
  intro s;rw[ZaR];obtain⟨u,m⟩:=g (sEd i s e);rw[m];unfold sEd;split;·simp_all
  simp_all
 by_cases hc:s.1.contains e.2.2=true
 ·have h:sEd i s e=(s.1,s.2++[(i,e.2.1,idx s.1 e.2.2)]):=if_pos hc;have hm:e.2.2∈s.1:=by simpa using hc
  have b:idx o e.2.2=idx s.1 e.2.2:=by grind[QdB]
  have p:sEd i (List.range s.1.length,s.2) (num o i e)=(List.range s.1.length,s.2++[(i,e.2.1,idx s.1 e.2.2)]):=by
   have d:idx o e.2.2<s.1.length:=by simp_all[QiG]
   unfold sEd num;rw[if_pos (by simpa using d)];have:idx (List.range s.1.length) (idx o e.2.2)=idx o e.2.2:=QuU Zbc (Zbw d);simp_all
  grind
 have h:sEd i s e=(s.1++[e.2.2],s.2++[(i,e.2.1,s.1.length)]):=if_neg hc;have hm:e.2.2∉s.1:=by simpa using hc
 rw[h]at k⊢;obtain⟨u,m⟩:=c a (s.1++[e.2.2],s.2++[(i,e.2.1,s.1.length)]);have n:o=(s.1++[e.2.2])++(u++t):=by simp_all
 have b:idx o e.2.2=s.1.length:=by grind[QdB,Qej]
 have p:sEd i (List.range s.1.length,s.2) (num o i e)=(List.range (s.1++[e.2.2]).length,s.2++[(i,e.2.1,s.1.length)]):=by simp_all[sEd,num,ZaK]
 grind
theorem QuV{es'}(ho:o.Nodup)(l:∀e∈es,e.1<n/\e.2.2<n)(m:∀i v,o[i]?=some v->sOut es' (fun _=>true) i=(sOut es left v).map (num o i)):∀(k i:Nat)(s:OE)(c:Nat),SI n es left i s->n<k+i->n<c+i->(sQ es left k i s).1=o->sQ es' (fun _=>true) c i (List.range s.1.length,s.2)=(List.range o.length,(sQ es left k i s).2):=by intro k;induction k with|zero=>intro i s c h y _ _;have:=h.fi.len;have:=h.le;omega|succ k x=>intro i s c h y w b;cases c with|zero=>have:=h.fi.len;have:=h.le;omega|succ c=>unfold sQ at b⊢;cases g:s.1[i]? with|none=>have d:s.1.length<=i:=List.getElem?_eq_none_iff.1 g;rw[g]at b;have b:s.1=o:=b;have:(List.range s.1.length)[i]?=none:=ZaF (by simpa using d);dsimp only;rw[this,b]|some v=>
 have d:i<s.1.length:=(Zaj.1 g).1;rw[g]at b;have b:(sQ es left k (i+1) (sRow es left i v s)).1=o:=b;have:(List.range s.1.length)[i]?=some i:=Zbw d;dsimp only;rw[this];dsimp only;have a:=h.step l g;obtain⟨_,t,q⟩:=sQ_ok l k (i+1) _ a (by omega);rw[b]at q;obtain⟨_,_,⟨r,p⟩,_,_⟩:=QdC i (sOut es left v) s (fun e he=>⟨(l e (Qbd.1 he).1).2,(Qbd.1 he).2.2⟩) h.fi h.lft;have p:(sRow es left i v s).1=s.1++r:=p;have u:o[i]?=some v:=by grind
 have f:sRow es' (fun _=>true) i i (List.range s.1.length,s.2)=(List.range (sRow es left i v s).1.length,(sRow es left i v s).2):=by simp_all[sRow,QtJ]
 rw[f];exact x (i+1) _ c a (by omega) (by omega) b
theorem QiH(h:WfA a)(d:(sAll a left).1[i]?=some v):sOut (restr a left).es (fun _=>true) i=(sOut a.es left v).map (num (sAll a left).1 i):=by
 obtain⟨f,_⟩:=QdD (left:=left) h;have k:i<(sAll a left).1.length:=(Zaj.1 d).1;show(sAll a left).2.filter _=_;rw[f.ed,List.filter_flatMap];have h1:∀j∈List.range (sAll a left).1.length,(((sOut a.es left ((sAll a left).1.getD j 0)).map (num (sAll a left).1 j)).filter fun e=>e.1==i&&true)=if j=i then(sOut a.es left v).map (num (sAll a left).1 i)else[]:=by
  intro j _;by_cases e:j=i;·subst e;rw[if_pos rfl,Zah,d];refine ZbK.2 fun x b=>?_;obtain⟨y,_,rfl⟩:=Zap.1 b;simp[num]
  rw[if_neg e];refine List.filter_eq_nil_iff.2 fun x b=>?_;obtain⟨y,_,rfl⟩:=Zap.1 b;simp[num,e]
 rw[List.flatMap_def,Zba h1,<-List.flatMap_def];have key:∀(l:List Nat)(X:List Ed),l.Nodup->(l.flatMap fun j=>if j=i then X else[])=if i∈l then X else[]:=by intro l X;induction l with|nil=>intro _;rfl|cons j l g=>
  intro c;rw[Zcb]at c;rw[Zay,g c.2];by_cases e:j=i;·simp_all
  grind
 simp_all[Zbc]
theorem QpI(h:WfA a):sAll (restr a left) (fun _=>true)=(List.range (restr a left).n,(restr a left).es):=by
 obtain⟨r,t,q⟩:=QdD (left:=left) h;have p:SI a.n a.es left 0 ((if decide (0<a.n)&&left 0 then[0]else[],[]):OE):=by
  refine⟨?_,fun x c=>?_,Zai _,fun j v w=>by omega,by simp⟩
  ·split;·rename_i hc;simp only[Zab,decide_eq_true_eq]at hc;exact⟨by simp,fun x c=>by simp_all⟩
   exact⟨by simp,fun x c=>by cases c⟩
  simp_all
 have B:(restr a left).n<=a.n:=r.fi.len;by_cases hc:(decide (0<a.n)&&left 0)=true
 ·rw[if_pos hc]at p q;have o:sAll a left=sQ a.es left (a.n+1) 0 ([0],[]):=by simp_all[sAll]
  have n:0<(restr a left).n:=by show 0<(sAll a left).1.length;rw[q];simp
  have z:sAll (restr a left) (fun _=>true)=sQ (restr a left).es (fun _=>true) ((restr a left).n+1) 0 (List.range ([0]:List Nat).length,[]):=by simp_all[sAll]
  rw[z];have l:∀(es:List Ed)(left:Nat->Bool)(k i:Nat)(s:OE)(m:Nat),SI m es left i s->(∀e∈es,e.1<m/\e.2.2<m)->m<k+i->∀b,k<=b->sQ es left k i s=sQ es left b i s:=by intro es left k;induction k with|zero=>intro i s m h _ A;have:=h.fi.len;have:=h.le;omega|succ k y=>intro i s m h hm A b u;cases b with|zero=>omega|succ b=>unfold sQ;cases g:s.1[i]? with|none=>rfl|some v=>exact y (i+1) _ m (h.step hm g) hm (by omega) b (by omega)
  have f:=Qh5 (left:=left) h;have d:SI (restr a left).n (restr a left).es (fun _=>true) 0 ((List.range ([0]:List Nat).length,[]):OE):=⟨⟨Zbc,fun x c=>by simp_all⟩,fun _ _=>rfl,Zai _,fun j v w=>by omega,by simp⟩;rw[l _ _ ((restr a left).n+1) 0 _ (restr a left).n d f.esn (by omega) (a.n+1) (by omega)];have:=QuV (n:=a.n) (es:=a.es) (es':=(restr a left).es) (left:=left) (o:=(sAll a left).1) r.fi.nd h.esn (fun i v g=>QiH h g) (a.n+1) 0 ([0],[]) (a.n+1) p (by omega) (by omega) (by rw[o]);rw[this];show _=(List.range (sAll a left).1.length,(sAll a left).2);rw[o]
 simp_all[sAll,if_neg,sQ,restr]
theorem Qn4(h:WfA a):restr (restr a left) (fun _=>true)=restr a left:=by
 have h1:=QpI (left:=left) h;have b:(sAll (restr a left) fun _=>true).1.length=(restr a left).n:=by rw[h1];simp
 have e:∀(A B:Aut),A.al=B.al->A.n=B.n->A.ms=B.ms->A.es=B.es->A=B:=fun A B h1 f g d=>by cases A;simp_all
 refine e _ _ rfl b ?_ (by simp_all[restr]);show(List.range (sAll (restr a left) fun _=>true).1.length).filter _=_;rw[b,h1];have c:(restr a left).ms=(List.range (restr a left).n).filter fun i=>a.ms.contains ((sAll a left).1.getD i 0):=rfl;have:∀i∈List.range (restr a left).n,(restr a left).ms.contains ((List.range (restr a left).n).getD i 0)=a.ms.contains ((sAll a left).1.getD i 0):=fun i hi=>by simp_all
 grind[ZbJ]
def part(n bits:Nat):List Nat:=(List.range n).filter fun i=>bits.testBit i
theorem Ql9{bits}:x∈part n bits↔x<n/\bits.testBit x=true:=by simp[part]
theorem QdT(n bits):(part n bits).Pairwise (·<·):=List.pairwise_lt_range.filter _
def kept(n:Nat)(l:LB):List Nat:=(List.range n).filter (lf l)
end Go.AM.SD
namespace Go.AM
open Go.RowKit
variable{P:Program}
def WR(P:Program)(base:Nat):Nat->List SOper->Tmps->Heap->(Tmps->Heap->Prop)->Prop|_,[],T,h,K=>K T h|i,s::r,T,h,K=>∃f v h1,StepV P (base+i) s T h v h1 f/\WR P base (i+1) r (putD T s.dst v) h1 K
theorem WR.toF{base}:∀{r:List SOper}{i:Nat}{T:Tmps}{h:Heap}{K:Tmps->Heap->Prop},WR P base i r T h K->∃fs T' h',RunF P base i r fs ⟨T,h⟩ ⟨T',h'⟩/\K T' h'|[],i,T,h,K,a=>⟨[],T,h,⟨rfl,rfl⟩,a⟩|s::r,i,T,h,K,⟨f,v,h1,d,c⟩=>by obtain⟨fs,T',h',b,a⟩:=WR.toF c;exact⟨f::fs,T',h',⟨f,fs,v,h1,rfl,d,b⟩,a⟩
theorem W.regionR{N}{Q}{T}{h}{sops}{dead}(base)(a:WR P base 0 sops T h fun T h=>Q .normal ⟨rm T dead,h⟩):W P N (.region sops [] dead) Q ⟨T,h⟩:=by grind[WR.toF,W.regionF]
section
variable{base i:Nat}{d:Option Nat}{s:SOp}{af:List Nat}{r:List SOper}{T:Tmps}{h h1:Heap}{K:Tmps->Heap->Prop}{v:AV}
end
end Go.AM
namespace Go.AM
variable{P:Program}
variable{v x y:AV}{t:Bool}{c0:Ctx (okc P)}{R:Ending->World->Prop}{h h':Heap}{args cs ds xs ys:List AV}{a g i m n off:Nat}{b f z:SCode}{sf:SFn}{Q Q':SX->St->Prop}{B:St}{T:Tmps}{w w' w0:World}
structure NM where
 n:Nat
 m:Nat
variable{N:NM}
variable{ok:Okc}
structure Evo2(m:Nat)(c:Ctx ok)(w:World)(c':Ctx ok)(w':World):Prop where
 os:w'.os=w.os
 tape:w'.tape=w.tape
 output:w'.output=w.output
 size:w.heap.size<=w'.heap.size
 shape:∀(cb:Nat)(C:Array Value)(e:TypeId)(fr:Nat×Nat),w.heap[cb]?=some (.cells C e fr)->∃(C':Array Value)(fr':Nat×Nat),w'.heap[cb]?=some (.cells C' e fr')/\C'.size=C.size
 keep:∀cb,cb<w.heap.size->¬c.O cb->w'.heap[cb]?=w.heap[cb]?
 rho:∀b g p,b<m->c.ρ b g=some p->c'.ρ b g=some p
 frz:∀cb,c.F cb->c'.F cb
 frzNew:∀cb,c'.F cb->c.F cb\/c.O cb\/w.heap.size<=cb
 own:∀cb,c'.O cb->c.O cb\/w.heap.size<=cb
 base:c'.base=c.base
theorem Evo.to2{c c':Ctx ok}(E:Evo c w c' w'):Evo2 m c w c' w':=⟨E.os,E.tape,E.output,E.size,E.shape,E.keep,fun b g p _ h=>E.rho b g p h,E.frz,E.frzNew,E.own,E.base⟩
theorem Marks.mono2{c c':Ctx ok}(E:Evo2 m c w c' w'):∀{ds:List Deferred},Marks c w ds->Marks c' w' ds
 |[],h=>by have h:c.base<=w.heap.size:=h;have:=E.size;show c'.base<=w'.heap.size;rw[E.base];omega|d::ds,⟨⟨D,h1,l,a,g,f,i⟩,k⟩=>by
  have b:=Qbc f;refine⟨⟨D,h1,by rw[E.base];exact l,fun h=>?_,fun h=>?_,by rw[E.keep D b a];exact f,i⟩,Marks.mono2 E k⟩
  ·rcases E.own D h with h|h;·exact a h
   omega
  rcases E.frzNew D h with h|h|h;·exact g h
  ·exact a h
  omega
theorem Evo2.trans{q i o:Ctx ok}{n t l}(a:Evo2 m q n i t)(b:Evo2 m i t o l):Evo2 m q n o l where
 os:=b.os.trans a.os;tape:=b.tape.trans a.tape;output:=b.output.trans a.output;size:=ZaA a.size b.size;shape:=fun c C e w h=>by obtain⟨C',f,u,y⟩:=a.shape c C e w h;obtain⟨C'',k,x,v⟩:=b.shape c C' e f u;simp_all
 keep:=fun c d s=>by rw[b.keep c (Za0 d a.size) (fun h=>(a.own c h).elim s (by omega)),a.keep c d s]
 rho:=fun z g p r h=>b.rho _ _ _ r (a.rho _ _ _ r h);frz:=fun c h=>b.frz _ (a.frz _ h);frzNew:=fun c h=>by
  exact bK6L1
 own:=fun c h=>by
  rcases b.own c h with h|h;·exact a.own c h
  exact .inr (ZaA a.size h)
 base:=b.base.trans a.base
def W2(P:Program)(N:NM)(d:SCode)(Q:SX->St->Prop)(A:St):Prop:=∀code,okCode P N.n code d=true->∀(c:Ctx (okc P))(a:Act)(w:World),SRel N.n c A a w->∀(ro:Option Nat),(d.rf=true->ro=none)->∀(Q':Exit->Act->World->Prop),(∀e B f g b,Q e B->SRel N.n f B g b->Evo2 N.m c w f b->Q' e.toExit g b)->code.wpIn (FW ro) 0 P Q' a w
section rules
variable{N:NM}{Q:SX->St->Prop}{A:St}
theorem W2.of_W(h:W P N.n f Q A):W2 P N f Q A:=fun code b c a w S ro d R l=>h code b c a w S ro d R fun e B i g k m S' E'=>l e B i g k m S' E'.to2
theorem W2.mono(h:W2 P N f Q A)(k:∀e B,Q e B->Q' e B):W2 P N f Q' A:=fun code b c a w S ro d R m=>h code b c a w S ro d R fun e B g i l n S' E'=>m e B g i l (k e B n) S' E'
theorem W2.congr(h:W2 P N f Q A)(e:SEq B A):W2 P N f Q B:=fun code b c a w S ro d R g=>h code b c a w (S.congr e) ro d R g
theorem W2.skip(h:Q .normal A):W2 P N .skip Q A:=.of_W (.skip h)
theorem W2.ret(h:Q .ret A):W2 P N .ret Q A:=.of_W (.ret h)
theorem W2.exit(h:Q (.exit i) A):W2 P N (.exit i) Q A:=.of_W (.exit h)
theorem W2.seq{x y:SCode}(h:W2 P N x (fun e B=>match e with|.normal=>W2 P N y Q B|e=>Q e B) A):W2 P N (.seq x y) Q A:=by intro code b c a w S ro d Q' l;cases code<;>simp only[okCode,Zar,Zab]at b;rename_i n cy;refine wpIn_seq (h n b.1 c a w S ro (fun e=>d (by simp[SCode.rf,e])) _ ?_);intro e B g m k f S' E';cases e with|normal=>exact f cy b.2 g m k S' ro (fun e=>d (by simp[SCode.rf,e])) Q' fun q B2 s o r p S2 E2=>l q B2 s o r p S2 (E'.trans E2)|exit i=>exact l (.exit i) B g m k f S' E'|ret=>exact l .ret B g m k f S' E'
theorem W2.cond{x}{y}(h:ev A.T x=.bool t)(h1:t=true->W2 P N y Q A)(k:t=false->W2 P N z Q A):W2 P N (.cond x y z) Q A:=by intro code b c a w S ro d Q' g;cases code<;>simp only[okCode,Zar,Zab]at b;rename_i o cy i;have f:=Qat S.tmps b.1.1;rw[h]at f;simp only[VRel]at f;refine wpIn_cond f ?_;cases t with|true=>exact h1 rfl cy b.1.2 c a w S ro (fun e=>d (by simp[SCode.rf,e])) Q' g|false=>exact k rfl i b.2 c a w S ro (fun e=>d (by simp[SCode.rf,e])) Q' g
theorem W2.block(h:W2 P N b (fun e B=>match e with|.exit j=>if j=i then Q .normal B else Q (.exit j) B|e=>Q e B) A):W2 P N (.block i b) Q A:=by intro code d c a w S ro o Q' n;cases code<;>simp only[okCode,Zar,Zab,beq_iff_eq]at d;rename_i j p;obtain⟨rfl,d⟩:=d;refine wpIn_block (h p d c a w S ro (fun e=>o (by simp[SCode.rf,e])) _ ?_);intro e B m g l f S' E';cases e with|normal=>exact n .normal B m g l f S' E'|ret=>exact n .ret B m g l f S' E'|exit k=>
 exact b1WW0
def WL2(P:Program)(N:NM)(b:SCode)(Q:SX->St->Prop)(A:St):Prop:=∀f,okCode P N.n f b=true->∀(c:Ctx (okc P))(a:Act)(w:World),SRel N.n c A a w->∀(ro:Option Nat),(b.rf=true->ro=none)->∀(Q':Exit->Act->World->Prop),(∀e B g h d,Q e B->SRel N.n g B h d->Evo2 N.m c w g d->Q' e.toExit h d)->Lp ro P f Q' a w
theorem WL2.loop(h:WL2 P N b Q A):W2 P N (.loop b) Q A:=by intro code d c a w S ro f Q' g;cases code<;>simp only[okCode,Zar]at d;exact(h _ d c a w S ro (fun e=>f (by simp[SCode.rf,e])) Q' g).loop
theorem WL2.round(h:W2 P N b (fun e B=>match e with|.normal=>WL2 P N b Q B|e=>Q e B) A):WL2 P N b Q A:=by intro o f c a w S ro d Q' k;refine Lp.round (h o f c a w S ro d _ ?_);intro e B m l n g S2 E2;cases e with|normal=>exact g o f m l n S2 ro d Q' fun s B3 p r t q S3 E3=>k s B3 p r t q S3 (E2.trans E3)|ret=>exact k .ret B m l n g S2 E2|exit i=>exact k (.exit i) B m l n g S2 E2
theorem W2.loop(I:Nat->St->Prop)(n:Nat)(g:I n A)(round:∀n B,I n B->W2 P N b (fun e C=>match e with|.normal=>∃m,m<n/\I m C|e=>Q e C) B):W2 P N (.loop b) Q A:=by
 refine WL2.loop ?_;have key:∀n B,I n B->WL2 P N b Q B:=by intro n;induction n using Nat.strongRecOn with|_ n d=>intro B f;refine WL2.round ((round n B f).mono ?_);intro e C c;cases e with|normal=>obtain⟨m,hm,a⟩:=c;exact d m hm C a|exit i=>exact c|ret=>exact c
 grind
end rules
inductive Src where|nil|blk(b g:Nat)
def Mapped(m:Nat)(π:Nat->Option Src)(h:Heap)(c:Ctx ok)(k:Nat):Prop:=(∃b g base,b<m/\Live h b g/\c.ρ b g=some (.loc k base))\/∃a b g base,m<=a/\π a=some (.blk b g)/\c.ρ b g=some (.loc k base)
def nctx(m:Nat)(π:Nat->Option Src)(h:Heap)(c:Ctx ok):Ctx ok where ρ:=fun a d=>if a<m then c.ρ a d else if d=0 then(match π a with|some .nil=>some .nil|some (.blk b g)=>c.ρ b g|none=>none)else none;F:=fun k=>c.F k\/(c.O k/\¬Mapped m π h c k);O:=fun k=>c.O k/\Mapped m π h c k;base:=c.base
structure Maps(m:Nat)(π:Nat->Option Src)(h:Heap):Prop where
 live:∀b' b g,m<=b'->π b'=some (.blk b g)->Live h b g/\m<=b
 inj:∀b1 b2 b g g2,m<=b1->m<=b2->π b1=some (.blk b g)->π b2=some (.blk b g2)->b1=b2
def Rn(m:Nat)(π:Nat->Option Src)(h:Heap)(x y:AV):Prop:=∀(ok:Okc)(c:Ctx ok)(w:World)(v:Value),HRel c h w->Maps m π h->VRel c w y v->VRel (nctx m π h c) w x v
def RnL(m:Nat)(π:Nat->Option Src)(h:Heap):List AV->List AV->Prop|[],[]=>True|x::xs,y::a=>Rn m π h x y/\RnL m π h xs a|_,_=>False
def RnM(m:Nat)(π:Nat->Option Src)(h:Heap):List (AV×AV)->List (AV×AV)->Prop|[],[]=>True|x::xs,y::a=>(Rn m π h x.1 y.1/\Rn m π h x.2 y.2)/\RnM m π h xs a|_,_=>False
section
variable{m:Nat}{π:Nat->Option Src}{h:Heap}
theorem Qco{c:Ctx ok}{b}(hm:b<m):(nctx m π h c).ρ b g=c.ρ b g:=if_pos hm
theorem QeB{c:Ctx ok}{b}(hm:m<=a)(hp:π a=some (.blk b g)):(nctx m π h c).ρ a 0=c.ρ b g:=by show(if a<m then c.ρ a 0 else if 0=0 then(match π a with|some .nil=>some .nil|some (.blk b g)=>c.ρ b g|none=>none)else none)=_;grind
theorem Qh6{c:Ctx ok}(hm:m<=a)(hp:π a=some .nil):(nctx m π h c).ρ a 0=some .nil:=by show(if a<m then c.ρ a 0 else if 0=0 then(match π a with|some .nil=>some .nil|some (.blk b g)=>c.ρ b g|none=>none)else none)=_;grind
theorem Qkr{c:Ctx ok}(hm:m<=a)(hp:π a=none):(nctx m π h c).ρ a g=none:=by show(if a<m then c.ρ a g else if g=0 then(match π a with|some .nil=>some .nil|some (.blk b g)=>c.ρ b g|none=>none)else none)=_;grind
theorem QpJ{c:Ctx ok}(hm:m<=a)(d:g≠0):(nctx m π h c).ρ a g=none:=by show(if a<m then c.ρ a g else if g=0 then(match π a with|some .nil=>some .nil|some (.blk b g)=>c.ρ b g|none=>none)else none)=_;grind
theorem Rn.any:Rn m π h .any y:=fun _ c w v _ _ _=>by simp[VRel]
theorem Rn.same(b:noRef x=true):Rn m π h x x:=fun _ c w v _ _ d=>Zch (c:=c) (c':=nctx m π h c) (fun _ a=>.inl a) _ _ b d
theorem Rn.ptr{b}(hm:m<=a)(hp:π a=some (.blk b g)):Rn m π h (.ptr a 0 off) (.ptr b g off):=fun _ c w v _ _ d=>by grind[VRel,QeB]
theorem Rn.map{b}(hm:m<=a)(hp:π a=some (.blk b g)):Rn m π h (.map a 0) (.map b g):=fun _ c w v _ _ d=>by grind[VRel,QeB]
theorem Rn.sl{b len sz}(hm:m<=a)(hp:π a=some (.blk b g)):Rn m π h (.sl a 0 off len sz) (.sl b g off len sz):=fun _ c w v _ _ d=>by grind[QeB,VRel]
theorem Rn.slnil{sz}(hm:m<=a)(hp:π a=some .nil):Rn m π h (.sl a 0 0 0 sz) .nilsl:=fun _ c w v _ _ b=>by simp_all[VRel,Qh6]
theorem Rn.ptrB{b}(hm:b<m):Rn m π h (.ptr b g off) (.ptr b g off):=fun _ c w v _ _ a=>by simp_all[Qco,VRel]
theorem Rn.mapB{b}(hm:b<m):Rn m π h (.map b g) (.map b g):=fun _ c w v _ _ a=>by simp_all[Qco,VRel]
theorem Rn.slB{b len sz}(hm:b<m):Rn m π h (.sl b g off len sz) (.sl b g off len sz):=fun _ c w v _ _ a=>by simp_all[Qco,VRel]
theorem RnL.same:∀{xs:List AV},noRefs xs=true->RnL m π h xs xs|[],_=>trivial|x::xs,a=>by simp only[noRefs,Zab]at a;exact⟨Rn.same a.1,RnL.same a.2⟩
theorem RnL.eq(e:xs=ys)(a:noRefs xs=true):RnL m π h xs ys:=e▸RnL.same a
theorem RnL.length:∀{xs ys:List AV},RnL m π h xs ys->xs.length=ys.length|[],[],_=>rfl|[],_::_,a=>a.elim|_::_,[],a=>a.elim|x::xs,y::ys,a=>by simp[RnL.length a.2]
theorem RnL.append:∀{xs ys us vs:List AV},RnL m π h xs ys->RnL m π h us vs->RnL m π h (xs++us) (ys++vs)|[],[],_,_,_,b=>b|[],_::_,_,_,a,_=>a.elim|_::_,[],_,_,a,_=>a.elim|x::xs,y::ys,_,_,a,b=>⟨a.1,RnL.append a.2 b⟩
theorem RnL.one(a:Rn m π h x y):RnL m π h [x] [y]:=⟨a,trivial⟩
theorem RnL.pre{c:Ctx ok}(H:HRel c h w)(M:Maps m π h):∀{xs ys:List AV}{vs:List Value},RnL m π h xs ys->VPre c w ys vs->VPre (nctx m π h c) w xs vs|[],[],_,_,_=>by simp[VPre]|[],_::_,_,a,_=>a.elim|_::_,[],_,a,_=>a.elim|x::xs,y::ys,vs,a,d=>by simp only[VPre]at d⊢;obtain⟨v,b,rfl,f,g⟩:=d;exact⟨v,b,rfl,a.1 _ c w v H M f,RnL.pre H M a.2 g⟩
theorem RnL.rels{c:Ctx ok}(H:HRel c h w)(M:Maps m π h):∀{xs ys:List AV}{vs:List Value},RnL m π h xs ys->VRels c w ys vs->VRels (nctx m π h c) w xs vs|[],[],_,_,b=>by grind[VRels]|[],_::_,_,a,_=>a.elim|_::_,[],_,a,_=>a.elim|x::xs,y::ys,vs,a,b=>by simp only[VRels]at b⊢;obtain⟨v,d,rfl,f,g⟩:=b;exact⟨v,d,rfl,a.1 _ c w v H M f,RnL.rels H M a.2 g⟩
theorem Rn.agg(d:RnL m π h xs ys):Rn m π h (.agg xs) (.agg ys):=fun _ c w v H M a=>by simp only[VRel]at a⊢;obtain⟨b,rfl,a⟩:=a;exact⟨b,rfl,d.rels H M a⟩
theorem Rn.tup(d:RnL m π h xs ys):Rn m π h (.tup xs) (.tup ys):=fun _ c w v H M a=>by simp only[VRel]at a⊢;obtain⟨b,rfl,a⟩:=a;exact⟨b,rfl,d.rels H M a⟩
theorem Rn.fn{f}{us vs}(k:RnL m π h xs ys)(i:RnL m π h us vs):Rn m π h (.fn f xs us) (.fn f ys vs):=fun _ c w v H M a=>by simp only[VRel]at a⊢;obtain⟨g,d,rfl,h1,b⟩:=a;exact⟨g,d,rfl,k.rels H M h1,i.rels H M b⟩
theorem Maps.out{c:Ctx ok}(H:HRel c h w)(M:Maps m π h){b cb base}(k:Live h b g)(hp:c.ρ b g=some (.loc cb base))(hm:m<=b)(s:∀d o,m<=d->π d≠some (.blk b o)):¬Mapped m π h c cb:=by
 rintro(⟨p,n,a,h1,f,i⟩|⟨d,p,n,a,l,h1,i⟩);·have :=H.inj _ _ _ _ _ _ _ k f hp i;omega
 obtain⟨q,r⟩:=M.live _ _ _ l h1;have:=H.inj _ _ _ _ _ _ _ k q hp i;simp_all
theorem Rn.frz{b len sz}(u:h.get b=some (.cells g ds))(hm:m<=b)(B:∀x J,m<=x->π x≠some (.blk b J))(L:off+len*sz<=ds.length)(t:RnL m π h cs ((ds.drop off).take (len*sz))):Rn m π h (.fsl cs len sz) (.sl b g off len sz):=fun _ c w v H M r=>by
 have hlen:=t.length;simp only[VRel]at r;rcases r with⟨hp,rfl,rfl,rfl⟩|⟨I,base,o,cap,C,e,F,hp,rfl,q,s,a⟩;·simp_all[VRel]
 obtain⟨C',N,A,K,f,E,G,l⟩:=H.here u hp;have i:=M.out H ⟨_,u,rfl,fun k=>by simp⟩ hp hm B;rw[s]at f;cases f;by_cases y:cap=0
 ·have p:len=0:=by omega
  subst p;have n:cs=[]:=by simp_all
  subst n;simp only[VRel];simp_all
 obtain⟨rfl,z⟩:=a.resolve_left y;have d:=Qcl (len*sz) (Qbj off l);rw[ZaT]at d;simp only[VRel];exact .inr ⟨I,base+off,cap,C,e,F,rfl,q,by grind,.inr ⟨K,i⟩,s,t.pre H M d⟩
theorem Rn.frzp{b}(p:h.get b=some (.cells g ds))(hm:m<=b)(z:∀n t,m<=n->π n≠some (.blk b t))(hc:ds≠[])(u:RnL m π h cs (ds.drop off)):Rn m π h (.fptr cs) (.ptr b g off):=fun _ c w v H M o=>by simp only[VRel]at o;obtain⟨y,base,hp,rfl⟩:=o;obtain⟨C',x,i,s,l,q,r,f⟩:=H.here p hp;have d:=M.out H ⟨_,p,rfl,fun k=>by simp⟩ hp hm z;have a:=Qbj off f;rw[ZaT]at a;simp only[VRel];exact⟨y,base+off,C',x,i,rfl,.inr ⟨s,d⟩,l,u.pre H M a⟩
def BRn(m:Nat)(π:Nat->Option Src)(h:Heap):Option Src->Blk->Prop|some .nil,.cells _ cs=>cs=[]|some (.blk b g),.cells _ cs=>∃c k,h.get b=some (.cells g c)/\RnL m π h cs (c.take k)|some (.blk b g),.map _ es=>∃fs,h.get b=some (.map g fs)/\RnM m π h es fs|some (.blk b g),.loop _ N T d a body st=>∃T0,h.get b=some (.loop g N T0 d a body st)/\∀i,Rn m π h (lk T i) (lk T0 i)|some (.blk b g),.dead _=>h.get b=some (.dead g)|_,_=>False
def RH(m:Nat)(π:Nat->Option Src)(h h':Heap):Prop:=∀b a,h'.get b=some a->(b<m/\BRn m π h (some (.blk b a.gen)) a)\/(m<=b/\a.gen=0/\(∀g,a≠.dead g)/\BRn m π h (π b) a)
def RD(m:Nat)(π:Nat->Option Src)(h h':Heap):Prop:=∀a,h'.get a=none->(a<m->h.get a=none)/\(m<=a->π a=none)
def RT(m:Nat)(π:Nat->Option Src)(h:Heap)(T' T:Tmps):Prop:=∀i,Rn m π h (lk T' i) (lk T i)
theorem RnM.rel{c:Ctx ok}(H:HRel c h w)(M:Maps m π h):∀{xs ys:List (AV×AV)}{es:List MapEntry}{k:Nat},RnM m π h xs ys->MRel c w ys es k->MRel (nctx m π h c) w xs es k
 |[],[],_,_,_,b=>by grind[MRel]|[],_::_,_,_,a,_=>a.elim|_::_,[],_,_,a,_=>a.elim|(q,x1)::xs,(p,x2)::ys,es,k,a,b=>by
  simp only[MRel]at b⊢;obtain⟨e,d,rfl,n,i,f,o,l⟩:=b;have r:xs.length=ys.length:=by
   have:∀{xs ys:List (AV×AV)},RnM m π h xs ys->xs.length=ys.length:=by intro xs;induction xs with
    |nil=>intro ys a;cases ys with|nil=>rfl|cons=>exact a.elim
    |cons x xs g=>intro ys a;cases ys with|nil=>exact a.elim|cons y ys=>simp[g a.2]
   exact this a.2
  exact⟨e,d,rfl,a.1.1 _ c w _ H M n,a.1.2 _ c w _ H M i,f,by omega,RnM.rel H M a.2 l⟩
theorem RnM.length:∀{xs ys:List (AV×AV)},RnM m π h xs ys->xs.length=ys.length|[],[],_=>rfl|[],_::_,a=>a.elim|_::_,[],a=>a.elim|x::xs,y::ys,a=>by simp[RnM.length a.2]
theorem RH.hrel{c:Ctx ok}(U:RH m π h h')(hd:RD m π h h')(M:Maps m π h)(H:HRel c h w):HRel (nctx m π h c) h' w:=by
 have base:∀a l,a<m->BRn m π h (some (.blk a l.gen)) l->∃x,h.get a=some x/\x.gen=l.gen/\((∀k,l≠.dead k)->∀k,x≠.dead k):=by intro a l _ f;cases l with|cells g cs=>obtain⟨ds,_,h1,_⟩:=f;exact⟨_,h1,rfl,fun _ k=>by simp⟩|map g es=>obtain⟨ds,h1,_⟩:=f;exact⟨_,h1,rfl,fun _ k=>by simp⟩|loop g N T ps O body st=>obtain⟨T0,h1,_⟩:=f;exact⟨_,h1,rfl,fun _ k=>by simp⟩|dead g=>exact⟨_,f,rfl,fun hh=>absurd rfl (hh g)⟩
 refine⟨?_,?_,?_,?_,?_,?_,?_⟩
 ·intro a P g;obtain⟨d1,d2⟩:=hd a P;rcases ZbG a m with z|z;·rw[Qco z];exact H.fresh a (d1 z) g
  simp_all[Qkr]
 ·intro a l P g z;rcases U a l P with⟨hm,f⟩|⟨hm,I,_,f⟩;·obtain⟨x,h1,p,_⟩:=base a l hm f;rw[Qco hm];exact H.later a x h1 g (by omega)
  grind[QpJ]
 ·intro a l P;have own:∀(b g:Nat),(b<m/\Live h b g)\/(m<=a/\π a=some (.blk b g))->∀o base,c.ρ b g=some (.loc o base)->c.O o->(nctx m π h c).O o:=by
   intro b g v o base hp J;refine⟨J,?_⟩;rcases v with⟨h1,p⟩|⟨h1,p⟩;·exact .inl ⟨b,g,base,h1,p,hp⟩
   exact .inr ⟨a,b,g,base,h1,p,hp⟩
  have main:∀(b g:Nat),((b<m/\Live h b g)\/(m<=a/\π a=some (.blk b g)))\/(∃k,l=.dead k)->(nctx m π h c).ρ a l.gen=c.ρ b g->BRn m π h (some (.blk b g)) l->BRel (nctx m π h c) w a l:=by
   intro b g v E f;cases l with|dead k=>trivial|cells y cs=>
    have v:=v.resolve_right (by simp);obtain⟨ds,kk,h1,p⟩:=f;change(nctx m π h c).ρ a y=_ at E;rcases H.blk b _ h1 with⟨n,rfl⟩|⟨o,bs,C,e,fr,n,q,t,R,k5,k6⟩;·left;refine⟨E.trans n,?_⟩;rw[List.take_nil]at p;cases cs with|nil=>rfl|cons=>exact p.elim
    right;exact⟨o,bs,C,e,fr,E.trans n,own b g v o bs n q,t,R,k5,p.pre H M (Qcl kk k6)⟩|map y es=>have v:=v.resolve_right (by simp);obtain⟨fs,h1,p⟩:=f;change(nctx m π h c).ρ a y=_ at E;obtain⟨o,X,clock,n,q,t,R⟩:=H.blk b _ h1;exact⟨o,X,clock,E.trans n,own b g v o 0 n q,t,p.rel H M R.1,by rw[p.length];exact R.2⟩|loop y N T ps O body st=>have v:=v.resolve_right (by simp);obtain⟨T0,h1,p⟩:=f;change(nctx m π h c).ρ a y=_ at E;obtain⟨o,r,n,q,t,L⟩:=H.blk b _ h1;exact⟨o,r,E.trans n,own b g v o 0 n q,t,L.params,L.size,fun i=>p i _ c w _ H M (L.tmps i),L.okA,L.okB,L.state,L.pend⟩
  rcases U a l P with⟨hm,f⟩|⟨hm,I,Z,f⟩
  ·obtain⟨x,h1,p,h3⟩:=base a l hm f;refine main a l.gen ?_ (Qco hm) f;by_cases A:∃k,l=.dead k;·simp_all
   exact .inl (.inl ⟨hm,x,h1,p,h3 fun k e=>A ⟨k,e⟩⟩)
  rcases hp:π a with _|_|⟨b,g⟩;·rw[hp]at f;exact f.elim
  ·rw[hp]at f;cases l with|dead k=>trivial|map y es=>exact f.elim|loop y N T ps O body st=>exact f.elim|cells y cs=>have f:cs=[]:=f;have I:y=0:=I;subst I;left;exact⟨Qh6 hm hp,f⟩
  grind[QeB]
 ·intro s F b2 g2 o d B l1 l2 K p2;have key:∀s F d,Live h' s F->(nctx m π h c).ρ s F=some (.loc o d)->(s<m/\Live h s F/\c.ρ s F=some (.loc o d))\/(m<=s/\∃b g,π s=some (.blk b g)/\c.ρ b g=some (.loc o d)):=by
   rintro s F d⟨x1,V,rfl,Y⟩K;rcases U s x1 V with⟨hm,f⟩|⟨hm,I,Z,f⟩;·rw[Qco hm]at K;obtain⟨x,n,q,t⟩:=base s x1 hm f;exact .inl ⟨hm,⟨x,n,q,t Y⟩,K⟩
   rw[I]at K;rcases hp:π s with _|_|⟨b,g⟩;·simp_all[Qkr]
   ·simp_all[Qh6]
   rw[QeB hm hp]at K;grind
  rcases key s F d l1 K with⟨n,q,t⟩|⟨n,b,g,q,t⟩<;>rcases key b2 g2 B l2 p2 with⟨S,G,Q⟩|⟨S,a,y,G,Q⟩;·exact H.inj _ _ _ _ _ _ _ q G t Q
  ·obtain⟨q1,q2⟩:=M.live _ _ _ S G;have:=H.inj _ _ _ _ _ _ _ q q1 t Q;omega
  ·obtain⟨q1,q2⟩:=M.live _ _ _ n q;have:=H.inj _ _ _ _ _ _ _ q1 G t Q;omega
  obtain⟨q1,q2⟩:=M.live _ _ _ S G;obtain⟨r1,r2⟩:=M.live _ _ _ n q;have:=H.inj _ _ _ _ _ _ _ r1 q1 t Q;subst this;exact M.inj _ _ _ _ _ n S q G
 ·intro k u J;rcases u with u|u;·exact H.disj k u J.1
  exact u.2 J.2
 ·intro k u;rcases u with u|u;·exact H.inF k u
  exact H.inO k u.1
 intro k J;exact H.inO k J.1
theorem QeC(c:Ctx ok)(w):Evo2 m c w (nctx m π h c) w:=⟨rfl,rfl,rfl,Zau _,fun _ C _ f i=>⟨C,f,i,rfl⟩,fun _ _ _=>rfl,fun b g p d hp=>(Qco d).trans hp,fun _ a=>.inl a,fun k a=>a.elim .inl fun a=>.inr (.inl a.1),fun k a=>.inl a.1,rfl⟩
theorem W2.recast{T'}(M:Maps N.m π h)(q:RH N.m π h h')(o:RD N.m π h h')(n:RT N.m π h T' T)(hw:W2 P N f Q ⟨T',h'⟩):W2 P N f Q ⟨T,h⟩:=by intro code b c a w S ro d Q' p;refine hw code b (nctx N.m π h c) a w ⟨q.hrel o M S.heap,fun i=>n i _ c w _ S.heap M (S.tmps i),S.size,S.defers.mono2 (QeC (m:=N.m) (π:=π) (h:=h) c w)⟩ ro d Q' ?_;intro e B g l k m S' E';exact p e B g l k m S' ((QeC c w).trans E')
end
theorem Evo2.rebase{c c':Ctx ok}(E:Evo2 m (c.rb n) w c' w'):Evo2 m c w (c'.rb (c.base)) w':=⟨E.os,E.tape,E.output,E.size,E.shape,E.keep,E.rho,E.frz,E.frzNew,E.own,rfl⟩
theorem QiI{fn}{a}{c}(s:w0.heap.size<=c.base)(fin:∀w,HRel c h w->TRel c w T a->Evo2 m c0 w0 c w->∃v,(results fn a.tmps).run P w=.ok v w/\R (.returned v) w):∀(ds:List Deferred)(w:World),Marks c w ds->HRel c h w->TRel c w T a->Evo2 m c0 w0 c w->LeavesInM Fence.wide 0 P fn a.tmps R ds .returning w
 |[],w,_,H,f,E=>fin w H f E|d::ds,w,⟨⟨D,h1,Q,z,p,o,y⟩,n⟩,H,f,E=>by
  obtain⟨H',X⟩:=H.mark (o:=.deferred none) z p o;have other:∀k,k≠D->(w.putObj D (.deferred none)).heap[k]?=w.heap[k]?:=fun k G=>World.putObj_heap_other G;refine⟨by simp,.inl ⟨D,w.putObj D (.deferred none),by rw[h1],run_takeDeferred o,?_⟩⟩;refine QiI s fin ds _ ?_ H' (fun i=>Zce X _ _ (f i)) ?_;·clear fin;induction ds with|nil=>show c.base<=_;rw[World.putObj_size];exact n|cons O ds B=>
   obtain⟨⟨D2,r,u,A,t,I,q⟩,L⟩:=n;refine⟨⟨D2,r,u,A,t,?_,q⟩,B (fun J l=>y J (List.mem_cons_of_mem _ l)) L⟩;rw[other D2 (fun e=>?_)];·exact I
   simp_all
  refine⟨E.os,E.tape,E.output,by grind[World.putObj_size],fun b C e F hc=>?_,fun b g K=>?_,E.rho,E.frz,E.frzNew,E.own,E.base⟩;·obtain⟨C',x,M,N⟩:=E.shape b C e F hc;grind
  rw[other b (by omega)];exact E.keep b g K
theorem Qdh{f}{R:List AV->Heap->Prop}(b:okFn P f sf=true)(u:args.length<=sf.n)(hw:W2 P ⟨sf.n,m⟩ sf.body (fun e B=>(e=.normal\/e=.ret)/\∃vs,resV B.T B.h sf.res=some vs/\R vs B.h) ⟨argT 0 args,h⟩){c:Ctx (okc P)}{a}(H:HRel c h w)(l:VRels c w args a.toList):Calls P f a w fun e w'=>∃cv c' vs h',e=.returned cv/\Evo2 m c w c' w'/\HRel c' h' w'/\VRel c' w' (resOf vs) cv/\R vs h':=by
 obtain⟨fn,code,hf,n,hc,v,q,_⟩:=Qcn b;have hlen:=QaG l;have hlen:args.length=a.size:=by omega
 refine(callsIn_wide (n:=0)).1 (callsIn_of_wp_marks hf n trivial ?_);refine hw code hc (c.rb (w.heap.size)) _ w ⟨H.rebase _,?_,?_,Zau _⟩ none (fun _=>rfl) _ ?_
 ·exact bwoEQ
 ·simp;omega
 intro e B c' d w' p S' E';obtain⟨he,vs,k,o⟩:=p;have out:LeavesInM Fence.wide 0 P fn d.tmps (fun e w'=>∃cv c' vs h',e=.returned cv/\Evo2 m c w c' w'/\HRel c' h' w'/\VRel c' w' (resOf vs) cv/\R vs h') d.defers .returning w':=by refine QiI (m:=m) (c0:=(c.rb (w.heap.size))) (w0:=w) (T:=B.T) (h:=B.h) (c:=c') (by rw[E'.base];simp_all) ?_ d.defers w' S'.defers S'.heap S'.tmps E';intro t H2 g E2;obtain⟨cv,r,s⟩:=Qf9 H2 g q k;exact⟨cv,r,cv,(c'.rb (c.base)),vs,B.h,rfl,E2.rebase,H2.rebase _,s.rebase _,o⟩
 rcases he with rfl|rfl;·exact out
 exact out
abbrev π0:Nat->Option Src:=fun _=>none
theorem maps0:Maps 0 π0 h:=⟨fun f b g _ a=>by simp_all,fun c b2 b g d _ _ a _=>by simp_all⟩
theorem Rn.QuW(d:noRef x=true)(hf:∀(ok:Okc)(c:Ctx ok)(w:World)(v:Value),HRel c h w->VRel c w y v->VRel (lent c) w x v):Rn 0 π0 h x y:=fun _ c w v H M i=>Zch (c:=lent c) (c':=nctx 0 π0 h c) (fun k f=>f.elim .inl fun a=>.inr ⟨a,by
 rintro(⟨b,g,base,h1,_⟩|⟨l,b,g,base,_,h1,_⟩);·omega
 simp_all⟩) _ _ d (hf _ c w v H i)
theorem PSpec.of_W2{f}(i:okFn P f sf=true)(t:args.length<=sf.n)(m:noRefs args=true)(q:noRef v=true)(hw:W2 P ⟨sf.n,0⟩ sf.body (fun e B=>(e=.normal\/e=.ret)/\∃vs,resV B.T B.h sf.res=some vs/\Rn 0 π0 B.h v (resOf vs)) ⟨argT 0 args,.e⟩):PSpec P f args v:=by
 obtain⟨_,_,_,_,_,_,_,hc⟩:=Qcn i;refine⟨m,q,.e,hc,fun c w l H m=>(Qdh (R:=fun vs k=>Rn 0 π0 k v (resOf vs)) i t hw H m).mono ?_⟩;rintro e o⟨n,d,vs,k,rfl,E,H',V,s⟩;have V':=s _ d o n H' maps0 V;have r:∀b,d.F b\/d.O b->b<o.heap.size:=fun b a=>a.elim (H'.inF b) (H'.inO b);refine⟨n,only (fun b=>d.F b\/d.O b) c.base,rfl,?_,HRel.only r,Zch (c:=nctx 0 π0 k d) (c':=only (fun b=>d.F b\/d.O b) c.base) (fun _ h=>h.elim .inl fun h=>.inr h.1) _ _ q V'⟩;refine⟨E.os,E.tape,E.output,E.size,E.shape,E.keep,fun b g p hp=>?_,fun b a=>.inl (E.frz b a),fun b a=>?_,fun b a=>a.elim,rfl⟩;·rw[H.fresh b rfl g]at hp;cases hp
 rcases a with a|a;·exact E.frzNew b a
 rcases E.own b a with h1|h1;·simp_all
 omega
theorem HSpec.of_W2{f}(a:okFn P f sf=true)(t:args.length<=sf.n)(hm:∀b,m<=b->h.get b=none)(hw:W2 P ⟨sf.n,m⟩ sf.body (fun e B=>(e=.normal\/e=.ret)/\∃vs π,resV B.T B.h sf.res=some vs/\Maps m π B.h/\RH m π B.h h'/\RD m π B.h h'/\Rn m π B.h v (resOf vs)) ⟨argT 0 args,h⟩):HSpec P f args h v h':=by
 obtain⟨_,_,_,_,_,_,_,hc⟩:=Qcn a;refine⟨hc,fun c w i H r=>(Qdh (R:=fun vs k=>∃π,Maps m π k/\RH m π k h'/\RD m π k h'/\Rn m π k v (resOf vs)) a t (hw.mono fun e B⟨h1,vs,π,o,x⟩=>⟨h1,vs,o,π,x⟩) H r).mono ?_⟩;rintro e l⟨n,d,vs,k,rfl,E,H',V,π,M,u,q,s⟩;have E2:=E.trans (QeC (m:=m) (π:=π) (h:=k) d l);refine⟨n,nctx m π k d,rfl,?_,u.hrel q M H',s _ d l n H' M V⟩;refine⟨E2.os,E2.tape,E2.output,E2.size,E2.shape,E2.keep,fun b g p hp=>?_,E2.frz,E2.frzNew,E2.own,E2.base⟩;rcases ZbG b m with h1|h1;·exact E2.rho b g p h1 hp
 rw[H.fresh b (hm b h1) g]at hp;cases hp
end Go.AM
theorem _root_.Go.AM.Zcj:type_of%@Go.AM.Rn.any:=@Go.AM.Rn.any
theorem _root_.Go.AM.Zck:type_of%@Go.AM.Rn.same:=@Go.AM.Rn.same
theorem _root_.Go.AM.Zcl:type_of%@Go.AM.RnL.same:=@Go.AM.RnL.same
namespace Go.AM
variable{P:Program}
def wpR(P:Program):Nat->List SOper->Tmps->Heap->(Tmps->Heap->Nat->Prop)->Prop|n,[],T,h,K=>K T h n|n,s::r,T,h,K=>∃v h1 f,StepV P n s T h v h1 f/\wpR P (n+1) r (putD T s.dst v) h1 K
theorem wpR.toWR:∀{r:List SOper}{n i:Nat}{T:Tmps}{h:Heap}{K:Tmps->Heap->Nat->Prop},wpR P (n+i) r T h K->WR P n i r T h fun T h=>K T h (n+i+r.length)|[],n,i,T,h,K,a=>a|s::r,n,i,T,h,K,⟨v,h1,f,c,b⟩=>by refine⟨f,v,h1,c,?_⟩;have:=wpR.toWR (i:=i+1) b;grind
def wpRF(P:Program):Nat->List SOper->Tmps->Heap->(List FP->Tmps->Heap->Nat->Prop)->Prop|n,[],T,h,K=>K [] T h n|n,s::r,T,h,K=>∃v h1 f,StepV P n s T h v h1 f/\wpRF P (n+1) r (putD T s.dst v) h1 fun fs T h n=>K (f::fs) T h n
theorem wpRF.toF:∀{r:List SOper}{n i:Nat}{T:Tmps}{h:Heap}{K:List FP->Tmps->Heap->Nat->Prop},wpRF P (n+i) r T h K->∃fs T' h',RunF P n i r fs ⟨T,h⟩ ⟨T',h'⟩/\K fs T' h' (n+i+r.length)|[],n,i,T,h,K,a=>⟨[],T,h,⟨rfl,rfl⟩,a⟩|s::r,n,i,T,h,K,⟨v,h1,f,d,c⟩=>by obtain⟨fs,T',h',b,a⟩:=wpRF.toF (i:=i+1) c;refine⟨f::fs,T',h',⟨f,fs,v,h1,rfl,d,b⟩,?_⟩;grind
abbrev QC:=SX->Tmps->Heap->Nat->Prop
def wpC(P:Program)(N:NM):SCode->Nat->Tmps->Heap->QC->Prop
 |.skip,n,T,h,Q=>Q .normal T h n|.ret,n,T,h,Q=>Q .ret T h n|.exit i,n,T,h,Q=>Q (.exit i) T h n|.bad,_,_,_,_=>False|.mloop pre x it f ok k l b2 rest body,n,T,h,Q=>W2 P N (.mloop pre x it f ok k l b2 rest body) (fun e B=>∃n,Q e B.T B.h n) ⟨T,h⟩|.rfunc g c M d body,n,T,h,Q=>W2 P N (.rfunc g c M d body) (fun e B=>∃n,Q e B.T B.h n) ⟨T,h⟩|.region ops [] dead,n,T,h,Q=>wpR P n ops T h fun T h n=>Q .normal (rm T dead) h n|.region ops (p::c) dead,n,T,h,Q=>wpRF P n ops T h fun fs T h n=>((p::c).all fun p=>(fs.getD p.1 ⟨false,[],[]⟩).apart (fs.getD p.2 ⟨false,[],[]⟩))=true/\Q .normal (rm T dead) h n|.seq a b,n,T,h,Q=>wpC P N a n T h fun e T h n=>match e with|.normal=>wpC P N b n T h Q|e=>Q e T h n
 |.cond x a b,n,T,h,Q=>∃t,ev T x=.bool t/\if t=true then wpC P N a n T h Q else wpC P N b n T h Q|.block i b,n,T,h,Q=>wpC P N b n T h fun e T h n=>match e with|.exit j=>if j=i then Q .normal T h n else Q (.exit j) T h n|e=>Q e T h n
 |.loop b,n,T,h,Q=>W2 P N (.loop b) (fun e B=>∃n,Q e B.T B.h n) ⟨T,h⟩
theorem wpC.toW{N}:∀{c:SCode}{n:Nat}{T:Tmps}{h:Heap}{Q:QC},wpC P N c n T h Q->W2 P N c (fun e B=>∃n,Q e B.T B.h n) ⟨T,h⟩
 |.skip,n,T,h,Q,d=>W2.skip ⟨n,d⟩|.ret,n,T,h,Q,d=>W2.ret ⟨n,d⟩|.exit i,n,T,h,Q,d=>W2.exit ⟨n,d⟩|.bad,_,_,_,_,d=>d.elim|.mloop ..,n,T,h,Q,d=>d|.rfunc ..,n,T,h,Q,d=>d|.region ops [] dead,n,T,h,Q,d=>by have:=wpR.toWR (i:=0) d;exact W2.of_W<|W.regionR n (this|>fun h=>by simpa using(show _ from(wr_mono h)))|.region ops (p::C) dead,n,T,h,Q,d=>by obtain⟨fs,T',A,h1,u,y⟩:=wpRF.toF (i:=0) d;exact W2.of_W<|W.regionF n fs h1 u ⟨_,y⟩|.seq a b,n,T,h,Q,d=>by simp only[wpC]at d;refine W2.seq ((wpC.toW (c:=a) d).mono ?_);rintro e B⟨k,g⟩;cases e with|normal=>exact wpC.toW g|exit i=>exact⟨k,g⟩|ret=>exact⟨k,g⟩
 |.cond x a b,n,T,h,Q,⟨t,z,d⟩=>by
  refine W2.cond z ?_ ?_;·intro e;rw[if_pos e]at d;exact wpC.toW d
  intro e;rw[if_neg (by simp[e])]at d;exact wpC.toW d|.block i b,n,T,h,Q,d=>by simp only[wpC]at d;refine W2.block ((wpC.toW (c:=b) d).mono ?_);rintro e B⟨k,g⟩;cases e with|normal=>exact⟨k,g⟩|ret=>exact⟨k,g⟩|exit j=>
   simp only at g⊢;split;·rename_i e;rw[if_pos e]at g;exact⟨k,g⟩
   rename_i e;rw[if_neg e]at g;exact⟨k,g⟩
 |.loop b,n,T,h,Q,d=>d where
 wr_mono{ops:List SOper}{n:Nat}{T:Tmps}{h:Heap}{dead:List Nat}{Q:QC}{m:Nat}(d:WR P n 0 ops T h fun T h=>Q .normal (rm T dead) h m):WR P n 0 ops T h fun T h=>∃n,Q .normal (rm T dead) h n:=by
  have:∀{r:List SOper}{i:Nat}{T:Tmps}{h:Heap}{K K':Tmps->Heap->Prop},WR P n i r T h K->(∀T h,K T h->K' T h)->WR P n i r T h K':=by intro r;induction r with|nil=>intro i T h K K' d l;exact l _ _ d|cons s r w=>intro i T h K K'⟨f,v,h1,q,o⟩l;exact⟨f,v,h1,q,w o l⟩
  exact this d fun T h g=>⟨m,g⟩
end Go.AM
namespace Go.AM
variable{P:Program}
variable{v:AV}{neg t w:Bool}{h h1:Heap}{n:Int}{a:List (Nat×Nat×Opd)}{args cs vs z:List AV}{ks:List LK}{dead:List Nat}{xs:List Opd}{ops:List SOper}{N:NM}{f g i m off:Nat}{F:Nat->Prop}{x y:Opd}{o:Option AV}{k:Option Nat}{c:Prop}{b:SCode}{sf:SFn}{Q:SX->St->Prop}{s:Site}{L T:Tmps}
inductive Fr where|sq(b:SCode)|blk(i:Nat)
def ct(P:Program)(N:NM):List Fr->QC->QC
 |[],Q=>Q|.sq b::fs,Q=>fun e T h n=>match e with|.normal=>wpC P N b n T h (ct P N fs Q)|e=>ct P N fs Q e T h n
 |.blk i::fs,Q=>fun e T h n=>match e with|.exit j=>if j=i then ct P N fs Q .normal T h n else ct P N fs Q (.exit j) T h n|e=>ct P N fs Q e T h n
def wS(P:Program)(N:NM)(c:SCode)(fs:List Fr)(n:Nat)(T:Tmps)(h:Heap)(Q:QC):Prop:=wpC P N c n T h (ct P N fs Q)
def wR(P:Program)(N:NM)(ops:List SOper)(dead:List Nat)(fs:List Fr)(n:Nat)(T:Tmps)(h:Heap)(Q:QC):Prop:=wpR P n ops T h fun T h n=>ct P N fs Q .normal (rm T dead) h n
def wX(P:Program)(N:NM)(e:SX)(fs:List Fr)(n:Nat)(T:Tmps)(h:Heap)(Q:QC):Prop:=ct P N fs Q e T h n
def wO(P:Program)(N:NM)(o:Option AV)(d:Option Nat)(ops:List SOper)(dead:List Nat)(fs:List Fr)(n:Nat)(T:Tmps)(h:Heap)(Q:QC):Prop:=∃v,o=some v/\wR P N ops dead fs (n+1) (putD T d v) h Q
def wM(P:Program)(N:NM)(m:HM AV)(d:Option Nat)(ops:List SOper)(dead:List Nat)(fs:List Fr)(n:Nat)(T:Tmps)(h:Heap)(Q:QC):Prop:=∃v h1,m.run h=some (v,h1)/\wR P N ops dead fs (n+1) (putD T d v) h1 Q
def wG(P:Program)(N:NM)(o:Option Bool)(d:Option Nat)(op:SOp)(ops:List SOper)(dead:List Nat)(fs:List Fr)(n:Nat)(T:Tmps)(h:Heap)(Q:QC):Prop:=match o with|some true=>wR P N (⟨d,op,[],none⟩::ops) dead fs n T h Q|some false=>wR P N ops dead fs (n+1) (putD T d (.tup [])) h Q|none=>False
def wC(P:Program)(N:NM)(x:AV)(a b:SCode)(fs:List Fr)(n:Nat)(T:Tmps)(h:Heap)(Q:QC):Prop:=∃t,x=.bool t/\if t=true then wS P N a fs n T h Q else wS P N b fs n T h Q
def wCall(P:Program)(N:NM)(m:CallM)(x:AV)(args:List AV)(d:Option Nat)(ops:List SOper)(dead:List Nat)(fs:List Fr)(n:Nat)(T:Tmps)(h:Heap)(Q:QC):Prop:=match x with
 |.fn f a c=>match m with|.pure=>∃v,PSpec P f (a++args++c) v/\wR P N ops dead fs (n+1) (putD T d v) h Q|.heap=>∃v h1,HSpec P f (a++args++c) h v h1/\wR P N ops dead fs (n+1) (putD T d v) h1 Q|.borrow=>∃i h1 v,(mapH (frzH 4) (a++args++c)).run h=some (i,h1)/\PSpec P f i v/\flatV v=true/\wR P N ops dead fs (n+1) (putD T d v) h1 Q
 |.yld b g=>match m with|.heap=>∃v h1,RSpec P b g args h v h1/\wR P N ops dead fs (n+1) (putD T d v) h1 Q|_=>False
 |_=>False
section
variable{N:NM}{n:Nat}{T:Tmps}{h:Heap}{Q:QC}{fs:List Fr}
theorem Qok:wS P N .skip fs n T h Q=wX P N .normal fs n T h Q:=rfl
theorem Qqx:wS P N .ret fs n T h Q=wX P N .ret fs n T h Q:=rfl
theorem Qol:wS P N (.exit i) fs n T h Q=wX P N (.exit i) fs n T h Q:=rfl
theorem Qks:wS P N (.region ops [] dead) fs n T h Q=wR P N ops dead fs n T h Q:=rfl
theorem Qqy{a}:wS P N (.seq a b) fs n T h Q=wS P N a (.sq b::fs) n T h Q:=rfl
theorem Qom{a}:wS P N (.cond x a b) fs n T h Q=wC P N (ev T x) a b fs n T h Q:=rfl
theorem Qma:wS P N (.block i b) fs n T h Q=wS P N b (.blk i::fs) n T h Q:=rfl
theorem Qon{a}:wC P N (.bool true) a b fs n T h Q=wS P N a fs n T h Q:=by simp[wC]
theorem Qmb{a}:wC P N (.bool false) a b fs n T h Q=wS P N b fs n T h Q:=by simp[wC]
theorem Qoo{a}:wC P N (.bool t) a b fs n T h Q=if t=true then wS P N a fs n T h Q else wS P N b fs n T h Q:=by simp_all[wC]
theorem Qqz{e}:wX P N e [] n T h Q=Q e T h n:=rfl
theorem wX_sq:wX P N .normal (.sq b::fs) n T h Q=wS P N b fs n T h Q:=rfl
theorem Qkt:wX P N .ret (.sq b::fs) n T h Q=wX P N .ret fs n T h Q:=rfl
theorem QiJ:wX P N (.exit i) (.sq b::fs) n T h Q=wX P N (.exit i) fs n T h Q:=rfl
theorem QqA:wX P N .normal (.blk i::fs) n T h Q=wX P N .normal fs n T h Q:=rfl
theorem QiK:wX P N .ret (.blk i::fs) n T h Q=wX P N .ret fs n T h Q:=rfl
theorem Qhq{j}:wX P N (.exit j) (.blk i::fs) n T h Q=if j=i then wX P N .normal fs n T h Q else wX P N (.exit j) fs n T h Q:=rfl
end
theorem ev_t(T)(i):ev T (.t i)=lk T i:=rfl
theorem ev_c(T)(v):ev T (.c v)=v:=rfl
theorem ev_f(T)(n):ev T (.f n)=.fn n [] []:=rfl
theorem QqB(i):lk [] i=.any:=rfl
theorem Qa3(j)(v)(r:Tmps)(i):lk ((j,v)::r) i=if j=i then v else lk r i:=by simp_all[lk]
theorem QjF(j)(u)(r:Tmps)(i)(v):up ((j,u)::r) i v=if j=i then(j,v)::r else(j,u)::up r i v:=by simp_all[up]
theorem QqC(i)(v):up [] i v=[(i,v)]:=rfl
theorem QqD(l):rm [] l=[]:=rfl
theorem rm_no(T):rm T []=T:=by induction T with|nil=>rfl|cons p T a=>obtain⟨j,u⟩:=p;simp[rm,a]
theorem Qop(j)(u)(r:Tmps)(l):rm ((j,u)::r) l=if l.elem j=true then rm r l else(j,u)::rm r l:=by simp_all[rm]
theorem Qku(T)(d)(v):putD T (some d) v=up T d v:=rfl
theorem Qkv(T)(v):putD T none v=T:=rfl
theorem Qmc(k):argT k []=[]:=rfl
theorem Qkw(k)(x)(xs):argT k (x::xs)=(k,x)::argT (k+1) xs:=rfl
theorem Qoq(T):evs T []=[]:=rfl
theorem Qmd(T)(x)(r):evs T (x::r)=ev T x::evs T r:=rfl
theorem Qme(T):evo T none=none:=rfl
theorem Qmf(T)(x):evo T (some x)=some (ev T x):=rfl
theorem Qhr(T):evParts T []=[]:=rfl
theorem Qgt(T)(a b)(x)(r):evParts T ((a,b,x)::r)=(a,b,ev T x)::evParts T r:=rfl
section
variable{N:NM}{n:Nat}{d:Option Nat}{af dead:List Nat}{r:List SOper}{T:Tmps}{h:Heap}{Q:QC}{fs:List Fr}
theorem QqE:wR P N [] dead fs n T h Q=wX P N .normal fs n (rm T dead) h Q:=rfl
theorem Qmg{op}:wR P N (⟨d,op,af,some (g,w)⟩::r) dead fs n T h Q=wG P N (wantedA (lk T g) w) d op r dead fs n T h Q:=by
 apply propext;unfold wG;constructor;·rintro⟨v,h1,f,⟨b,hw,hb⟩,hk⟩;rw[hw];cases b with|true=>rw[if_pos rfl]at hb;exact⟨v,h1,f,hb,hk⟩|false=>rw[if_neg (by simp)]at hb;obtain⟨rfl,rfl,rfl⟩:=hb;exact hk
 ·intro hk;cases hw:wantedA (lk T g) w with|none=>rw[hw]at hk;exact hk.elim|some b=>rw[hw]at hk;cases b with|true=>obtain⟨v,h1,f,hs,hk⟩:=hk;exact⟨v,h1,f,⟨true,hw,by rw[if_pos rfl];exact hs⟩,hk⟩|false=>exact⟨.tup [],h,⟨false,[],[]⟩,⟨false,hw,by simp⟩,hk⟩
theorem Qor{b}{op}:wG P N (wantedA (.bool b) w) d op r dead fs n T h Q=if b=w then wR P N (⟨d,op,[],none⟩::r) dead fs n T h Q else wR P N r dead fs (n+1) (putD T d (.tup [])) h Q:=by grind[wG,wantedA]
theorem Qos{op}:wG P N (wantedA (.tup []) w) d op r dead fs n T h Q=wR P N r dead fs (n+1) (putD T d (.tup [])) h Q:=by simp[wG,wantedA]
theorem Qbo{op}(e:aop n T op=lift o):wR P N (⟨d,op,af,none⟩::r) dead fs n T h Q=wO P N o d r dead fs n T h Q:=by
 apply propext;constructor;·rintro⟨v,h1,f,⟨out,g,hm,ho⟩,a⟩;rw[e]at hm;obtain⟨u,c,he⟩:=QaV hm;cases he;obtain⟨rfl,rfl,_⟩:=ho;exact⟨_,c,a⟩
 rintro⟨v,b,a⟩;refine⟨v,h,_,⟨.val v,h,?_,rfl,rfl,rfl⟩,a⟩;rw[e,b];rfl
theorem run_hval':∀(m:HM AV)(h:Heap),m.run h=some (v,h1)->(hval m).run h=some (.val v,h1):=by intro m;induction m with|ret a=>intro h hm;simp only[HM.run,Zaa,Zal]at hm;obtain⟨rfl,rfl⟩:=hm;rfl|fail=>intro h hm;simp[HM.run]at hm|look b k d=>intro h hm;exact d _ h hm|put b x k d=>
 intro h hm;obtain⟨f,hm⟩:=Qa2 hm;have:=d _ hm;simp only[hval,HM.bind,HM.run];have c:Nat.blt b lim=true:=by simp_all
 rw[c];exact this
theorem QbH{op}{m}(e:aop n T op=hval m):wR P N (⟨d,op,af,none⟩::r) dead fs n T h Q=wM P N m d r dead fs n T h Q:=by
 apply propext;constructor;·rintro⟨v,h1,f,⟨out,c,hm,ho⟩,a⟩;rw[e]at hm;obtain⟨u,g,b,he⟩:=QaS hm;cases he;obtain⟨rfl,rfl,_⟩:=ho;exact⟨_,_,b,a⟩
 rintro⟨v,h1,i,a⟩;exact⟨v,h1,_,⟨.val v,h1,by grind[run_hval'],rfl,rfl,rfl⟩,a⟩
theorem QqF:wR P N (⟨d,.mov x,af,none⟩::r) dead fs n T h Q=wR P N r dead fs (n+1) (putD T d (ev T x)) h Q:=by rw[Qbo (o:=some (ev T x)) rfl];simp[wO]
theorem Qot{ys}:wR P N (⟨d,.mkfn f xs ys,af,none⟩::r) dead fs n T h Q=wR P N r dead fs (n+1) (putD T d (.fn f (evs T xs) (evs T ys))) h Q:=by rw[Qbo (o:=some (.fn f (evs T xs) (evs T ys))) rfl];simp[wO]
theorem Qou{c a b}:wR P N (⟨d,.pick c a b,af,none⟩::r) dead fs n T h Q=wO P N (aPick (ev T c) (ev T a) (ev T b)) d r dead fs n T h Q:=Qbo rfl
theorem Qmh:wR P N (⟨d,.build z a,af,none⟩::r) dead fs n T h Q=wO P N (aBuild z (evParts T a)) d r dead fs n T h Q:=Qbo rfl
theorem Qkx:wR P N (⟨d,.nilchk x,af,none⟩::r) dead fs n T h Q=wO P N (aNil (ev T x)) d r dead fs n T h Q:=Qbo rfl
theorem QqG{op}:wR P N (⟨d,.bin op x y,af,none⟩::r) dead fs n T h Q=wO P N (aBin op (ev T x) (ev T y)) d r dead fs n T h Q:=Qbo rfl
theorem wR_eq{k}:wR P N (⟨d,.eq k neg x y,af,none⟩::r) dead fs n T h Q=wO P N (aEq k neg (ev T x) (ev T y)) d r dead fs n T h Q:=Qbo rfl
theorem QqH:wR P N (⟨d,.eqn neg x,af,none⟩::r) dead fs n T h Q=wM P N (aEqN neg (ev T x)) d r dead fs n T h Q:=QbH rfl
theorem QiL{sz bytes}{zero}:wR P N (⟨d,.appendZ s sz bytes zero x y,af,none⟩::r) dead fs n T h Q=wM P N (aAppendZ s n sz bytes zero (ev T x) (ev T y)) d r dead fs n T h Q:=QbH rfl
theorem Qmi{sz bytes}{zero}:wR P N (⟨d,.clear sz bytes zero x,af,none⟩::r) dead fs n T h Q=wM P N (aClear sz zero (ev T x)) d r dead fs n T h Q:=QbH rfl
theorem QqI:wR P N (⟨d,.cap x,af,none⟩::r) dead fs n T h Q=wO P N (aCap (ev T x)) d r dead fs n T h Q:=Qbo rfl
theorem wR_un{op}:wR P N (⟨d,.un op x,af,none⟩::r) dead fs n T h Q=wO P N (aUn op (ev T x)) d r dead fs n T h Q:=Qbo rfl
theorem Qov{k}:wR P N (⟨d,.conv k x,af,none⟩::r) dead fs n T h Q=wO P N (aConv k (ev T x)) d r dead fs n T h Q:=Qbo rfl
theorem QeD:wR P N (⟨d,.convS x,af,none⟩::r) dead fs n T h Q=wO P N (aConvS (ev T x)) d r dead fs n T h Q:=Qbo rfl
theorem QsF:wR P N (⟨d,.convB x,af,none⟩::r) dead fs n T h Q=wM P N (aConvB (ev T x)) d r dead fs n T h Q:=QbH rfl
theorem Qmj{sz}{l a m}:wR P N (⟨d,.slice sz x l a m,af,none⟩::r) dead fs n T h Q=wO P N (aSliceC sz (ev T x) (evo T l) (evo T a) (evo T m)) d r dead fs n T h Q:=Qbo rfl
theorem Qmk{o}:wR P N (⟨d,.faddr o x,af,none⟩::r) dead fs n T h Q=wO P N (aFAddr o (ev T x)) d r dead fs n T h Q:=Qbo rfl
theorem Qml{o}:wR P N (⟨d,.field k o x,af,none⟩::r) dead fs n T h Q=wO P N (aField k o (ev T x)) d r dead fs n T h Q:=Qbo rfl
theorem Qmm{a}{sz}{j}:wR P N (⟨d,.iaddr a sz x j,af,none⟩::r) dead fs n T h Q=wO P N (aIAddr a sz (ev T x) (ev T j)) d r dead fs n T h Q:=Qbo rfl
theorem Qmn{a}{j}:wR P N (⟨d,.index a x j,af,none⟩::r) dead fs n T h Q=wO P N (aIndex a (ev T x) (ev T j)) d r dead fs n T h Q:=Qbo rfl
theorem QiM{j}:wR P N (⟨d,.extract j x,af,none⟩::r) dead fs n T h Q=wO P N (aExtract j (ev T x)) d r dead fs n T h Q:=Qbo rfl
theorem Qky{mn}:wR P N (⟨d,.maxmin mn xs,af,none⟩::r) dead fs n T h Q=wO P N (aMax mn (evs T xs)) d r dead fs n T h Q:=Qbo rfl
theorem Qmo{z}:wR P N (⟨d,.alloc s z,af,none⟩::r) dead fs n T h Q=wM P N (aBox s n z) d r dead fs n T h Q:=QbH rfl
theorem QqJ:wR P N (⟨d,.box s x,af,none⟩::r) dead fs n T h Q=wM P N (aBox s n (ev T x)) d r dead fs n T h Q:=QbH rfl
theorem Qkz{fz}{sz len}:wR P N (⟨d,.bslice fz s sz len z a,af,none⟩::r) dead fs n T h Q=wM P N (aBuildSlice fz s n sz len z (evParts T a)) d r dead fs n T h Q:=QbH rfl
theorem Qow:wR P N (⟨d,.load k x,af,none⟩::r) dead fs n T h Q=wM P N (aLoad k (ev T x)) d r dead fs n T h Q:=QbH rfl
theorem Qmp{k}{v}:wR P N (⟨d,.store k x v,af,none⟩::r) dead fs n T h Q=wM P N (aStore k (ev T x) (ev T v)) d r dead fs n T h Q:=QbH rfl
theorem Qmq:wR P N (⟨d,.mkmap s,af,none⟩::r) dead fs n T h Q=wM P N (aMakeMap s n) d r dead fs n T h Q:=QbH rfl
theorem QiN{sz b}{l c}:wR P N (⟨d,.mkslice s sz b z l c,af,none⟩::r) dead fs n T h Q=wM P N (aMakeSlice s n sz b z (ev T l) (ev T c)) d r dead fs n T h Q:=QbH rfl
theorem QkA{row}{z}{ok}{k}:wR P N (⟨d,.lookup row ks z ok x k,af,none⟩::r) dead fs n T h Q=wM P N (aLookup row ks z ok (ev T x) (ev T k)) d r dead fs n T h Q:=QbH rfl
theorem Qox{row}{k v}:wR P N (⟨d,.mupd row ks x k v,af,none⟩::r) dead fs n T h Q=wM P N (aMapUpd row ks (ev T x) (ev T k) (ev T v)) d r dead fs n T h Q:=QbH rfl
theorem QqK{k}:wR P N (⟨d,.len k x,af,none⟩::r) dead fs n T h Q=wM P N (aLenC k (ev T x)) d r dead fs n T h Q:=QbH rfl
theorem QkB{sz b}:wR P N (⟨d,.append s sz b x y,af,none⟩::r) dead fs n T h Q=wM P N (aAppend s n sz b (ev T x) (ev T y)) d r dead fs n T h Q:=QbH rfl
theorem Qoy{sz}:wR P N (⟨d,.copy sz x y,af,none⟩::r) dead fs n T h Q=wM P N (aCopy sz (ev T x) (ev T y)) d r dead fs n T h Q:=QbH rfl
theorem Qoz{m}{args}:wR P N (⟨d,.call m x args,af,none⟩::r) dead fs n T h Q=wCall P N m (ev T x) (evs T args) d r dead fs n T h Q:=by
 apply propext;have e:aop n T (.call m x args)=aCall m (ev T x) (evs T args):=rfl;constructor
 ·rintro⟨v,h1,f,⟨out,h2,hm,ho⟩,hk⟩;rw[e]at hm;unfold aCall at hm;unfold wCall;cases hx:ev T x<;>rw[hx]at hm<;>first|(simp[HM.run]at hm;done)|skip
  rotate_left;·cases m<;>simp only[HM.run,Zaa,Zal,reduceCtorEq]at hm;obtain⟨rfl,rfl⟩:=hm;exact⟨_,_,ho.1,hk⟩
  simp only at hm;rename_i g a c;cases m
  ·simp only[HM.run,Zaa,Zal]at hm;obtain⟨rfl,rfl⟩:=hm;rcases ho with⟨ho,_⟩|⟨b,y,xs,hg,hb,rfl,_⟩|ho|ho;·exact⟨_,_,ho,hk⟩
   ·exact⟨_,_,hg.heap hb,hk⟩
   ·exact⟨_,_,ho.heap,hk⟩
   ·exact⟨_,_,ho.heap,hk⟩
  ·simp only[HM.run,Zaa,Zal]at hm;obtain⟨rfl,rfl⟩:=hm;obtain⟨hp,rfl,_⟩:=ho;exact⟨_,hp,hk⟩
  ·obtain⟨asg,h3,k1,k2⟩:=run_bind hm;simp only[HM.run,Zaa,Zal]at k2;obtain⟨rfl,rfl⟩:=k2;obtain⟨hp,hf,rfl,_⟩:=ho;exact⟨_,_,_,k1,hp,hf,hk⟩
 ·intro hk;unfold wCall at hk;cases hx:ev T x<;>rw[hx]at hk<;>first|exact hk.elim|skip
  rotate_left
  ·rename_i b g;cases m;·obtain⟨v,h1,hs,hk⟩:=hk;exact⟨v,h1,_,⟨.round b g (evs T args),h,by rw[e,hx];rfl,hs,rfl⟩,hk⟩
   ·exact hk.elim
   simp_all
  rename_i g a c;cases m;·obtain⟨v,h1,hs,hk⟩:=hk;exact⟨v,h1,_,⟨.call .heap g (a++evs T args++c),h,by rw[e,hx];rfl,.inl ⟨hs,rfl⟩⟩,hk⟩
  ·obtain⟨v,hs,hk⟩:=hk;exact⟨v,h,_,⟨.call .pure g (a++evs T args++c),h,by rw[e,hx];rfl,hs,rfl,rfl⟩,hk⟩
  ·obtain⟨asg,h1,v,hm,hs,hf,hk⟩:=hk;refine⟨v,h1,_,⟨.call .borrow g asg,h1,?_,hs,hf,rfl,rfl⟩,hk⟩;rw[e,hx];have:∀(m:HM (List AV))(h:Heap)(k:List AV->AOut),m.run h=some (asg,h1)->(m.bind fun asg=>.ret (k asg)).run h=some (k asg,h1):=by intro m;induction m with|ret a=>intro h k hm;simp only[HM.run,Zaa,Zal]at hm;obtain⟨rfl,rfl⟩:=hm;rfl|fail=>intro h k hm;simp[HM.run]at hm|look b k' ih=>intro h k hm;exact ih _ h k hm|put b x k' ih=>
    exact bW6FO
   exact this _ h (fun asg=>.call .borrow g asg) hm
theorem Qek:wO P N (some v) d r dead fs n T h Q=wR P N r dead fs (n+1) (putD T d v) h Q:=by simp[wO]
theorem QoA:wO P N none d r dead fs n T h Q=False:=by simp[wO]
theorem Qmr[Decidable c]{a b}(hc:c):wO P N (if c then a else b) d r dead fs n T h Q=wO P N a d r dead fs n T h Q:=by rw[if_pos hc]
theorem QqL[Decidable c]{a b}(hc:¬c):wO P N (if c then a else b) d r dead fs n T h Q=wO P N b d r dead fs n T h Q:=by rw[if_neg hc]
theorem QuX[Decidable c]{a}:wO P N (if c then a else none) d r dead fs n T h Q=(c/\wO P N a d r dead fs n T h Q):=by grind[QoA]
theorem cp(hp:PSpec P f args v)(k:wR P N r dead fs (n+1) (putD T d v) h Q):wCall P N .pure (.fn f [] []) args d r dead fs n T h Q:=⟨v,by simpa using hp,k⟩
theorem ch(hp:HSpec P f args h v h1)(k:wR P N r dead fs (n+1) (putD T d v) h1 Q):wCall P N .heap (.fn f [] []) args d r dead fs n T h Q:=⟨v,h1,by simpa using hp,k⟩
def ldB(o:Option Blk)(g off:Nat)(m:Option Nat):Option AV:=match o with|some (.cells a cs)=>if a=g then(match m with|none=>cs[off]?|some m=>if off+m<=cs.length then some (.agg ((cs.drop off).take m))else none)else none|_=>none
def stB(o:Option Blk)(g off m:Nat)(v:AV):Option Blk:=match o with|some (.cells a cs)=>if a=g/\v.cells.length=m/\off+m<=cs.length/\v.cells.all AV.one=true then some (.cells g (putR cs off v.cells))else none|_=>none
def wB(P:Program)(N:NM)(o:Option Blk)(b:Nat)(v:AV)(d:Option Nat)(ops:List SOper)(dead:List Nat)(fs:List Fr)(n:Nat)(T:Tmps)(h:Heap)(Q:QC):Prop:=∃x,o=some x/\b<lim/\wR P N ops dead fs (n+1) (putD T d v) (h.set b x) Q
def wN(P:Program)(N:NM)(x:List AV)(v:AV)(d:Option Nat)(ops:List SOper)(dead:List Nat)(fs:List Fr)(n:Nat)(T:Tmps)(h:Heap)(Q:QC):Prop:=h.get n=none/\n<lim/\wR P N ops dead fs (n+1) (putD T d v) (h.set n (.cells 0 x)) Q
theorem QcD:wM P N (.ret v) d r dead fs n T h Q=wR P N r dead fs (n+1) (putD T d v) h Q:=by
 apply propext;constructor;·rintro⟨v',h1,hm,k⟩;simp only[HM.run,Zaa,Zal]at hm;simp_all
 ·intro k;exact⟨v,h,rfl,k⟩
theorem Qel:wM P N .fail d r dead fs n T h Q=False:=by simp[wM,HM.run]
theorem Qms:wM P N (.opt o) d r dead fs n T h Q=wO P N o d r dead fs n T h Q:=by cases o with|none=>simp[HM.opt,Qel,QoA]|some v=>simp[HM.opt,QcD,Qek]
theorem QcS[Decidable c]{m}:wM P N (if c then m else .fail) d r dead fs n T h Q=(c/\wM P N m d r dead fs n T h Q):=by grind[Qel]
theorem QeE{b}{x}:wM P N (.put b x (.ret v)) d r dead fs n T h Q=wB P N (some x) b v d r dead fs n T h Q:=by
 apply propext;constructor;·rintro⟨i,h1,hm,k⟩;obtain⟨c,hm⟩:=Qa2 hm;simp only[HM.run,Zaa,Zal]at hm;obtain⟨rfl,rfl⟩:=hm;exact⟨x,rfl,c,k⟩
 rintro⟨g,f,c,k⟩;cases f;refine⟨v,_,?_,k⟩;simp only[HM.run];have a:Nat.blt b lim=true:=by simp_all
 rw[a];rfl
theorem Qfh{x}{b}(a:b<lim):wB P N (some x) b v d r dead fs n T h Q=wR P N r dead fs (n+1) (putD T d v) (h.set b x) Q:=by simp[wB,a]
theorem QcE{b}{k}:wM P N (.cells b g k) d r dead fs n T h Q=∃cs,h.get b=some (.cells g cs)/\wM P N (k cs) d r dead fs n T h Q:=by
 apply propext;constructor;·rintro⟨a,h1,hm,c⟩;obtain⟨cs,f,hm⟩:=Qbg hm;exact⟨cs,f,a,h1,hm,c⟩
 rintro⟨cs,f,a,h1,hm,c⟩;refine⟨a,h1,?_,c⟩;simp_all[HM.cells,HM.run]
theorem QkC{a}:ldB (some (.cells a cs)) g off none=if a=g then cs[off]? else none:=rfl
theorem QkD{a}:ldB (some (.cells a cs)) g off (some m)=if a=g then(if off+m<=cs.length then some (.agg ((cs.drop off).take m))else none)else none:=rfl
theorem QkE{m}{b}:wM P N (aLoad m (.ptr b g off)) d r dead fs n T h Q=wO P N (ldB (h.get b) g off m) d r dead fs n T h Q:=by
 simp only[aLoad,QcE];apply propext;constructor;·rintro⟨cs,f,c⟩;rw[f];cases m with|none=>simpa[ldB,Qms]using c|some m=>simp only[QcS,QcD]at c;simp only[ldB,if_true];rw[Qmr c.1,Qek];exact c.2
 rintro⟨v,a,c⟩;unfold ldB at a;split at a
 ·rename_i i cs f;split at a;·rename_i e;subst e;refine⟨cs,f,?_⟩;cases m with|none=>simp only at a;simp only[Qms,a,Qek];exact c|some m=>
   simp only at a;split at a;·simp_all[QcD]
   cases a
  cases a
 cases a
theorem Qhs:wM P N (aLoad none (.fptr cs)) d r dead fs n T h Q=wO P N cs.head? d r dead fs n T h Q:=by simp only[aLoad,Qms]
theorem Qht:wM P N (aLoad (some m) (.fptr cs)) d r dead fs n T h Q=wO P N (if m<=cs.length then some (.agg (cs.take m))else none) d r dead fs n T h Q:=by simp only[aLoad,QcS,QcD,QuX,Qek]
theorem Qh7{a}:stB (some (.cells a cs)) g off m v=if a=g/\v.cells.length=m/\off+m<=cs.length/\v.cells.all AV.one=true then some (.cells g (putR cs off v.cells))else none:=rfl
theorem QiO{b}:wM P N (aStore m (.ptr b g off) v) d r dead fs n T h Q=wB P N (stB (h.get b) g off m v) b .any d r dead fs n T h Q:=by
 simp only[aStore,QcE];apply propext;constructor;·rintro⟨cs,f,c⟩;simp only[QcS,QeE]at c;rw[f,Qh7,if_pos ⟨rfl,c.1⟩];exact c.2
 rintro⟨x,a,i,c⟩;unfold stB at a;split at a
 ·rename_i k cs f;split at a;·rename_i e;obtain⟨rfl,e⟩:=e;cases a;refine⟨cs,f,?_⟩;simp only[QcS,QeE];exact⟨e,_,rfl,i,c⟩
  cases a
 cases a
theorem QsG{x}(g:x.boxable=true):wM P N (aBox .dyn n x) d r dead fs n T h Q=wN P N x.cells (.ptr n 0 0) d r dead fs n T h Q:=by
 simp only[aBox,if_pos g];apply propext;constructor;·rintro⟨i,h1,hm,b⟩;unfold HM.new at hm;simp only[HM.run]at hm;cases a:h.get n with|none=>rw[a]at hm;obtain⟨f,hm⟩:=Qa2 hm;simp only[HM.run,Zaa,Zal]at hm;obtain⟨rfl,rfl⟩:=hm;exact⟨a,f,b⟩|some z=>rw[a]at hm;cases hm
 rintro⟨a,f,b⟩;refine⟨_,_,?_,b⟩;unfold HM.new;simp only[HM.run,a];have c:Nat.blt n lim=true:=by simp_all
 rw[c];rfl
theorem QuY{x}(b:h.get n=none)(a:n<lim):wN P N x v d r dead fs n T h Q=wR P N r dead fs (n+1) (putD T d v) (h.set n (.cells 0 x)) Q:=by grind[wN]
theorem QkF{s}:wM P N (aLenC 0 (.str s)) d r dead fs n T h Q=wR P N r dead fs (n+1) (putD T d (.int .i64 s.length)) h Q:=by simp[aLenC,lenKind,aLen,QcD]
theorem Qmt{b len sz}:wM P N (aLenC 1 (.sl b g off len sz)) d r dead fs n T h Q=wR P N r dead fs (n+1) (putD T d (.int .i64 len)) h Q:=by simp[aLenC,lenKind,aLen,QcD]
theorem QkG{len sz}:wM P N (aLenC 1 (.fsl cs len sz)) d r dead fs n T h Q=wR P N r dead fs (n+1) (putD T d (.int .i64 len)) h Q:=by simp[aLenC,lenKind,aLen,QcD]
theorem Qhu:wM P N (aLenC 1 .nilsl) d r dead fs n T h Q=wR P N r dead fs (n+1) (putD T d (.int .i64 0)) h Q:=by simp[aLenC,lenKind,aLen,QcD]
theorem QkH:wM P N (aLenC 1 .esl) d r dead fs n T h Q=wR P N r dead fs (n+1) (putD T d (.int .i64 0)) h Q:=by simp[aLenC,lenKind,aLen,QcD]
end
section
variable{k:IntKind}{a b:Int}
theorem Qh8:aBin .add (.int k a) (.int k b)=some (.int k (wr k (a+b))):=by simp[aBin]
theorem Qh9:aBin .sub (.int k a) (.int k b)=some (.int k (wr k (a-b))):=by simp[aBin]
theorem Qia:aBin .mul (.int k a) (.int k b)=some (.int k (wr k (a*b))):=by simp[aBin]
theorem Qmu:aBin .quo (.int k a) (.int k b)=if b=0 then none else some (.int k (wr k (a.tdiv b))):=by simp[aBin]
theorem Qmv:aBin .rem (.int k a) (.int k b)=if b=0 then none else some (.int k (a.tmod b)):=by simp[aBin]
theorem QeF:aBin .eql (.int k a) (.int k b)=some (.bool (decide (a=b))):=by simp[aBin]
theorem QeG:aBin .neq (.int k a) (.int k b)=some (.bool (!decide (a=b))):=by simp[aBin]
theorem QeH:aBin .lss (.int k a) (.int k b)=some (.bool (decide (a<b))):=by simp[aBin]
theorem QeI:aBin .leq (.int k a) (.int k b)=some (.bool (decide (a<=b))):=by simp[aBin]
theorem QeJ:aBin .gtr (.int k a) (.int k b)=some (.bool (decide (b<a))):=by simp[aBin]
theorem QeK:aBin .geq (.int k a) (.int k b)=some (.bool (decide (b<=a))):=by simp[aBin]
theorem QoB{b}:aUn .not (.bool b)=some (.bool (!b)):=rfl
theorem QoC:aUn .neg (.int k a)=some (.int k (wr k (0-a))):=rfl
theorem Qgu{b}:aConv k (.int b a)=some (.int k (wr k a)):=rfl
theorem QiP{x y}:aPick (.bool t) x y=some (if t then x else y):=rfl
theorem QiQ{x y}:aPick (.bool true) x y=some x:=rfl
theorem Qhv{x y}:aPick (.bool false) x y=some y:=rfl
theorem Qgv{j}:aExtract j (.tup vs)=vs[j]?:=rfl
theorem Qmw:(v::vs)[0]?=some v:=rfl
theorem Qmx{j}:(v::vs)[j+1]?=vs[j]?:=rfl
theorem Qgw(h1:-9223372036854775808<=n)(a:n<=9223372036854775807):wr .i64 n=n:=wr_of h1 a
theorem QqM(h1:0<=n)(a:n<=18446744073709551615):wr .u64 n=n:=wr_of h1 a
theorem wr_u8(h1:0<=n)(a:n<=255):wr .u8 n=n:=wr_of h1 a
theorem QqN(h1:0<=n)(a:n<=65535):wr .u16 n=n:=wr_of h1 a
theorem QqO(h1:0<=n)(a:n<=4294967295):wr .u32 n=n:=wr_of h1 a
theorem QqP(h1:-2147483648<=n)(a:n<=2147483647):wr .i32 n=n:=wr_of h1 a
theorem QiR{sz len s}:aIAddr none sz (.fsl cs len s) (.int k a)=if 0<=a/\a<len/\s=sz then some (.fptr (cs.drop (a.toNat*sz)))else none:=rfl
theorem QkI{sz len s b}:aIAddr none sz (.sl b g off len s) (.int k a)=if 0<=a/\a<len/\s=sz then some (.ptr b g (off+a.toNat*sz))else none:=rfl
theorem QiS{sz b}:aIAddr (some m) sz (.ptr b g off) (.int k a)=if 0<=a/\a<m then some (.ptr b g (off+a.toNat*sz))else none:=rfl
theorem Qhw{sz}:aIAddr (some m) sz (.fptr cs) (.int k a)=if 0<=a/\a<m then some (.fptr (cs.drop (a.toNat*sz)))else none:=rfl
theorem QiT{o b}:aFAddr off (.ptr b g o)=some (.ptr b g (o+off)):=rfl
theorem Qhx:aFAddr off (.fptr cs)=some (.fptr (cs.drop off)):=rfl
theorem QiU{sz}:aIndex (some (m,sz,false)) (.agg cs) (.int k a)=if 0<=a/\a<m then cs[a.toNat*sz]? else none:=by simp[aIndex]
theorem Qhy:aField none off (.agg cs)=cs[off]?:=rfl
theorem Qhz:aField (some m) off (.agg cs)=if off+m<=cs.length then some (.agg ((cs.drop off).take m))else none:=rfl
end
def Sub(L T:Tmps):Prop:=∀i,lk L i=.any\/lk L i=lk T i
theorem Sub.nil:Sub [] T:=fun _=>.inl rfl
theorem Sub.cons{j}(a:lk T j=v)(h:Sub L T):Sub ((j,v)::L) T:=by
 intro i;rw[Qa3];split;·simp_all
 exact h i
theorem Sub.of_eq(h:∀i,lk L i=lk T i):Sub L T:=fun i=>.inr (h i)
theorem W2.weak{c}(f:Sub L T)(hw:W2 P N c Q ⟨L,h⟩):W2 P N c Q ⟨T,h⟩:=by
 intro code b ctx a w S ro d Q' g;refine hw code b ctx a w ⟨S.heap,fun i=>?_,S.size,S.defers⟩ ro d Q' g;rcases f i with e|e;·simp_all[VRel]
 show VRel ctx w (lk L i) _;rw[e];exact S.tmps i
def loopQ(P:Program)(N:NM){α:Type}(env:α->Tmps)(H:α->Heap->Nat->Prop)(μ:α->Nat)(a:α)(fs:List Fr)(Q:QC):QC:=fun e T h n=>match e with|.normal=>∃b,μ b<μ a/\Sub (env b) T/\H b h n|e=>wX P N e fs n T h Q
section
variable{N:NM}{n:Nat}{T:Tmps}{h:Heap}{Q:QC}{fs:List Fr}{α:Type}{env:α->Tmps}{H:α->Heap->Nat->Prop}{μ:α->Nat}{a:α}
theorem Qgx:loopQ P N env H μ a fs Q .normal T h n=∃b,μ b<μ a/\Sub (env b) T/\H b h n:=rfl
theorem QiV:loopQ P N env H μ a fs Q (.exit i) T h n=wX P N (.exit i) fs n T h Q:=rfl
theorem QkJ:loopQ P N env H μ a fs Q .ret T h n=wX P N .ret fs n T h Q:=rfl
end
def wLp(P:Program)(N:NM)(b:SCode)(fs:List Fr)(n:Nat)(T:Tmps)(h:Heap)(Q:QC):Prop:=WL2 P N b (fun e B=>∃n,ct P N fs Q e B.T B.h n) ⟨T,h⟩
def unQ(P:Program)(N:NM)(b:SCode)(fs:List Fr)(Q:QC):QC:=fun e T h n=>match e with|.normal=>wLp P N b fs n T h Q|e=>wX P N e fs n T h Q
section
variable{N:NM}{n:Nat}{T:Tmps}{h:Heap}{Q:QC}{fs:List Fr}{b:SCode}
theorem QiW:unQ P N b fs Q .normal T h n=wLp P N b fs n T h Q:=rfl
theorem Qmy:unQ P N b fs Q (.exit i) T h n=wX P N (.exit i) fs n T h Q:=rfl
theorem QoD:unQ P N b fs Q .ret T h n=wX P N .ret fs n T h Q:=rfl
end
theorem PSpec.of_rn(n)(a:okFn P f sf=true)(c:Nat.ble args.length sf.n=true)(d:noRefs args=true)(b:noRef v=true)(hw:wS P ⟨sf.n,0⟩ sf.body [] n (argT 0 args) .e fun e T h _=>(e=.normal\/e=.ret)/\∃vs,resV T h sf.res=some vs/\Rn 0 π0 h v (resOf vs)):PSpec P f args v:=PSpec.of_W2 a (Zaw c) d b ((wpC.toW hw).mono fun e B⟨_,h⟩=>h)
theorem QlN{ok}{c':Ctx ok}{w w'}(E:Evo2 m (only F) w c' w'):Go.RowKit.Below w.heap.size w w':=⟨E.os,E.tape,E.output,E.size,fun k a=>E.keep k a (fun h=>h)⟩
open Go.RowKit in theorem law_of_W2{f:Nat}{sf:SFn}{args:List AV}(hok:okFn P f sf=true)(hl:Nat.ble args.length sf.n=true)(hw:W2 P ⟨sf.n,0⟩ sf.body (fun e B=>(e=.normal\/e=.ret)/\resV B.T B.h sf.res=some [.bool true]) ⟨argT 0 args,.e⟩){F:Nat->Prop}{w:World}{cargs:Array Value}(hF:∀k,F k->k<w.heap.size)(ha:VRels (only (ok:=okc P) F) w args cargs.toList):Calls P f cargs w fun e w'=>e=.returned (.bool true)/\Below w.heap.size w w':=by
 refine(Qdh (R:=fun vs _=>vs=[.bool true]) hok (Zaw hl) (hw.mono ?_) (HRel.only hF) ha).mono ?_;·simp_all
 ·rintro e w'⟨cv,c',vs,h',rfl,E,H,V,rfl⟩;simp only[resOf,VRel]at V;subst V;exact⟨rfl,QlN E⟩
theorem PSpec.Qas(n)(a:okFn P f sf=true)(c:Nat.ble args.length sf.n=true)(d:noRefs args=true)(b:noRef v=true)(hw:wS P ⟨sf.n,0⟩ sf.body [] n (argT 0 args) .e fun e T h _=>(e=.normal\/e=.ret)/\∃vs,resV T h sf.res=some vs/\resOf vs=v):PSpec P f args v:=PSpec.of_W2 a (Zaw c) d b ((wpC.toW hw).mono fun e B⟨_,he,vs,h1,g⟩=>⟨he,vs,h1,by simp_all[Zck]⟩)
theorem PSpec.toH(S:PSpec P f args v)(h):HSpec P f args h v h:=by obtain⟨d,hc,_⟩:=S.2.2;exact⟨hc,fun c w a H b=>(S.pure H b).2⟩
end Go.AM
theorem _root_.Go.AM.Zcm:type_of%@Go.AM.PSpec.of_rn:=@Go.AM.PSpec.of_rn
theorem _root_.Go.AM.Zcn:type_of%@Go.AM.PSpec.Qas:=@Go.AM.PSpec.Qas
