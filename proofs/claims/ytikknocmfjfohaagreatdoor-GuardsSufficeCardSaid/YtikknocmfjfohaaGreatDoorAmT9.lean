/- On the way to GuardsSuffice. Conditions: none of ours. -/
import Derived.Laws.IdiomRangeMap
import Derived.Test.YtikknocmfjfohaaGreatDoorAmT7
theorem Go.AM.bh3qM{p:Prop}(h:p:=by
 intro h k hm;obtain⟨hl,hm⟩:=Qa5 hm;have:=ih _ k hm;simp only[HM.bind,HM.run];have hl':Nat.blt b lim=true:=by simp_all
 rw[hl'];exact this):p:=h
set_option linter.unusedSectionVars false
set_option maxHeartbeats 32000000
set_option maxRecDepth 100000
set_option linter.unusedVariables false
set_option linter.unusedSimpArgs false
namespace Go.AM
variable{P:Program}{ok':Okc}{c:Ctx ok'}{w:World}{h:Heap}
variable{v:AV}{a:Act}{K:Act->World->Prop}{es:Array MapEntry}{seen:Array Nat}{ops:Array Oper}{Q:Exit->Act->World->Prop}{n vis:List Nat}{p:MLParts}{N b d i:Nat}{o o':Obj}{x:Opd}{body:SCode}{A C:St}{ty:TypeId}{cv:Value}{w' w0:World}
def upo(w:World)(r:Nat)(o:Obj):World:={w with heap:=w.heap.setIfInBounds r o}
theorem Qtm{r}(a:r<w.heap.size):(upo w r o).heap[r]?=some o:=by simp[upo,a]
theorem QcF{r k}(a:k≠r):(upo w r o).heap[k]?=w.heap[k]?:=by simp_all[upo,Ne.symm]
theorem QeG{r}:(upo w r o).heap.size=w.heap.size:=by simp[upo]
theorem HRel.other(H:HRel c h w){r}(s:w.heap[r]?=some o)(hc:∀C e d,o≠.cells C e d)(t:¬c.O r)(n:¬c.F r):Ext c w c (upo w r o')/\HRel c h (upo w r o'):=by
 have E:Ext c w c (upo w r o'):=by
  refine⟨fun _ _ _ h=>h,fun _ h=>h,fun i p hf f=>?_,fun i C e d f=>?_⟩;·grind[QcF]
  refine⟨C,d,?_,rfl⟩;rw[QcF (fun q=>by simp_all)];exact f
 refine⟨E,H.fresh,H.later,fun b x g=>?_,H.inj,H.disj,fun k a=>by rw[QeG];exact H.inF k a,fun k a=>by rw[QeG];exact H.inO k a⟩;refine Zco E (fun i base l hp=>?_) (H.blk b x g);have m:=H.owned ⟨x,g,rfl,l⟩ hp;grind[QcF]
def Ctx.name{a}(c:Ctx a)(b r:Nat):Ctx a:={c with ρ:=fun x y=>if x=b/\y=0 then some (.loc r 0)else c.ρ x y}
variable{c0:Ctx (okc P)}{c':Ctx ok'}
theorem HRel.name(H:HRel c h w){r}(o:h.get b=none)(f:b<lim):Evo c w (c.name b r) w/\HRel (c.name b r) (h.set b (.dead 0)) w:=by
 have E:Evo c w (c.name b r) w:=by
  refine⟨rfl,rfl,rfl,Zar _,fun _ C _ A h=>⟨C,A,h,rfl⟩,fun _ _ _=>rfl,?_,fun _ h=>h,fun _ h=>.inl h,fun _ h=>.inl h,rfl⟩;intro x y p hp;show(if x=b/\y=0 then some (Place.loc r 0)else c.ρ x y)=some p;by_cases e:x=b/\y=0;·obtain⟨rfl,rfl⟩:=e;rw[H.fresh _ o]at hp;cases hp
  simp_all
 have d:∀{x y:Nat},x≠b->(c.name b r).ρ x y=c.ρ x y:=by intro x y a;show(if x=b/\y=0 then some (Place.loc r 0)else c.ρ x y)=_;simp_all
 refine⟨E,?_,?_,?_,?_,H.disj,H.inF,H.inO⟩
 ·intro x a g;rw[Zcl _ f]at a;by_cases e:x=b;·simp_all
  rw[if_neg e]at a;rw[d e];exact H.fresh x a g
 ·intro x z a g n;rw[Zcl _ f]at a;by_cases e:x=b;·rw[if_pos e]at a;cases a;subst e;show(if x=x/\g=0 then some (Place.loc r 0)else c.ρ x g)=none;rw[if_neg (by omega)];exact H.fresh _ o g
  rw[if_neg e]at a;rw[d e];exact H.later x z a g n
 ·intro x z a;rw[Zcl _ f]at a;by_cases e:x=b;·rw[if_pos e]at a;cases a;trivial
  rw[if_neg e]at a;refine Zco (E.ext H.disj) (fun t base k hp=>?_) (H.blk x z a);exact⟨H.owned ⟨z,a,rfl,k⟩ hp,rfl⟩
 intro x g G I t base m l F p q;have live:∀{x g:Nat},Live (h.set b (.dead 0)) x g->x≠b/\Live h x g:=by
  rintro x g⟨z,i,n,k⟩;rw[Zcl _ f]at i;by_cases e:x=b;·grind
  rw[if_neg e]at i;exact⟨e,z,i,n,k⟩
 obtain⟨v,B⟩:=live l;obtain⟨u,s⟩:=live F;rw[d v]at p;rw[d u]at q;exact H.inj _ _ _ _ _ _ _ B s p q
theorem QkW:∀{xs:List (AV×AV)}{es:List MapEntry}{n k:Nat},MRel c w xs es n->k+xs.length=n->∀(i:Nat)(e:MapEntry),es[i]?=some e->e.born=k+i/\i<xs.length|[],es,n,k,hm,a,i,e,hi=>by simp_all[MRel]|(x,y)::xs,es,n,k,hm,a,i,e,hi=>by simp only[MRel]at hm;obtain⟨h,d,rfl,_,_,_,f,b⟩:=hm;simp only[ZaD]at a;cases i with|zero=>simp at hi;subst hi;exact⟨by omega,by simp⟩|succ i=>simp at hi;obtain⟨g,l⟩:=QkW b (k:=k+1) (by omega) i e hi;exact⟨by omega,by simp;omega⟩
theorem QoI{r since c0 clock}(k:w.heap[r]?=some (.mapIter (some d) since seen c0))(q:w.heap[d]?=some (.map es clock))(hold:∀x∈es.toList,x.born<since)(g:since<=c0):((leftOf es seen).size=0/\(Instr.next (.pointer (some ⟨r,0,none⟩)) false ty).run P w=.ok (.tuple #[.bool false]) w)\/∃e∈(leftOf es seen).toList,∃a:World,(a=w\/a=w.drew)/\(Instr.next (.pointer (some ⟨r,0,none⟩)) false ty).run P w=.ok (.tuple #[.bool true,e.key,e.val]) (upo a r (.mapIter (some d) since (seen.push e.born) clock)):=by
 simp only[Instr.next,getObj,Sem.run_bind,Sem.run,k,q,Result.andThen,next_test_false seen es since c0 hold g,Zat,if_false];unfold leftOf;have b:∀x∈(Array.filter (fun e=>!seen.contains e.born) es).toList,x.born<since:=fun x m=>hold x (by simp_all);generalize Array.filter (fun e=>!seen.contains e.born) es=L at b⊢;have n:L.filter (fun x=>decide (x.born<since))=L:=Array.filter_eq_self.2 (fun x m=>by simp_all);have o:L.filter (fun x=>decide (x.born≥since))=#[]:=by simp_all
 simp only[n,o,Array.append_empty];by_cases p:L.size=0;·left;have:L=#[]:=Array.eq_empty_of_size_eq_zero p;subst this;refine⟨rfl,?_⟩;simp_all[Question.forced]
 right;have f:L.isEmpty=false:=by simp_all
 simp only[f,Zat,if_false,Array.empty_append,Array.size_map];have h:∃(j:Nat)(a:World),j<L.size/\(a=w\/a=w.drew)/\(choose (Question.mapNext L.size)).run P w=.ok j a:=by
  by_cases hf:L.size<=1;·exact⟨0,w,by omega,.inl rfl,by simp_all[Question.forced]⟩
  exact⟨_,w.drew,Zce _ (by omega),.inr rfl,by simp only[choose,Sem.run,Question.forced,decide_eq_true_eq,hf,if_false,Question.cut];rfl⟩
 obtain⟨j,a,s,c,i⟩:=h;refine⟨L[j],by simp,a,c,?_⟩;have l:a.heap[r]?=some (.mapIter (some d) since seen c0):=by rcases c with rfl|rfl<;>exact k
 simp_all[setObj,upo,Sem.run]
theorem QmD{r a since clock:Nat}{e:MapEntry}(d:w.heap[r]?=some (.mapIter (some a) since (seen.push e.born) clock))(b:w.heap[a]?=some (.map es clock))(he:e∈es.toList)(c:(es.toList.map (·.born)).Nodup):(Instr.entry (.pointer (some ⟨r,0,none⟩))).run P w=.ok (.tuple #[e.key,e.val]) w:=by
 have hf:es.find? (·.born==e.born)=some e:=by rw[<-Array.find?_toList];grind[find_born]
 simp_all[Instr.entry,getObj,Sem.run]
theorem QcS{o}(ho:ops[i]?=some o)(hg:o.guard=none)(hr:(execOp a.eval o).run P w=.ok (.value cv) w')(hK:K (a.put o.dst cv) w'):wpOpIn (FW none) 0 P ops Q i K a w:=by
 unfold wpOpIn;rw[ho];have:Region.wanted o (yielded ops a.tmps)=true:=by simp[Region.wanted,hg]
 simp only[this,if_true];refine⟨fun _ _=>trivial,?_⟩;show o.uponIn (FW none) 0 P a K Q ((o.semAt none a.eval).run P w);rw[Oper.semAt_none,hr];exact hK
theorem Qj3{base}(hQ:∀c a w,SRel N c C a w->Evo c0 w0 c w->wpOpsIn (FW none) 0 P ops Q n a w):∀(l:List SOper)(i j:Nat)(fs:List FP)(A:St)(c:Ctx (okc P))(a:Act)(w:World),(∀k s,l[k]?=some s->∃o,ops[i+k]?=some o/\okOper P N ops o s=true)->RunF P base j l fs A C->SRel N c A a w->Evo c0 w0 c w->wpOpsIn (FW none) 0 P ops Q (List.range' i l.length++n) a w|[],i,j,fs,A,c,a,w,b,d,S,E=>by obtain⟨_,rfl⟩:=d;grind|s::l,i,j,fs,A,c,a,w,b,d,S,E=>by obtain⟨f,h,v,h1,_,z,d⟩:=d;rw[ZaD,Zcg,ZaW,wpOpsIn_cons];obtain⟨o,ho,y⟩:=b 0 s rfl;rw[Nat.add_zero]at ho;refine QfO S ho y z fun u p x S' E'=>?_;refine Qj3 hQ l (i+1) (j+1) h _ u p x ?_ d S' (E.trans E');intro k q g;obtain⟨B,t,m⟩:=b (k+1) q (by simpa using g);grind
theorem Qqp{code}(h:mlParts code=some p):∃b a i8,code=.seq (.region b p.ops6 false) (.block p.b (.loop (.seq (.region a p.ops7 false) (.seq (.cond (.tmp p.c) .skip (.exit p.b')) (.block p.b3 (.seq (.region i8 p.ops8 false) p.body)))))):=by unfold mlParts at h;grind
theorem Qq8{r}:VRel (c.name b r) w (.ptr b 0 0) (.pointer (some ⟨r,0,none⟩)):=by simp only[VRel];exact⟨r,0,by show(if b=b/\0=0 then some (Place.loc r 0)else _)=_;simp,by simp⟩
structure IterAt{ok':Okc}(c:Ctx ok')(w:World)(b r mb mg n:Nat)(vis:List Nat)(m:Nat)(seen:Array Nat):Prop where
 name:c.ρ b 0=some (.loc r 0)free:¬c.O r/\¬c.F r/\r<w.heap.size
 obj:w.heap[r]?=some (.mapIter (some m) n seen n)place:c.ρ mb mg=some (.loc m 0)seen:∀i,i<n->(seen.contains i=true↔i∈vis)
theorem IterAt.evo{r mb mg n m}(I:IterAt c w b r mb mg n vis m seen)(E:Evo c w c' w'):IterAt c' w' b r mb mg n vis m seen:=⟨E.rho _ _ _ I.name,⟨fun h=>(E.own r h).elim I.free.1 (fun h=>absurd I.free.2.2 (by omega)),fun h=>(E.frzNew r h).elim I.free.2.1 (fun h=>h.elim I.free.1 (fun h=>absurd I.free.2.2 (by omega))),Zbb I.free.2.2 E.size⟩,by rw[E.keep r I.free.2.2 I.free.1];exact I.obj,E.rho _ _ _ I.place,I.seen⟩
theorem Qfp(S:SRel N c A a w)(b:d<N)(V:VRel c w v cv):SRel N c ⟨up A.T d v,A.h⟩ (a.put (some d) cv) w:=by have:=S.put (dst:=some d) (.refl c w) S.heap (fun e he=>by simp_all) V;exact this
theorem Marks.turn{r}(k:w.heap[r]?=some o)(f:o≠.deferred (some [])):∀{ds:List Deferred},Marks c w ds->Marks c (upo w r o') ds|[],h=>by show c.base<=_;rw[QeG];exact h|d::ds,⟨⟨D,h1,l,i,g,a,b⟩,hm⟩=>⟨⟨D,h1,l,i,g,by rw[QcF (fun e=>by simp_all)];exact a,b⟩,Marks.turn k f hm⟩
theorem SRel.turn{r}(S:SRel N c A a w)(b:w.heap[r]?=some o)(hc:∀C e f,o≠.cells C e f)(d:¬c.O r)(g:¬c.F r)(h:o≠.deferred (some [])):SRel N c A a (upo w r o'):=by obtain⟨E,H⟩:=S.heap.other (o':=o') b hc d g;exact⟨H,fun i=>Zcm E _ _ (S.tmps i),S.size,S.defers.turn b h⟩
theorem Evo.turn{c0}(E:Evo c0 w0 c w){r}(hr:w0.heap.size<=r):Evo c0 w0 c (upo w r o'):=⟨E.os,E.tape,E.output,by rw[QeG];exact E.size,fun cb C e fr hb=>by obtain⟨C',fr',h1,h2⟩:=E.shape cb C e fr hb;grind[QcF],fun cb hlt hO=>by rw[QcF (by omega)];exact E.keep cb hlt hO,E.rho,E.frz,E.frzNew,E.own,E.base⟩
theorem QgA:∀(L:List Nat),i∈L->(L.filter fun j=>j≠i).length<L.length
 |[],h=>by cases h|y::L,a=>by
  rcases Zav.1 a with h|h;·grind
  have :=QgA L h;grind
theorem W.mloop{n:Nat}{Q:SX->St->Prop}{B0:St}{pre rest:List SOper}{it nx ok en Y b2:Nat}(base:Nat)(fs:List FP)(hr:RunF P base 0 pre fs A B0){V T:Nat}{es:List (AV×AV)}(hx:ev B0.T x=.map V T)(hm:B0.h.get V=some (.map T es))(hn:B0.h.get n=none)(hnl:n<lim)(I:List Nat->St->Prop)(hI:∀b B,I b B->lk B.T it=.ptr n 0 0/\∃es',B.h.get V=some (.map T es')/\es'.length=es.length)(h0:I [] ⟨up B0.T it (.ptr n 0 0),B0.h.set n (.dead 0)⟩)(round:∀b B i k v es',I b B->i∉b->B.h.get V=some (.map T es')->es'[i]?=some (k,v)->∃bs fs C,RunF P bs 0 rest fs ⟨up (up (up B.T nx .any) ok (.bool true)) en (.tup [k,v]),B.h⟩ C/\W P N body (fun e D=>match e with|.normal=>I (i::b) D|.exit j=>if j=b2 then I (i::b) D else if j=Y then Q .normal D else Q (.exit j) D|.ret=>Q .ret D) C)(done:∀b B,I b B->(∀i,i<es.length->i∈b)->Q .normal ⟨up (up B.T nx .any) ok (.bool false),B.h⟩):W P N (.mloop pre x it nx ok en Y b2 rest body) Q A:=by
 intro code M c0 a0 R S0 ro hro Q' hQ;have:=hro rfl;subst this;simp only[okCode]at M;split at M
 ·rename_i p hp;simp only[Zac,beq_iff_eq]at M;obtain⟨⟨⟨⟨⟨⟨⟨o6,ob⟩,o7⟩,oc⟩,ob'⟩,ob3⟩,o8⟩,obd⟩:=M;obtain⟨i6,i7,i8,rfl⟩:=Qqp hp;rw[ob,oc,ob',ob3];unfold okRange at o6;split at o6
  ·rename_i o ho;simp only[Zac,beq_iff_eq,decide_eq_true_eq,Option.isNone_iff_eq_none]at o6;obtain⟨⟨⟨⟨⟨g1,g2⟩,g3⟩,g4⟩,g5⟩,g6⟩:=o6;obtain⟨k1,k2⟩:=Qd3 g6;have hpre:∀k s,pre[k]?=some s->∃o,p.ops6[0+k]?=some o/\okOper P N p.ops6 o s=true:=by
    intro k s hs;have hlt:k<pre.length:=(Zaf.1 hs).1;have hlt6:k<p.ops6.size:=by omega
    have e1:(p.ops6.toList.take pre.length)[k]?=some p.ops6[k]:=by simp_all
    grind
   refine wpIn_seq (wpIn_region ?_);rw[g5,show List.range (pre.length+1)=List.range' 0 pre.length++[pre.length]by rw[ZaK,Zb0]];refine Qj3 (c0:=c0) (w0:=R) ?_ pre 0 0 fs A c0 a0 R hpre hr S0 (.refl _ _);intro c a w S E;rw[wpOpsIn_cons];split at g4
   ·rename_i t y hop;simp only[Zac]at g4;obtain⟨gt,gx⟩:=g4;have hxr:=Qau S.tmps gx;rw[hx]at hxr;simp only[VRel]at hxr;obtain⟨m,hpm,hym⟩:=hxr;obtain⟨ms,clock,hOm,hCm,hRm,hcl⟩:=S.heap.atMap hm hpm;obtain⟨kt,et,hu⟩:∃kt et,P.underlying t=some (.map kt et):=by grind[isMapT]
    have hrun:(execOp a.eval o).run P w=.ok (.value (.pointer (some ⟨w.heap.size,0,none⟩))) (w.alloc (.mapIter (some m) clock #[] clock)):=by
     have e1:execOp a.eval o=(do pure (.value (<-Instr.range t (a.eval y)))):=by cases o;simp only at hop;subst hop;rfl
     rw[e1,hym];simp[run_range_map w t kt et m ms clock hu hCm]
    refine QcS ho g3 hrun ?_;show Exit.then _ _ .normal _ _;rw[g1];obtain⟨E1,H1⟩:=S.heap.grow (w':=w.alloc (.mapIter (some m) clock #[] clock)) rfl rfl rfl (by simp) (fun k hk=>by simp_all[heap_alloc_old]);obtain⟨E2,H2⟩:=H1.name (b:=n) (r:=w.heap.size) hn hnl;have E02:Evo c0 R (c.name n w.heap.size) (w.alloc (.mapIter (some m) clock #[] clock)):=(E.trans E1).trans E2;have S2:SRel N (c.name n w.heap.size) ⟨up B0.T it (.ptr n 0 0),B0.h.set n (.dead 0)⟩ (a.put (some it) (.pointer (some ⟨w.heap.size,0,none⟩))) (w.alloc (.mapIter (some m) clock #[] clock)):=S.put (dst:=some it) (E1.trans E2) H2 (fun d hd=>by simp_all) Qq8;have hsz:w.heap.size<(w.alloc (.mapIter (some m) clock #[] clock)).heap.size:=by simp
    have J2:IterAt (c.name n w.heap.size) (w.alloc (.mapIter (some m) clock #[] clock)) n w.heap.size V T es.length [] m #[]:=by
     refine⟨?_,⟨fun hO=>absurd (S.heap.inO _ hO) (Nat.lt_irrefl _),fun hF=>absurd (S.heap.inF _ hF) (Nat.lt_irrefl _),hsz⟩,?_,E2.rho _ _ _ hpm,fun i _=>by simp⟩;·show(if n=n/\0=0 then some (Place.loc w.heap.size 0)else _)=_;simp
     rw[heap_alloc_new,hcl]
    have hr0':R.heap.size<=w.heap.size:=E.size;generalize w.heap.size=r at*;generalize w.alloc (.mapIter (some m) clock #[] clock)=w2 at*;generalize a.put (some it) (.pointer (some ⟨r,0,none⟩))=a2 at*;generalize hB2:(⟨up B0.T it (.ptr n 0 0),B0.h.set n (.dead 0)⟩:St)=B2 at*;generalize c.name n r=c2 at*;refine wpIn_block ?_;have key:∀(left:Nat)(b:List Nat)(B:St)(c:Ctx (okc P))(a:Act)(w:World)(m:Nat)(seen:Array Nat),((List.range es.length).filter fun i=>i∉b).length=left->I b B->SRel N c B a w->Evo c0 R c w->IterAt c w n r V T es.length b m seen->Lp none P (.seq (.region i7 p.ops7 false) (.seq (.cond (.tmp ok) .skip (.exit Y)) (.block b2 (.seq (.region i8 p.ops8 false) p.body)))) (fun e K G=>match e with|.exit j=>if j=Y then Q' .normal K G else Q' (.exit j) K G|e=>Q' e K G) a w:=by intro left;induction left using Nat.strongRecOn with|_ left ih=>
     intro b B c a w m seen hleft hIB S E J;obtain⟨hit,es',O,hel⟩:=hI b B hIB;have hv:=S.tmps it;rw[hit]at hv;simp only[VRel]at hv;obtain⟨cb,bs,hp1,hv⟩:=hv;rw[J.name]at hp1;cases hp1;obtain⟨ms,clock,hOm,hCm,hRm,hcl⟩:=S.heap.atMap O J.place;have hlen:=Qb1 hRm;have L:∀(i:Nat)(e:MapEntry),ms.toList[i]?=some e->e.born=i/\i<es.length:=by intro i e hi;have:=QkW hRm (k:=0) (by omega) i e hi;omega
     have hold:∀y∈ms.toList,y.born<es.length:=by grind[List.mem_iff_getElem?]
     unfold okNext at o7;split at o7
     ·rename_i oa ob7 h7;simp only[Zac,beq_iff_eq,decide_eq_true_eq,Option.isNone_iff_eq_none,Zbh,beq_eq_false_iff_ne]at o7;obtain⟨⟨⟨⟨⟨⟨⟨⟨⟨q1,q2⟩,q3⟩,q4⟩,q5⟩,q6⟩,q7⟩,q8⟩,q9⟩,q10⟩:=o7;have h7':p.ops7=#[oa,ob7]:=by grind
      have hround:(Code.seq (.region i7 p.ops7 false) (.seq (.cond (.tmp ok) .skip (.exit Y)) (.block b2 (.seq (.region i8 p.ops8 false) p.body)))).wpIn (FW none) 0 P (fun e K G=>match e with|.normal=>∃f g B' Z m' q,f<left/\((List.range es.length).filter fun i=>i∉g).length=f/\I g B'/\SRel N Z B' K G/\Evo c0 R Z G/\IterAt Z G n r V T es.length g m' q|.exit j=>if j=Y then Q' .normal K G else Q' (.exit j) K G|e=>Q' e K G) a w:=by
       refine wpIn_seq (wpIn_region ?_);rw[h7'];show wpOpsIn (FW none) 0 P _ _ [0,1] a w;rw[wpOpsIn_cons];split at q4
       ·rename_i j hopa;have H:j=it:=by simpa using q4
        subst H;split at q8
        ·rename_i u hopb;have hj2:u=nx:=by simpa using q8
         subst hj2;have hevi:a.eval (.tmp j)=.pointer (some ⟨r,0,none⟩):=by grind[Act.eval]
         have eA:execOp a.eval oa=(do pure (.value (<-Instr.next (a.eval (.tmp j)) false oa.type))):=by cases oa;simp only at hopa;subst hopa;rfl
         have eB:∀(a:Act),execOp a.eval ob7=(do pure (.value (<-Instr.extract (a.eval (.tmp u)) 0))):=by intro a;cases ob7;simp only at hopb;subst hopb;rfl
         rcases QoI (P:=P) (ty:=oa.type) J.obj hCm hold (Zar _)with⟨h1,h2⟩|⟨e,he,U,hw1,h2⟩
         ·refine QcS (by simp) q3 (cv:=.tuple #[.bool false]) (w':=w) (by simp_all) ?_;rw[q1];have S1:SRel N c ⟨up B.T u .any,B.h⟩ (a.put (some u) (.tuple #[.bool false])) w:=Qfp S q2 (by simp[VRel]);have hl1:u<(a.put (some u) (.tuple #[.bool false])).tmps.size:=by rw[S1.size];exact q2
          have hev1:(a.put (some u) (.tuple #[.bool false])).eval (.tmp u)=.tuple #[.bool false]:=by simp_all[Act.eval,Act.put]
          rw[wpOpsIn_cons];refine QcS (by simp) q7 (cv:=.bool false) (w':=w) (by simp_all[Instr.extract]) ?_;rw[q5];have S2:SRel N c ⟨up (up B.T u .any) ok (.bool false),B.h⟩ ((a.put (some u) (.tuple #[.bool false])).put (some ok) (.bool false)) w:=Qfp S1 q6 (by simp[VRel]);show Exit.then _ _ .normal _ _;refine wpIn_seq ?_;have hc2:((a.put (some u) (.tuple #[.bool false])).put (some ok) (.bool false)).eval (.tmp ok)=.bool false:=by have:=S2.tmps ok;simp_all[lk_up,VRel,Act.eval]
          refine wpIn_cond hc2 ?_;refine wpIn_exit ?_;show(if Y=Y then Q' .normal _ _ else _);rw[if_pos rfl];refine hQ .normal _ c _ w (done b B hIB ?_) S2 E;intro i hi;have hmi:i<ms.toList.length:=by omega
          have hbi:=L i ms.toList[i] (Zak hmi);refine(J.seen i hi).1 ?_;cases hcs:seen.contains i with|true=>rfl|false=>
           exfalso;have F:ms.toList[i]∈(leftOf ms seen).toList:=by grind[leftOf]
           have:(leftOf ms seen).toList.length=0:=by simpa using h1
           rw[List.length_eq_zero_iff.1 this]at F;cases F
         have hem:e∈ms.toList/\seen.contains e.born=false:=by simp_all[leftOf]
         obtain⟨i,hi⟩:=List.mem_iff_getElem?.1 hem.1;obtain⟨hb1,hilt⟩:=L i e hi;have hnv:i∉b:=by intro hiv;have:=(J.seen i hilt).2 hiv;simp_all
         have hilt':i<es'.length:=by omega
         have hesi:es'[i]?=some es'[i]:=Zak hilt';obtain⟨e',he',hk1,hk2⟩:=QeC i hRm hesi;rw[hi]at he';cases he';obtain⟨E1,H1⟩:=S.heap.drew;have Sd:SRel N c B a U/\Evo c w c U:=by
          rcases hw1 with rfl|rfl;·exact⟨S,.refl _ _⟩
          exact⟨⟨H1,fun i=>Zcm (E1.ext S.heap.disj) _ _ (S.tmps i),S.size,S.defers.mono E1⟩,E1⟩
         have hr1:U.heap[r]?=some (.mapIter (some m) es.length seen es.length):=by rcases hw1 with rfl|rfl<;>exact J.obj
         have hC1:U.heap[m]?=some (.map ms clock):=by rcases hw1 with rfl|rfl<;>exact hCm
         have hmr:m≠r:=by grind
         have S1:=Sd.1.turn (o':=.mapIter (some m) es.length (seen.push e.born) clock) hr1 (by simp_all) J.free.1 J.free.2.1 (by simp_all);have E1':Evo c0 R c (upo U r (.mapIter (some m) es.length (seen.push e.born) clock)):=(E.trans Sd.2).turn hr0';have hsz1:r<U.heap.size:=by grind
         have J1:IterAt c (upo U r (.mapIter (some m) es.length (seen.push e.born) clock)) n r V T es.length (i::b) m (seen.push e.born):=by
          refine⟨J.name,⟨J.free.1,J.free.2.1,by grind[QeG]⟩,by simp_all[Qtm],J.place,?_⟩;intro j hj;rw[Array.contains_push,Zav,hb1];by_cases H:j=i;·simp[H]
          have :(j==i)=false:=by simpa using H
          simp only[this,Zcc,H,false_or];exact J.seen j hj
         have hC2:(upo U r (.mapIter (some m) es.length (seen.push e.born) clock)).heap[m]?=some (.map ms clock):=by simp_all[QcF]
         generalize hw2:upo U r (.mapIter (some m) es.length (seen.push e.born) clock)=h at*;refine QcS (by simp) q3 (cv:=.tuple #[.bool true,e.key,e.val]) (w':=h) (by simp_all) ?_;rw[q1];have S2:SRel N c ⟨up B.T u .any,B.h⟩ (a.put (some u) (.tuple #[.bool true,e.key,e.val])) h:=Qfp S1 q2 (by simp[VRel]);have hev1:(a.put (some u) (.tuple #[.bool true,e.key,e.val])).eval (.tmp u)=.tuple #[.bool true,e.key,e.val]:=by
          have hl0:u<a.tmps.size:=by rw[S.size];exact q2
          simp[Act.eval,Act.put,hl0]
         rw[wpOpsIn_cons];refine QcS (by simp) q7 (cv:=.bool true) (w':=h) (by simp_all[Instr.extract]) ?_;rw[q5];have S3:SRel N c ⟨up (up B.T u .any) ok (.bool true),B.h⟩ ((a.put (some u) (.tuple #[.bool true,e.key,e.val])).put (some ok) (.bool true)) h:=Qfp S2 q6 (by simp[VRel]);show Exit.then _ _ .normal _ _;refine wpIn_seq ?_;have hc2:((a.put (some u) (.tuple #[.bool true,e.key,e.val])).put (some ok) (.bool true)).eval (.tmp ok)=.bool true:=by have:=S3.tmps ok;simp_all[lk_up,VRel,Act.eval]
         refine wpIn_cond hc2 ?_;refine wpIn_skip ?_;show Exit.then _ _ .normal _ _;refine wpIn_block (wpIn_seq (wpIn_region ?_));unfold okEntry at o8;split at o8
         ·rename_i oe le h8;simp only[Zac,beq_iff_eq,decide_eq_true_eq,Option.isNone_iff_eq_none]at o8;obtain⟨⟨⟨⟨z1,z2⟩,z3⟩,z4⟩,z5⟩:=o8;obtain⟨y1,y2⟩:=Qd3 z5;have hs8:p.ops8.size=1+rest.length:=by
           have:p.ops8.toList.length=(oe::le).length:=by rw[h8]
           grind
          have hg8:∀k,p.ops8[k]?=(oe::le)[k]?:=fun k=>by rw[<-h8,ZaY]
          rw[hs8,show List.range (1+rest.length)=0::(List.range' 1 rest.length++[])by rw[Zb0,Nat.add_comm,Zcg];simp];rw[wpOpsIn_cons];split at z4
          ·rename_i j3 hope;have hj3:j3=j:=by simpa using z4
           subst hj3;have eE:∀(a:Act),execOp a.eval oe=(do pure (.value (<-Instr.entry (a.eval (.tmp j3))))):=by intro a;cases oe;simp only at hope;subst hope;rfl
           have hev3:((a.put (some u) (.tuple #[.bool true,e.key,e.val])).put (some ok) (.bool true)).eval (.tmp j3)=.pointer (some ⟨r,0,none⟩):=by simp_all[Act.eval,Act.put]
           have hnd:(ms.toList.map (·.born)).Nodup:=by grind[Za0]
           have hobj2:h.heap[r]?=some (.mapIter (some m) es.length (seen.push e.born) clock):=by rw[J1.obj,hcl,hel]
           refine QcS (by rw[hg8];rfl) z3 (cv:=.tuple #[e.key,e.val]) (w':=h) (by rw[eE,hev3];simp[QmD (P:=P) hobj2 hC2 hem.1 hnd]) ?_;rw[z1];have vk:VRel c h (es'[i]).1 e.key/\VRel c h (es'[i]).2 e.val:=by obtain⟨X,_⟩:=Sd.1.heap.other (o':=.mapIter (some m) es.length (seen.push e.born) clock) hr1 (by simp_all) J.free.1 J.free.2.1;rw[hw2]at X;exact⟨Zcm X _ _ (Zcm (Sd.2.ext S.heap.disj) _ _ hk1),Zcm X _ _ (Zcm (Sd.2.ext S.heap.disj) _ _ hk2)⟩
           have S4:SRel N c ⟨up (up (up B.T u .any) ok (.bool true)) en (.tup [(es'[i]).1,(es'[i]).2]),B.h⟩ (((a.put (some u) (.tuple #[.bool true,e.key,e.val])).put (some ok) (.bool true)).put (some en) (.tuple #[e.key,e.val])) h:=Qfp S3 z2 (by simp only[VRel];exact⟨_,rfl,by simp only[VRels];grind⟩);obtain⟨bs,fs8,C8,hr8,hbody⟩:=round b B i (es'[i]).1 (es'[i]).2 es' hIB hnv O hesi;have hrest:∀k s,rest[k]?=some s->∃o,p.ops8[1+k]?=some o/\okOper P N p.ops8 o s=true:=by
            intro k s hs;have hlt:k<rest.length:=(Zaf.1 hs).1;have hlt8:k<le.length:=by omega
            obtain⟨s',hs',hk⟩:=y2 k le[k] (Zak hlt8);grind
           refine Qj3 (c0:=c) (w0:=h) ?_ rest 1 0 fs8 _ c _ h hrest hr8 S4 (.refl _ _);intro c5 a5 w5 S5 E5;show Exit.then _ _ .normal _ _;refine hbody p.body obd c5 a5 w5 S5 none (fun _=>rfl) _ ?_;intro e2 D c6 a6 w6 z S6 E6;have E06:Evo c0 R c6 w6:=(E1'.trans E5).trans E6;have J6:=(J1.evo E5).evo E6;have again:I (i::b) D->∃f g B' Z m' q,f<left/\((List.range es.length).filter fun i=>i∉g).length=f/\I g B'/\SRel N Z B' a6 w6/\Evo c0 R Z w6/\IterAt Z w6 n r V T es.length g m' q:=by
            intro hI6;refine⟨_,i::b,D,c6,m,_,?_,rfl,hI6,S6,E06,J6⟩;rw[<-hleft];have hsub:((List.range es.length).filter fun j=>j∉i::b)=(((List.range es.length).filter fun j=>j∉b).filter fun j=>j≠i):=by simp_all
            rw[hsub];have F:i∈(List.range es.length).filter fun j=>j∉b:=ZaZ.2 ⟨Zau.2 hilt,by simpa using hnv⟩;exact QgA _ F
           cases e2 with|normal=>exact again z|ret=>exact hQ .ret D c6 a6 w6 z S6 E06|exit jj=>
            simp only at z;show(if jj=b2 then _ else _);split at z;·simp_all
            rename_i e3;rw[if_neg e3];show(if jj=Y then Q' .normal _ _ else Q' (.exit jj) _ _);split at z;·rename_i e4;rw[if_pos e4];exact hQ .normal D c6 a6 w6 z S6 E06
            rename_i e4;rw[if_neg e4];exact hQ (.exit jj) D c6 a6 w6 z S6 E06
          cases z4
         cases o8
        cases q8
       cases q4
      refine Lp.round (wpIn_mono hround ?_);intro e K G hq;cases e with|normal=>obtain⟨f,g,B',Z,m',q,hlt,hl',hI',S',E',J'⟩:=hq;exact ih f hlt g B' Z K G m' q hl' hI' S' E' J'|exit j=>exact hq|goto l=>exact hq|ret=>exact hq|panic ch=>exact hq|outgrown=>exact hq
     cases o7
    exact wpIn_mono (key _ [] B2 c2 a2 w2 m #[] rfl h0 S2 E02 J2).loop fun e K G hq=>by cases e<;>exact hq
   cases g4
  cases o6
 cases M
end Go.AM
namespace Go.AM
open Go.RowKit
variable{P:Program}
def WR(P:Program)(base:Nat):Nat->List SOper->Tmps->Heap->(Tmps->Heap->Prop)->Prop|_,[],T,h,K=>K T h|i,s::r,T,h,K=>∃f v h1,StepV P (base+i) s T h v h1 f/\WR P base (i+1) r (putD T s.dst v) h1 K
theorem WR.toF{base}:∀{r:List SOper}{i:Nat}{T:Tmps}{h:Heap}{K:Tmps->Heap->Prop},WR P base i r T h K->∃fs T' h',RunF P base i r fs ⟨T,h⟩ ⟨T',h'⟩/\K T' h'|[],i,T,h,K,a=>⟨[],T,h,⟨rfl,rfl⟩,a⟩|s::r,i,T,h,K,⟨f,v,h1,d,c⟩=>by obtain⟨fs,T',h',b,a⟩:=WR.toF c;exact⟨f::fs,T',h',⟨f,fs,v,h1,rfl,d,b⟩,a⟩
theorem W.regionR{N}{Q}{T}{h}{sops}{dead}(base)(a:WR P base 0 sops T h fun T h=>Q .normal ⟨rm T dead,h⟩):W P N (.region sops [] dead) Q ⟨T,h⟩:=by grind[WR.toF,W.regionF]
section
variable{base i:Nat}{d:Option Nat}{s:SOp}{af:List Nat}{r:List SOper}{T:Tmps}{h h1:Heap}{K:Tmps->Heap->Prop}{v:AV}
end
end Go.AM
namespace Go.AM
variable{P:Program}
variable{v x y:AV}{t:Bool}{c0:Ctx (okc P)}{R:Ending->World->Prop}{h h':Heap}{args cs ds xs ys:List AV}{a g i m n off:Nat}{b f z:SCode}{sf:SFn}{Q Q':SX->St->Prop}{B:St}{T:Tmps}{w w' w0:World}
structure NM where
 n:Nat
 m:Nat
variable{N:NM}
variable{ok:Okc}
structure Evo2(m:Nat)(c:Ctx ok)(w:World)(c':Ctx ok)(w':World):Prop where
 os:w'.os=w.os
 tape:w'.tape=w.tape
 output:w'.output=w.output
 size:w.heap.size<=w'.heap.size
 shape:∀(cb:Nat)(C:Array Value)(e:TypeId)(fr:Nat×Nat),w.heap[cb]?=some (.cells C e fr)->∃(C':Array Value)(fr':Nat×Nat),w'.heap[cb]?=some (.cells C' e fr')/\C'.size=C.size
 keep:∀cb,cb<w.heap.size->¬c.O cb->w'.heap[cb]?=w.heap[cb]?
 rho:∀b g p,b<m->c.ρ b g=some p->c'.ρ b g=some p
 frz:∀cb,c.F cb->c'.F cb
 frzNew:∀cb,c'.F cb->c.F cb\/c.O cb\/w.heap.size<=cb
 own:∀cb,c'.O cb->c.O cb\/w.heap.size<=cb
 base:c'.base=c.base
theorem Evo.to2{c c':Ctx ok}(E:Evo c w c' w'):Evo2 m c w c' w':=⟨E.os,E.tape,E.output,E.size,E.shape,E.keep,fun b g p _ h=>E.rho b g p h,E.frz,E.frzNew,E.own,E.base⟩
theorem Marks.mono2{c c':Ctx ok}(E:Evo2 m c w c' w'):∀{ds:List Deferred},Marks c w ds->Marks c' w' ds
 |[],h=>by have h:c.base<=w.heap.size:=h;have:=E.size;show c'.base<=w'.heap.size;rw[E.base];omega|d::ds,⟨⟨D,h1,l,a,g,f,i⟩,k⟩=>by
  have b:=Qbk f;refine⟨⟨D,h1,by rw[E.base];exact l,fun h=>?_,fun h=>?_,by rw[E.keep D b a];exact f,i⟩,Marks.mono2 E k⟩
  ·rcases E.own D h with h|h;·exact a h
   omega
  rcases E.frzNew D h with h|h|h;·exact g h
  ·exact a h
  omega
theorem Evo2.trans{q i o:Ctx ok}{n u l}(a:Evo2 m q n i u)(b:Evo2 m i u o l):Evo2 m q n o l where
 os:=b.os.trans a.os;tape:=b.tape.trans a.tape;output:=b.output.trans a.output;size:=ZaC a.size b.size;shape:=fun c C e x h=>by obtain⟨C',f,v,z⟩:=a.shape c C e x h;obtain⟨C'',k,y,w⟩:=b.shape c C' e f v;simp_all
 keep:=fun c d t=>by rw[b.keep c (Zbb d a.size) (fun h=>(a.own c h).elim t (by omega)),a.keep c d t]
 rho:=fun A g p s h=>b.rho _ _ _ s (a.rho _ _ _ s h);frz:=fun c h=>b.frz _ (a.frz _ h);frzNew:=fun c h=>by
  exact bpqBp
 own:=fun c h=>by
  rcases b.own c h with h|h;·exact a.own c h
  exact .inr (ZaC a.size h)
 base:=b.base.trans a.base
def W2(P:Program)(N:NM)(d:SCode)(Q:SX->St->Prop)(A:St):Prop:=∀code,okCode P N.n code d=true->∀(c:Ctx (okc P))(a:Act)(w:World),SRel N.n c A a w->∀(ro:Option Nat),(d.rf=true->ro=none)->∀(Q':Exit->Act->World->Prop),(∀e B f g b,Q e B->SRel N.n f B g b->Evo2 N.m c w f b->Q' e.toExit g b)->code.wpIn (FW ro) 0 P Q' a w
section rules
variable{N:NM}{Q:SX->St->Prop}{A:St}
theorem W2.of_W(h:W P N.n f Q A):W2 P N f Q A:=fun code b c a w S ro d R l=>h code b c a w S ro d R fun e B i g k m S' E'=>l e B i g k m S' E'.to2
theorem W2.mono(h:W2 P N f Q A)(k:∀e B,Q e B->Q' e B):W2 P N f Q' A:=fun code b c a w S ro d R m=>h code b c a w S ro d R fun e B g i l n S' E'=>m e B g i l (k e B n) S' E'
theorem W2.congr(h:W2 P N f Q A)(e:SEq B A):W2 P N f Q B:=fun code b c a w S ro d R g=>h code b c a w (S.congr e) ro d R g
theorem W2.skip(h:Q .normal A):W2 P N .skip Q A:=.of_W (.skip h)
theorem W2.ret(h:Q .ret A):W2 P N .ret Q A:=.of_W (.ret h)
theorem W2.exit(h:Q (.exit i) A):W2 P N (.exit i) Q A:=.of_W (.exit h)
theorem W2.seq{x y:SCode}(h:W2 P N x (fun e B=>match e with|.normal=>W2 P N y Q B|e=>Q e B) A):W2 P N (.seq x y) Q A:=by intro code b c a w S ro d Q' l;cases code<;>simp only[okCode,Zat,Zac]at b;rename_i n cy;refine wpIn_seq (h n b.1 c a w S ro (fun e=>d (by simp[SCode.rf,e])) _ ?_);intro e B g m k f S' E';cases e with|normal=>exact f cy b.2 g m k S' ro (fun e=>d (by simp[SCode.rf,e])) Q' fun q B2 t o s p S2 E2=>l q B2 t o s p S2 (E'.trans E2)|exit i=>exact l (.exit i) B g m k f S' E'|ret=>exact l .ret B g m k f S' E'
theorem W2.cond{x}{y}(h:ev A.T x=.bool t)(h1:t=true->W2 P N y Q A)(k:t=false->W2 P N z Q A):W2 P N (.cond x y z) Q A:=by intro code b c a w S ro d Q' g;cases code<;>simp only[okCode,Zat,Zac]at b;rename_i o cy i;have f:=Qau S.tmps b.1.1;rw[h]at f;simp only[VRel]at f;refine wpIn_cond f ?_;cases t with|true=>exact h1 rfl cy b.1.2 c a w S ro (fun e=>d (by simp[SCode.rf,e])) Q' g|false=>exact k rfl i b.2 c a w S ro (fun e=>d (by simp[SCode.rf,e])) Q' g
theorem W2.block(h:W2 P N b (fun e B=>match e with|.exit j=>if j=i then Q .normal B else Q (.exit j) B|e=>Q e B) A):W2 P N (.block i b) Q A:=by intro code d c a w S ro o Q' n;cases code<;>simp only[okCode,Zat,Zac,beq_iff_eq]at d;rename_i j p;obtain⟨rfl,d⟩:=d;refine wpIn_block (h p d c a w S ro (fun e=>o (by simp[SCode.rf,e])) _ ?_);intro e B m g l f S' E';cases e with|normal=>exact n .normal B m g l f S' E'|ret=>exact n .ret B m g l f S' E'|exit k=>
 exact b1WW0
def WL2(P:Program)(N:NM)(b:SCode)(Q:SX->St->Prop)(A:St):Prop:=∀f,okCode P N.n f b=true->∀(c:Ctx (okc P))(a:Act)(w:World),SRel N.n c A a w->∀(ro:Option Nat),(b.rf=true->ro=none)->∀(Q':Exit->Act->World->Prop),(∀e B g h d,Q e B->SRel N.n g B h d->Evo2 N.m c w g d->Q' e.toExit h d)->Lp ro P f Q' a w
theorem WL2.loop(h:WL2 P N b Q A):W2 P N (.loop b) Q A:=by intro code d c a w S ro f Q' g;cases code<;>simp only[okCode,Zat]at d;exact(h _ d c a w S ro (fun e=>f (by simp[SCode.rf,e])) Q' g).loop
theorem WL2.round(h:W2 P N b (fun e B=>match e with|.normal=>WL2 P N b Q B|e=>Q e B) A):WL2 P N b Q A:=by intro o f c a w S ro d Q' k;refine Lp.round (h o f c a w S ro d _ ?_);intro e B m l n g S2 E2;cases e with|normal=>exact g o f m l n S2 ro d Q' fun t B3 p s u q S3 E3=>k t B3 p s u q S3 (E2.trans E3)|ret=>exact k .ret B m l n g S2 E2|exit i=>exact k (.exit i) B m l n g S2 E2
theorem W2.loop(I:Nat->St->Prop)(n:Nat)(g:I n A)(round:∀n B,I n B->W2 P N b (fun e C=>match e with|.normal=>∃m,m<n/\I m C|e=>Q e C) B):W2 P N (.loop b) Q A:=by
 refine WL2.loop ?_;have key:∀n B,I n B->WL2 P N b Q B:=by intro n;induction n using Nat.strongRecOn with|_ n d=>intro B f;refine WL2.round ((round n B f).mono ?_);intro e C c;cases e with|normal=>obtain⟨m,hm,a⟩:=c;exact d m hm C a|exit i=>exact c|ret=>exact c
 grind
end rules
inductive Src where|nil|blk(b g:Nat)
def Mapped(m:Nat)(π:Nat->Option Src)(h:Heap)(c:Ctx ok)(k:Nat):Prop:=(∃b g base,b<m/\Live h b g/\c.ρ b g=some (.loc k base))\/∃a b g base,m<=a/\π a=some (.blk b g)/\c.ρ b g=some (.loc k base)
def nctx(m:Nat)(π:Nat->Option Src)(h:Heap)(c:Ctx ok):Ctx ok where ρ:=fun a d=>if a<m then c.ρ a d else if d=0 then(match π a with|some .nil=>some .nil|some (.blk b g)=>c.ρ b g|none=>none)else none;F:=fun k=>c.F k\/(c.O k/\¬Mapped m π h c k);O:=fun k=>c.O k/\Mapped m π h c k;base:=c.base
structure Maps(m:Nat)(π:Nat->Option Src)(h:Heap):Prop where
 live:∀b' b g,m<=b'->π b'=some (.blk b g)->Live h b g/\m<=b
 inj:∀b1 b2 b g g2,m<=b1->m<=b2->π b1=some (.blk b g)->π b2=some (.blk b g2)->b1=b2
def Rn(m:Nat)(π:Nat->Option Src)(h:Heap)(x y:AV):Prop:=∀(ok:Okc)(c:Ctx ok)(w:World)(v:Value),HRel c h w->Maps m π h->VRel c w y v->VRel (nctx m π h c) w x v
def RnL(m:Nat)(π:Nat->Option Src)(h:Heap):List AV->List AV->Prop|[],[]=>True|x::xs,y::a=>Rn m π h x y/\RnL m π h xs a|_,_=>False
def RnM(m:Nat)(π:Nat->Option Src)(h:Heap):List (AV×AV)->List (AV×AV)->Prop|[],[]=>True|x::xs,y::a=>(Rn m π h x.1 y.1/\Rn m π h x.2 y.2)/\RnM m π h xs a|_,_=>False
section
variable{m:Nat}{π:Nat->Option Src}{h:Heap}
theorem Qcr{c:Ctx ok}{b}(hm:b<m):(nctx m π h c).ρ b g=c.ρ b g:=if_pos hm
theorem QeH{c:Ctx ok}{b}(hm:m<=a)(hp:π a=some (.blk b g)):(nctx m π h c).ρ a 0=c.ρ b g:=by show(if a<m then c.ρ a 0 else if 0=0 then(match π a with|some .nil=>some .nil|some (.blk b g)=>c.ρ b g|none=>none)else none)=_;grind
theorem Qip{c:Ctx ok}(hm:m<=a)(hp:π a=some .nil):(nctx m π h c).ρ a 0=some .nil:=by show(if a<m then c.ρ a 0 else if 0=0 then(match π a with|some .nil=>some .nil|some (.blk b g)=>c.ρ b g|none=>none)else none)=_;grind
theorem QkX{c:Ctx ok}(hm:m<=a)(hp:π a=none):(nctx m π h c).ρ a g=none:=by show(if a<m then c.ρ a g else if g=0 then(match π a with|some .nil=>some .nil|some (.blk b g)=>c.ρ b g|none=>none)else none)=_;grind
theorem Qqq{c:Ctx ok}(hm:m<=a)(d:g≠0):(nctx m π h c).ρ a g=none:=by show(if a<m then c.ρ a g else if g=0 then(match π a with|some .nil=>some .nil|some (.blk b g)=>c.ρ b g|none=>none)else none)=_;grind
theorem Rn.any:Rn m π h .any y:=fun _ c w v _ _ _=>by simp[VRel]
theorem Rn.same(b:noRef x=true):Rn m π h x x:=fun _ c w v _ _ d=>Zcp (c:=c) (c':=nctx m π h c) (fun _ a=>.inl a) _ _ b d
theorem Rn.ptr{b}(hm:m<=a)(hp:π a=some (.blk b g)):Rn m π h (.ptr a 0 off) (.ptr b g off):=fun _ c w v _ _ d=>by grind[VRel,QeH]
theorem Rn.map{b}(hm:m<=a)(hp:π a=some (.blk b g)):Rn m π h (.map a 0) (.map b g):=fun _ c w v _ _ d=>by grind[VRel,QeH]
theorem Rn.sl{b len sz}(hm:m<=a)(hp:π a=some (.blk b g)):Rn m π h (.sl a 0 off len sz) (.sl b g off len sz):=fun _ c w v _ _ d=>by grind[QeH,VRel]
theorem Rn.slnil{sz}(hm:m<=a)(hp:π a=some .nil):Rn m π h (.sl a 0 0 0 sz) .nilsl:=fun _ c w v _ _ b=>by simp_all[VRel,Qip]
theorem Rn.ptrB{b}(hm:b<m):Rn m π h (.ptr b g off) (.ptr b g off):=fun _ c w v _ _ a=>by simp_all[Qcr,VRel]
theorem Rn.mapB{b}(hm:b<m):Rn m π h (.map b g) (.map b g):=fun _ c w v _ _ a=>by simp_all[Qcr,VRel]
theorem Rn.slB{b len sz}(hm:b<m):Rn m π h (.sl b g off len sz) (.sl b g off len sz):=fun _ c w v _ _ a=>by simp_all[Qcr,VRel]
theorem RnL.same:∀{xs:List AV},noRefs xs=true->RnL m π h xs xs|[],_=>trivial|x::xs,a=>by simp only[noRefs,Zac]at a;exact⟨Rn.same a.1,RnL.same a.2⟩
theorem RnL.eq(e:xs=ys)(a:noRefs xs=true):RnL m π h xs ys:=e▸RnL.same a
theorem RnL.length:∀{xs ys:List AV},RnL m π h xs ys->xs.length=ys.length|[],[],_=>rfl|[],_::_,a=>a.elim|_::_,[],a=>a.elim|x::xs,y::ys,a=>by simp[RnL.length a.2]
theorem RnL.append:∀{xs ys us vs:List AV},RnL m π h xs ys->RnL m π h us vs->RnL m π h (xs++us) (ys++vs)|[],[],_,_,_,b=>b|[],_::_,_,_,a,_=>a.elim|_::_,[],_,_,a,_=>a.elim|x::xs,y::ys,_,_,a,b=>⟨a.1,RnL.append a.2 b⟩
theorem RnL.one(a:Rn m π h x y):RnL m π h [x] [y]:=⟨a,trivial⟩
theorem RnL.pre{c:Ctx ok}(H:HRel c h w)(M:Maps m π h):∀{xs ys:List AV}{vs:List Value},RnL m π h xs ys->VPre c w ys vs->VPre (nctx m π h c) w xs vs|[],[],_,_,_=>by simp[VPre]|[],_::_,_,a,_=>a.elim|_::_,[],_,a,_=>a.elim|x::xs,y::ys,vs,a,d=>by simp only[VPre]at d⊢;obtain⟨v,b,rfl,f,g⟩:=d;exact⟨v,b,rfl,a.1 _ c w v H M f,RnL.pre H M a.2 g⟩
theorem RnL.rels{c:Ctx ok}(H:HRel c h w)(M:Maps m π h):∀{xs ys:List AV}{vs:List Value},RnL m π h xs ys->VRels c w ys vs->VRels (nctx m π h c) w xs vs|[],[],_,_,b=>by grind[VRels]|[],_::_,_,a,_=>a.elim|_::_,[],_,a,_=>a.elim|x::xs,y::ys,vs,a,b=>by simp only[VRels]at b⊢;obtain⟨v,d,rfl,f,g⟩:=b;exact⟨v,d,rfl,a.1 _ c w v H M f,RnL.rels H M a.2 g⟩
theorem Rn.agg(d:RnL m π h xs ys):Rn m π h (.agg xs) (.agg ys):=fun _ c w v H M a=>by simp only[VRel]at a⊢;obtain⟨b,rfl,a⟩:=a;exact⟨b,rfl,d.rels H M a⟩
theorem Rn.tup(d:RnL m π h xs ys):Rn m π h (.tup xs) (.tup ys):=fun _ c w v H M a=>by simp only[VRel]at a⊢;obtain⟨b,rfl,a⟩:=a;exact⟨b,rfl,d.rels H M a⟩
theorem Rn.fn{f}{us vs}(k:RnL m π h xs ys)(i:RnL m π h us vs):Rn m π h (.fn f xs us) (.fn f ys vs):=fun _ c w v H M a=>by simp only[VRel]at a⊢;obtain⟨g,d,rfl,h1,b⟩:=a;exact⟨g,d,rfl,k.rels H M h1,i.rels H M b⟩
theorem Maps.out{c:Ctx ok}(H:HRel c h w)(M:Maps m π h){b cb base}(k:Live h b g)(hp:c.ρ b g=some (.loc cb base))(hm:m<=b)(t:∀d o,m<=d->π d≠some (.blk b o)):¬Mapped m π h c cb:=by
 rintro(⟨p,n,a,h1,f,i⟩|⟨d,p,n,a,l,h1,i⟩);·have :=H.inj _ _ _ _ _ _ _ k f hp i;omega
 obtain⟨q,s⟩:=M.live _ _ _ l h1;have:=H.inj _ _ _ _ _ _ _ k q hp i;simp_all
theorem Rn.frz{b len sz}(x:h.get b=some (.cells g ds))(hm:m<=b)(E:∀y K,m<=y->π y≠some (.blk b K))(N:off+len*sz<=ds.length)(u:RnL m π h cs ((ds.drop off).take (len*sz))):Rn m π h (.fsl cs len sz) (.sl b g off len sz):=fun _ c w v H M s=>by
 have hlen:=u.length;simp only[VRel]at s;rcases s with⟨hp,rfl,rfl,rfl⟩|⟨J,base,o,cap,C,e,G,hp,rfl,q,t,a⟩;·simp_all[VRel]
 obtain⟨C',O,B,L,f,F,I,l⟩:=H.here x hp;have i:=M.out H ⟨_,x,rfl,fun k=>by simp⟩ hp hm E;rw[t]at f;cases f;by_cases z:cap=0
 ·have p:len=0:=by omega
  subst p;have n:cs=[]:=by simp_all
  subst n;simp only[VRel];simp_all
 obtain⟨rfl,A⟩:=a.resolve_left z;have d:=Qco (len*sz) (Qbn off l);rw[Za1]at d;simp only[VRel];exact .inr ⟨J,base+off,cap,C,e,G,rfl,q,by grind,.inr ⟨L,i⟩,t,u.pre H M d⟩
theorem Rn.frzp{b}(p:h.get b=some (.cells g ds))(hm:m<=b)(A:∀n u,m<=n->π n≠some (.blk b u))(hc:ds≠[])(x:RnL m π h cs (ds.drop off)):Rn m π h (.fptr cs) (.ptr b g off):=fun _ c w v H M o=>by simp only[VRel]at o;obtain⟨z,base,hp,rfl⟩:=o;obtain⟨C',y,i,t,l,q,s,f⟩:=H.here p hp;have d:=M.out H ⟨_,p,rfl,fun k=>by simp⟩ hp hm A;have a:=Qbn off f;rw[Za1]at a;simp only[VRel];exact⟨z,base+off,C',y,i,rfl,.inr ⟨t,d⟩,l,x.pre H M a⟩
def BRn(m:Nat)(π:Nat->Option Src)(h:Heap):Option Src->Blk->Prop|some .nil,.cells _ cs=>cs=[]|some (.blk b g),.cells _ cs=>∃c k,h.get b=some (.cells g c)/\RnL m π h cs (c.take k)|some (.blk b g),.map _ es=>∃fs,h.get b=some (.map g fs)/\RnM m π h es fs|some (.blk b g),.loop _ N T d a body st=>∃T0,h.get b=some (.loop g N T0 d a body st)/\∀i,Rn m π h (lk T i) (lk T0 i)|some (.blk b g),.dead _=>h.get b=some (.dead g)|_,_=>False
def RH(m:Nat)(π:Nat->Option Src)(h h':Heap):Prop:=∀b a,h'.get b=some a->(b<m/\BRn m π h (some (.blk b a.gen)) a)\/(m<=b/\a.gen=0/\(∀g,a≠.dead g)/\BRn m π h (π b) a)
def RD(m:Nat)(π:Nat->Option Src)(h h':Heap):Prop:=∀a,h'.get a=none->(a<m->h.get a=none)/\(m<=a->π a=none)
def RT(m:Nat)(π:Nat->Option Src)(h:Heap)(T' T:Tmps):Prop:=∀i,Rn m π h (lk T' i) (lk T i)
theorem RnM.rel{c:Ctx ok}(H:HRel c h w)(M:Maps m π h):∀{xs ys:List (AV×AV)}{es:List MapEntry}{k:Nat},RnM m π h xs ys->MRel c w ys es k->MRel (nctx m π h c) w xs es k
 |[],[],_,_,_,b=>by grind[MRel]|[],_::_,_,_,a,_=>a.elim|_::_,[],_,_,a,_=>a.elim|(q,x1)::xs,(p,x2)::ys,es,k,a,b=>by
  simp only[MRel]at b⊢;obtain⟨e,d,rfl,n,i,f,o,l⟩:=b;have s:xs.length=ys.length:=by
   have:∀{xs ys:List (AV×AV)},RnM m π h xs ys->xs.length=ys.length:=by intro xs;induction xs with
    |nil=>intro ys a;cases ys with|nil=>rfl|cons=>exact a.elim
    |cons x xs g=>intro ys a;cases ys with|nil=>exact a.elim|cons y ys=>simp[g a.2]
   exact this a.2
  exact⟨e,d,rfl,a.1.1 _ c w _ H M n,a.1.2 _ c w _ H M i,f,by omega,RnM.rel H M a.2 l⟩
theorem RnM.length:∀{xs ys:List (AV×AV)},RnM m π h xs ys->xs.length=ys.length|[],[],_=>rfl|[],_::_,a=>a.elim|_::_,[],a=>a.elim|x::xs,y::ys,a=>by simp[RnM.length a.2]
theorem RH.hrel{c:Ctx ok}(U:RH m π h h')(hd:RD m π h h')(M:Maps m π h)(H:HRel c h w):HRel (nctx m π h c) h' w:=by
 have base:∀a l,a<m->BRn m π h (some (.blk a l.gen)) l->∃x,h.get a=some x/\x.gen=l.gen/\((∀k,l≠.dead k)->∀k,x≠.dead k):=by intro a l _ f;cases l with|cells g cs=>obtain⟨ds,_,h1,_⟩:=f;exact⟨_,h1,rfl,fun _ k=>by simp⟩|map g es=>obtain⟨ds,h1,_⟩:=f;exact⟨_,h1,rfl,fun _ k=>by simp⟩|loop g N T ps O body st=>obtain⟨T0,h1,_⟩:=f;exact⟨_,h1,rfl,fun _ k=>by simp⟩|dead g=>exact⟨_,f,rfl,fun hh=>absurd rfl (hh g)⟩
 refine⟨?_,?_,?_,?_,?_,?_,?_⟩
 ·intro a P g;obtain⟨d1,d2⟩:=hd a P;rcases ZbE a m with z|z;·rw[Qcr z];exact H.fresh a (d1 z) g
  simp_all[QkX]
 ·intro a l P g z;rcases U a l P with⟨hm,f⟩|⟨hm,I,_,f⟩;·obtain⟨x,h1,p,_⟩:=base a l hm f;rw[Qcr hm];exact H.later a x h1 g (by omega)
  grind[Qqq]
 ·intro a l P;have own:∀(b g:Nat),(b<m/\Live h b g)\/(m<=a/\π a=some (.blk b g))->∀o base,c.ρ b g=some (.loc o base)->c.O o->(nctx m π h c).O o:=by
   intro b g v o base hp J;refine⟨J,?_⟩;rcases v with⟨h1,p⟩|⟨h1,p⟩;·exact .inl ⟨b,g,base,h1,p,hp⟩
   exact .inr ⟨a,b,g,base,h1,p,hp⟩
  have main:∀(b g:Nat),((b<m/\Live h b g)\/(m<=a/\π a=some (.blk b g)))\/(∃k,l=.dead k)->(nctx m π h c).ρ a l.gen=c.ρ b g->BRn m π h (some (.blk b g)) l->BRel (nctx m π h c) w a l:=by
   intro b g v E f;cases l with|dead k=>trivial|cells y cs=>
    have v:=v.resolve_right (by simp);obtain⟨ds,kk,h1,p⟩:=f;change(nctx m π h c).ρ a y=_ at E;rcases H.blk b _ h1 with⟨n,rfl⟩|⟨o,bs,C,e,fr,n,q,t,R,k5,k6⟩;·left;refine⟨E.trans n,?_⟩;rw[List.take_nil]at p;cases cs with|nil=>rfl|cons=>exact p.elim
    right;exact⟨o,bs,C,e,fr,E.trans n,own b g v o bs n q,t,R,k5,p.pre H M (Qco kk k6)⟩|map y es=>have v:=v.resolve_right (by simp);obtain⟨fs,h1,p⟩:=f;change(nctx m π h c).ρ a y=_ at E;obtain⟨o,X,clock,n,q,t,R⟩:=H.blk b _ h1;exact⟨o,X,clock,E.trans n,own b g v o 0 n q,t,p.rel H M R.1,by rw[p.length];exact R.2⟩|loop y N T ps O body st=>have v:=v.resolve_right (by simp);obtain⟨T0,h1,p⟩:=f;change(nctx m π h c).ρ a y=_ at E;obtain⟨o,r,n,q,t,L⟩:=H.blk b _ h1;exact⟨o,r,E.trans n,own b g v o 0 n q,t,L.params,L.size,fun i=>p i _ c w _ H M (L.tmps i),L.okA,L.okB,L.state,L.pend⟩
  rcases U a l P with⟨hm,f⟩|⟨hm,I,Z,f⟩
  ·obtain⟨x,h1,p,h3⟩:=base a l hm f;refine main a l.gen ?_ (Qcr hm) f;by_cases A:∃k,l=.dead k;·simp_all
   exact .inl (.inl ⟨hm,x,h1,p,h3 fun k e=>A ⟨k,e⟩⟩)
  rcases hp:π a with _|_|⟨b,g⟩;·rw[hp]at f;exact f.elim
  ·rw[hp]at f;cases l with|dead k=>trivial|map y es=>exact f.elim|loop y N T ps O body st=>exact f.elim|cells y cs=>have f:cs=[]:=f;have I:y=0:=I;subst I;left;exact⟨Qip hm hp,f⟩
  grind[QeH]
 ·intro s F b2 g2 o d B l1 l2 K p2;have key:∀s F d,Live h' s F->(nctx m π h c).ρ s F=some (.loc o d)->(s<m/\Live h s F/\c.ρ s F=some (.loc o d))\/(m<=s/\∃b g,π s=some (.blk b g)/\c.ρ b g=some (.loc o d)):=by
   rintro s F d⟨x1,V,rfl,Y⟩K;rcases U s x1 V with⟨hm,f⟩|⟨hm,I,Z,f⟩;·rw[Qcr hm]at K;obtain⟨x,n,q,t⟩:=base s x1 hm f;exact .inl ⟨hm,⟨x,n,q,t Y⟩,K⟩
   rw[I]at K;rcases hp:π s with _|_|⟨b,g⟩;·simp_all[QkX]
   ·simp_all[Qip]
   rw[QeH hm hp]at K;grind
  rcases key s F d l1 K with⟨n,q,t⟩|⟨n,b,g,q,t⟩<;>rcases key b2 g2 B l2 p2 with⟨S,G,Q⟩|⟨S,a,y,G,Q⟩;·exact H.inj _ _ _ _ _ _ _ q G t Q
  ·obtain⟨q1,q2⟩:=M.live _ _ _ S G;have:=H.inj _ _ _ _ _ _ _ q q1 t Q;omega
  ·obtain⟨q1,q2⟩:=M.live _ _ _ n q;have:=H.inj _ _ _ _ _ _ _ q1 G t Q;omega
  obtain⟨q1,q2⟩:=M.live _ _ _ S G;obtain⟨r1,r2⟩:=M.live _ _ _ n q;have:=H.inj _ _ _ _ _ _ _ r1 q1 t Q;subst this;exact M.inj _ _ _ _ _ n S q G
 ·intro k u J;rcases u with u|u;·exact H.disj k u J.1
  exact u.2 J.2
 ·intro k u;rcases u with u|u;·exact H.inF k u
  exact H.inO k u.1
 intro k J;exact H.inO k J.1
theorem QeI(c:Ctx ok)(w):Evo2 m c w (nctx m π h c) w:=⟨rfl,rfl,rfl,Zar _,fun _ C _ f i=>⟨C,f,i,rfl⟩,fun _ _ _=>rfl,fun b g p d hp=>(Qcr d).trans hp,fun _ a=>.inl a,fun k a=>a.elim .inl fun a=>.inr (.inl a.1),fun k a=>.inl a.1,rfl⟩
theorem W2.recast{T'}(M:Maps N.m π h)(q:RH N.m π h h')(o:RD N.m π h h')(n:RT N.m π h T' T)(hw:W2 P N f Q ⟨T',h'⟩):W2 P N f Q ⟨T,h⟩:=by intro code b c a w S ro d Q' p;refine hw code b (nctx N.m π h c) a w ⟨q.hrel o M S.heap,fun i=>n i _ c w _ S.heap M (S.tmps i),S.size,S.defers.mono2 (QeI (m:=N.m) (π:=π) (h:=h) c w)⟩ ro d Q' ?_;intro e B g l k m S' E';exact p e B g l k m S' ((QeI c w).trans E')
end
theorem Evo2.rebase{c c':Ctx ok}(E:Evo2 m (c.rb n) w c' w'):Evo2 m c w (c'.rb (c.base)) w':=⟨E.os,E.tape,E.output,E.size,E.shape,E.keep,E.rho,E.frz,E.frzNew,E.own,rfl⟩
theorem Qi2{fn}{a}{c}(t:w0.heap.size<=c.base)(fin:∀w,HRel c h w->TRel c w T a->Evo2 m c0 w0 c w->∃v,(results fn a.tmps).run P w=.ok v w/\R (.returned v) w):∀(ds:List Deferred)(w:World),Marks c w ds->HRel c h w->TRel c w T a->Evo2 m c0 w0 c w->LeavesInM Fence.wide 0 P fn a.tmps R ds .returning w
 |[],w,_,H,f,E=>fin w H f E|d::ds,w,⟨⟨D,h1,S,A,p,o,z⟩,n⟩,H,f,E=>by
  obtain⟨H',X⟩:=H.mark (o:=.deferred none) A p o;have other:∀k,k≠D->(w.putObj D (.deferred none)).heap[k]?=w.heap[k]?:=fun k I=>World.putObj_heap_other I;refine⟨by simp,.inl ⟨D,w.putObj D (.deferred none),by rw[h1],run_takeDeferred o,?_⟩⟩;refine Qi2 t fin ds _ ?_ H' (fun i=>Zcm X _ _ (f i)) ?_;·clear fin;induction ds with|nil=>show c.base<=_;rw[World.putObj_size];exact n|cons Q ds F=>
   obtain⟨⟨D2,s,x,B,u,J,q⟩,M⟩:=n;refine⟨⟨D2,s,x,B,u,?_,q⟩,F (fun K l=>z K (List.mem_cons_of_mem _ l)) M⟩;rw[other D2 (fun e=>?_)];·exact J
   simp_all
  refine⟨E.os,E.tape,E.output,by grind[World.putObj_size],fun b C e G hc=>?_,fun b g L=>?_,E.rho,E.frz,E.frzNew,E.own,E.base⟩;·obtain⟨C',y,N,O⟩:=E.shape b C e G hc;grind
  rw[other b (by omega)];exact E.keep b g L
theorem Qdo{f}{R:List AV->Heap->Prop}(b:okFn P f sf=true)(v:args.length<=sf.n)(hw:W2 P ⟨sf.n,m⟩ sf.body (fun e B=>(e=.normal\/e=.ret)/\∃vs,resV B.T B.h sf.res=some vs/\R vs B.h) ⟨argT 0 args,h⟩){c:Ctx (okc P)}{a}(H:HRel c h w)(l:VRels c w args a.toList):Calls P f a w fun e w'=>∃cv c' vs h',e=.returned cv/\Evo2 m c w c' w'/\HRel c' h' w'/\VRel c' w' (resOf vs) cv/\R vs h':=by
 obtain⟨fn,code,hf,n,hc,x,q,_⟩:=Qcq b;have hlen:=QaE l;have hlen:args.length=a.size:=by omega
 refine(callsIn_wide (n:=0)).1 (callsIn_of_wp_marks hf n trivial ?_);refine hw code hc (c.rb (w.heap.size)) _ w ⟨H.rebase _,?_,?_,Zar _⟩ none (fun _=>rfl) _ ?_
 ·exact b1gge
 ·simp;omega
 intro e B c' d w' p S' E';obtain⟨he,vs,k,o⟩:=p;have out:LeavesInM Fence.wide 0 P fn d.tmps (fun e w'=>∃cv c' vs h',e=.returned cv/\Evo2 m c w c' w'/\HRel c' h' w'/\VRel c' w' (resOf vs) cv/\R vs h') d.defers .returning w':=by refine Qi2 (m:=m) (c0:=(c.rb (w.heap.size))) (w0:=w) (T:=B.T) (h:=B.h) (c:=c') (by rw[E'.base];simp_all) ?_ d.defers w' S'.defers S'.heap S'.tmps E';intro u H2 g E2;obtain⟨cv,s,t⟩:=Qgi H2 g q k;exact⟨cv,s,cv,(c'.rb (c.base)),vs,B.h,rfl,E2.rebase,H2.rebase _,t.rebase _,o⟩
 rcases he with rfl|rfl;·exact out
 exact out
abbrev π0:Nat->Option Src:=fun _=>none
theorem maps0:Maps 0 π0 h:=⟨fun f b g _ a=>by simp_all,fun c b2 b g d _ _ a _=>by simp_all⟩
theorem Rn.QvZ(d:noRef x=true)(hf:∀(ok:Okc)(c:Ctx ok)(w:World)(v:Value),HRel c h w->VRel c w y v->VRel (lent c) w x v):Rn 0 π0 h x y:=fun _ c w v H M i=>Zcp (c:=lent c) (c':=nctx 0 π0 h c) (fun k f=>f.elim .inl fun a=>.inr ⟨a,by
 rintro(⟨b,g,base,h1,_⟩|⟨l,b,g,base,_,h1,_⟩);·omega
 simp_all⟩) _ _ d (hf _ c w v H i)
theorem PSpec.of_W2{f}(i:okFn P f sf=true)(u:args.length<=sf.n)(m:noRefs args=true)(q:noRef v=true)(hw:W2 P ⟨sf.n,0⟩ sf.body (fun e B=>(e=.normal\/e=.ret)/\∃vs,resV B.T B.h sf.res=some vs/\Rn 0 π0 B.h v (resOf vs)) ⟨argT 0 args,.e⟩):PSpec P f args v:=by
 obtain⟨_,_,_,_,_,_,_,hc⟩:=Qcq i;refine⟨m,q,.e,hc,fun c w l H m=>(Qdo (R:=fun vs k=>Rn 0 π0 k v (resOf vs)) i u hw H m).mono ?_⟩;rintro e o⟨n,d,vs,k,rfl,E,H',V,t⟩;have V':=t _ d o n H' maps0 V;have s:∀b,d.F b\/d.O b->b<o.heap.size:=fun b a=>a.elim (H'.inF b) (H'.inO b);refine⟨n,only (fun b=>d.F b\/d.O b) c.base,rfl,?_,HRel.only s,Zcp (c:=nctx 0 π0 k d) (c':=only (fun b=>d.F b\/d.O b) c.base) (fun _ h=>h.elim .inl fun h=>.inr h.1) _ _ q V'⟩;refine⟨E.os,E.tape,E.output,E.size,E.shape,E.keep,fun b g p hp=>?_,fun b a=>.inl (E.frz b a),fun b a=>?_,fun b a=>a.elim,rfl⟩;·rw[H.fresh b rfl g]at hp;cases hp
 rcases a with a|a;·exact E.frzNew b a
 rcases E.own b a with h1|h1;·simp_all
 omega
theorem HSpec.of_W2{f}(a:okFn P f sf=true)(u:args.length<=sf.n)(hm:∀b,m<=b->h.get b=none)(hw:W2 P ⟨sf.n,m⟩ sf.body (fun e B=>(e=.normal\/e=.ret)/\∃vs π,resV B.T B.h sf.res=some vs/\Maps m π B.h/\RH m π B.h h'/\RD m π B.h h'/\Rn m π B.h v (resOf vs)) ⟨argT 0 args,h⟩):HSpec P f args h v h':=by
 obtain⟨_,_,_,_,_,_,_,hc⟩:=Qcq a;refine⟨hc,fun c w i H s=>(Qdo (R:=fun vs k=>∃π,Maps m π k/\RH m π k h'/\RD m π k h'/\Rn m π k v (resOf vs)) a u (hw.mono fun e B⟨h1,vs,π,o,y⟩=>⟨h1,vs,o,π,y⟩) H s).mono ?_⟩;rintro e l⟨n,d,vs,k,rfl,E,H',V,π,M,x,q,t⟩;have E2:=E.trans (QeI (m:=m) (π:=π) (h:=k) d l);refine⟨n,nctx m π k d,rfl,?_,x.hrel q M H',t _ d l n H' M V⟩;refine⟨E2.os,E2.tape,E2.output,E2.size,E2.shape,E2.keep,fun b g p hp=>?_,E2.frz,E2.frzNew,E2.own,E2.base⟩;rcases ZbE b m with h1|h1;·exact E2.rho b g p h1 hp
 rw[H.fresh b (hm b h1) g]at hp;cases hp
end Go.AM
theorem _root_.Go.AM.Zcr:type_of%@Go.AM.Rn.any:=@Go.AM.Rn.any
theorem _root_.Go.AM.Zcs:type_of%@Go.AM.Rn.same:=@Go.AM.Rn.same
theorem _root_.Go.AM.Zct:type_of%@Go.AM.RnL.same:=@Go.AM.RnL.same
namespace Go.AM
variable{P:Program}
def wpR(P:Program):Nat->List SOper->Tmps->Heap->(Tmps->Heap->Nat->Prop)->Prop|n,[],T,h,K=>K T h n|n,s::r,T,h,K=>∃v h1 f,StepV P n s T h v h1 f/\wpR P (n+1) r (putD T s.dst v) h1 K
theorem wpR.toWR:∀{r:List SOper}{n i:Nat}{T:Tmps}{h:Heap}{K:Tmps->Heap->Nat->Prop},wpR P (n+i) r T h K->WR P n i r T h fun T h=>K T h (n+i+r.length)|[],n,i,T,h,K,a=>a|s::r,n,i,T,h,K,⟨v,h1,f,c,b⟩=>by refine⟨f,v,h1,c,?_⟩;have:=wpR.toWR (i:=i+1) b;grind
def wpRF(P:Program):Nat->List SOper->Tmps->Heap->(List FP->Tmps->Heap->Nat->Prop)->Prop|n,[],T,h,K=>K [] T h n|n,s::r,T,h,K=>∃v h1 f,StepV P n s T h v h1 f/\wpRF P (n+1) r (putD T s.dst v) h1 fun fs T h n=>K (f::fs) T h n
theorem wpRF.toF:∀{r:List SOper}{n i:Nat}{T:Tmps}{h:Heap}{K:List FP->Tmps->Heap->Nat->Prop},wpRF P (n+i) r T h K->∃fs T' h',RunF P n i r fs ⟨T,h⟩ ⟨T',h'⟩/\K fs T' h' (n+i+r.length)|[],n,i,T,h,K,a=>⟨[],T,h,⟨rfl,rfl⟩,a⟩|s::r,n,i,T,h,K,⟨v,h1,f,d,c⟩=>by obtain⟨fs,T',h',b,a⟩:=wpRF.toF (i:=i+1) c;refine⟨f::fs,T',h',⟨f,fs,v,h1,rfl,d,b⟩,?_⟩;grind
abbrev QC:=SX->Tmps->Heap->Nat->Prop
def wpC(P:Program)(N:NM):SCode->Nat->Tmps->Heap->QC->Prop
 |.skip,n,T,h,Q=>Q .normal T h n|.ret,n,T,h,Q=>Q .ret T h n|.exit i,n,T,h,Q=>Q (.exit i) T h n|.bad,_,_,_,_=>False|.mloop pre x it f ok k l b2 rest body,n,T,h,Q=>W2 P N (.mloop pre x it f ok k l b2 rest body) (fun e B=>∃n,Q e B.T B.h n) ⟨T,h⟩|.rfunc g c M d body,n,T,h,Q=>W2 P N (.rfunc g c M d body) (fun e B=>∃n,Q e B.T B.h n) ⟨T,h⟩|.region ops [] dead,n,T,h,Q=>wpR P n ops T h fun T h n=>Q .normal (rm T dead) h n|.region ops (p::c) dead,n,T,h,Q=>wpRF P n ops T h fun fs T h n=>((p::c).all fun p=>(fs.getD p.1 ⟨false,[],[]⟩).apart (fs.getD p.2 ⟨false,[],[]⟩))=true/\Q .normal (rm T dead) h n|.seq a b,n,T,h,Q=>wpC P N a n T h fun e T h n=>match e with|.normal=>wpC P N b n T h Q|e=>Q e T h n
 |.cond x a b,n,T,h,Q=>∃t,ev T x=.bool t/\if t=true then wpC P N a n T h Q else wpC P N b n T h Q|.block i b,n,T,h,Q=>wpC P N b n T h fun e T h n=>match e with|.exit j=>if j=i then Q .normal T h n else Q (.exit j) T h n|e=>Q e T h n
 |.loop b,n,T,h,Q=>W2 P N (.loop b) (fun e B=>∃n,Q e B.T B.h n) ⟨T,h⟩
theorem wpC.toW{N}:∀{c:SCode}{n:Nat}{T:Tmps}{h:Heap}{Q:QC},wpC P N c n T h Q->W2 P N c (fun e B=>∃n,Q e B.T B.h n) ⟨T,h⟩
 |.skip,n,T,h,Q,d=>W2.skip ⟨n,d⟩|.ret,n,T,h,Q,d=>W2.ret ⟨n,d⟩|.exit i,n,T,h,Q,d=>W2.exit ⟨n,d⟩|.bad,_,_,_,_,d=>d.elim|.mloop ..,n,T,h,Q,d=>d|.rfunc ..,n,T,h,Q,d=>d|.region ops [] dead,n,T,h,Q,d=>by have:=wpR.toWR (i:=0) d;exact W2.of_W<|W.regionR n (this|>fun h=>by simpa using(show _ from(wr_mono h)))|.region ops (p::C) dead,n,T,h,Q,d=>by obtain⟨fs,T',A,h1,u,y⟩:=wpRF.toF (i:=0) d;exact W2.of_W<|W.regionF n fs h1 u ⟨_,y⟩|.seq a b,n,T,h,Q,d=>by simp only[wpC]at d;refine W2.seq ((wpC.toW (c:=a) d).mono ?_);rintro e B⟨k,g⟩;cases e with|normal=>exact wpC.toW g|exit i=>exact⟨k,g⟩|ret=>exact⟨k,g⟩
 |.cond x a b,n,T,h,Q,⟨t,z,d⟩=>by
  refine W2.cond z ?_ ?_;·intro e;rw[if_pos e]at d;exact wpC.toW d
  intro e;rw[if_neg (by simp[e])]at d;exact wpC.toW d|.block i b,n,T,h,Q,d=>by simp only[wpC]at d;refine W2.block ((wpC.toW (c:=b) d).mono ?_);rintro e B⟨k,g⟩;cases e with|normal=>exact⟨k,g⟩|ret=>exact⟨k,g⟩|exit j=>
   simp only at g⊢;split;·rename_i e;rw[if_pos e]at g;exact⟨k,g⟩
   rename_i e;rw[if_neg e]at g;exact⟨k,g⟩
 |.loop b,n,T,h,Q,d=>d where
 wr_mono{ops:List SOper}{n:Nat}{T:Tmps}{h:Heap}{dead:List Nat}{Q:QC}{m:Nat}(d:WR P n 0 ops T h fun T h=>Q .normal (rm T dead) h m):WR P n 0 ops T h fun T h=>∃n,Q .normal (rm T dead) h n:=by
  have:∀{r:List SOper}{i:Nat}{T:Tmps}{h:Heap}{K K':Tmps->Heap->Prop},WR P n i r T h K->(∀T h,K T h->K' T h)->WR P n i r T h K':=by intro r;induction r with|nil=>intro i T h K K' d l;exact l _ _ d|cons s r w=>intro i T h K K'⟨f,v,h1,q,o⟩l;exact⟨f,v,h1,q,w o l⟩
  exact this d fun T h g=>⟨m,g⟩
end Go.AM
namespace Go.AM
variable{P:Program}
variable{v:AV}{neg t w:Bool}{h h1:Heap}{n:Int}{a:List (Nat×Nat×Opd)}{args cs vs z:List AV}{ks:List LK}{dead:List Nat}{xs:List Opd}{ops:List SOper}{N:NM}{f g i m off:Nat}{F:Nat->Prop}{x y:Opd}{o:Option AV}{k:Option Nat}{c:Prop}{b:SCode}{sf:SFn}{Q:SX->St->Prop}{s:Site}{L T:Tmps}
inductive Fr where|sq(b:SCode)|blk(i:Nat)
def ct(P:Program)(N:NM):List Fr->QC->QC
 |[],Q=>Q|.sq b::fs,Q=>fun e T h n=>match e with|.normal=>wpC P N b n T h (ct P N fs Q)|e=>ct P N fs Q e T h n
 |.blk i::fs,Q=>fun e T h n=>match e with|.exit j=>if j=i then ct P N fs Q .normal T h n else ct P N fs Q (.exit j) T h n|e=>ct P N fs Q e T h n
def wS(P:Program)(N:NM)(c:SCode)(fs:List Fr)(n:Nat)(T:Tmps)(h:Heap)(Q:QC):Prop:=wpC P N c n T h (ct P N fs Q)
def wR(P:Program)(N:NM)(ops:List SOper)(dead:List Nat)(fs:List Fr)(n:Nat)(T:Tmps)(h:Heap)(Q:QC):Prop:=wpR P n ops T h fun T h n=>ct P N fs Q .normal (rm T dead) h n
def wX(P:Program)(N:NM)(e:SX)(fs:List Fr)(n:Nat)(T:Tmps)(h:Heap)(Q:QC):Prop:=ct P N fs Q e T h n
def wO(P:Program)(N:NM)(o:Option AV)(d:Option Nat)(ops:List SOper)(dead:List Nat)(fs:List Fr)(n:Nat)(T:Tmps)(h:Heap)(Q:QC):Prop:=∃v,o=some v/\wR P N ops dead fs (n+1) (putD T d v) h Q
def wM(P:Program)(N:NM)(m:HM AV)(d:Option Nat)(ops:List SOper)(dead:List Nat)(fs:List Fr)(n:Nat)(T:Tmps)(h:Heap)(Q:QC):Prop:=∃v h1,m.run h=some (v,h1)/\wR P N ops dead fs (n+1) (putD T d v) h1 Q
def wG(P:Program)(N:NM)(o:Option Bool)(d:Option Nat)(op:SOp)(ops:List SOper)(dead:List Nat)(fs:List Fr)(n:Nat)(T:Tmps)(h:Heap)(Q:QC):Prop:=match o with|some true=>wR P N (⟨d,op,[],none⟩::ops) dead fs n T h Q|some false=>wR P N ops dead fs (n+1) (putD T d (.tup [])) h Q|none=>False
def wC(P:Program)(N:NM)(x:AV)(a b:SCode)(fs:List Fr)(n:Nat)(T:Tmps)(h:Heap)(Q:QC):Prop:=∃t,x=.bool t/\if t=true then wS P N a fs n T h Q else wS P N b fs n T h Q
def wCall(P:Program)(N:NM)(m:CallM)(x:AV)(args:List AV)(d:Option Nat)(ops:List SOper)(dead:List Nat)(fs:List Fr)(n:Nat)(T:Tmps)(h:Heap)(Q:QC):Prop:=match x with
 |.fn f a c=>match m with|.pure=>∃v,PSpec P f (a++args++c) v/\wR P N ops dead fs (n+1) (putD T d v) h Q|.heap=>∃v h1,HSpec P f (a++args++c) h v h1/\wR P N ops dead fs (n+1) (putD T d v) h1 Q|.borrow=>∃i h1 v,(mapH (frzH 4) (a++args++c)).run h=some (i,h1)/\PSpec P f i v/\flatV v=true/\wR P N ops dead fs (n+1) (putD T d v) h1 Q
 |.yld b g=>match m with|.heap=>∃v h1,RSpec P b g args h v h1/\wR P N ops dead fs (n+1) (putD T d v) h1 Q|_=>False
 |_=>False
section
variable{N:NM}{n:Nat}{T:Tmps}{h:Heap}{Q:QC}{fs:List Fr}
theorem QoW:wS P N .skip fs n T h Q=wX P N .normal fs n T h Q:=rfl
theorem Qq9:wS P N .ret fs n T h Q=wX P N .ret fs n T h Q:=rfl
theorem QoX:wS P N (.exit i) fs n T h Q=wX P N (.exit i) fs n T h Q:=rfl
theorem QkY:wS P N (.region ops [] dead) fs n T h Q=wR P N ops dead fs n T h Q:=rfl
theorem Qra{a}:wS P N (.seq a b) fs n T h Q=wS P N a (.sq b::fs) n T h Q:=rfl
theorem QoY{a}:wS P N (.cond x a b) fs n T h Q=wC P N (ev T x) a b fs n T h Q:=rfl
theorem QmE:wS P N (.block i b) fs n T h Q=wS P N b (.blk i::fs) n T h Q:=rfl
theorem QoZ{a}:wC P N (.bool true) a b fs n T h Q=wS P N a fs n T h Q:=by simp[wC]
theorem QmF{a}:wC P N (.bool false) a b fs n T h Q=wS P N b fs n T h Q:=by simp[wC]
theorem Qo0{a}:wC P N (.bool t) a b fs n T h Q=if t=true then wS P N a fs n T h Q else wS P N b fs n T h Q:=by simp_all[wC]
theorem Qrb{e}:wX P N e [] n T h Q=Q e T h n:=rfl
theorem wX_sq:wX P N .normal (.sq b::fs) n T h Q=wS P N b fs n T h Q:=rfl
theorem QkZ:wX P N .ret (.sq b::fs) n T h Q=wX P N .ret fs n T h Q:=rfl
theorem Qi3:wX P N (.exit i) (.sq b::fs) n T h Q=wX P N (.exit i) fs n T h Q:=rfl
theorem Qrc:wX P N .normal (.blk i::fs) n T h Q=wX P N .normal fs n T h Q:=rfl
theorem Qi4:wX P N .ret (.blk i::fs) n T h Q=wX P N .ret fs n T h Q:=rfl
theorem QhK{j}:wX P N (.exit j) (.blk i::fs) n T h Q=if j=i then wX P N .normal fs n T h Q else wX P N (.exit j) fs n T h Q:=rfl
end
theorem ev_t(T)(i):ev T (.t i)=lk T i:=rfl
theorem ev_c(T)(v):ev T (.c v)=v:=rfl
theorem ev_f(T)(n):ev T (.f n)=.fn n [] []:=rfl
theorem Qrd(i):lk [] i=.any:=rfl
theorem Qbb(j)(v)(r:Tmps)(i):lk ((j,v)::r) i=if j=i then v else lk r i:=by simp_all[lk]
theorem Qj4(j)(u)(r:Tmps)(i)(v):up ((j,u)::r) i v=if j=i then(j,v)::r else(j,u)::up r i v:=by simp_all[up]
theorem Qre(i)(v):up [] i v=[(i,v)]:=rfl
theorem Qrf(l):rm [] l=[]:=rfl
theorem rm_no(T):rm T []=T:=by induction T with|nil=>rfl|cons p T a=>obtain⟨j,u⟩:=p;simp[rm,a]
theorem Qo1(j)(u)(r:Tmps)(l):rm ((j,u)::r) l=if l.elem j=true then rm r l else(j,u)::rm r l:=by simp_all[rm]
theorem Qk0(T)(d)(v):putD T (some d) v=up T d v:=rfl
theorem Qk1(T)(v):putD T none v=T:=rfl
theorem QmG(k):argT k []=[]:=rfl
theorem Qk2(k)(x)(xs):argT k (x::xs)=(k,x)::argT (k+1) xs:=rfl
theorem Qo2(T):evs T []=[]:=rfl
theorem QmH(T)(x)(r):evs T (x::r)=ev T x::evs T r:=rfl
theorem QmI(T):evo T none=none:=rfl
theorem QmJ(T)(x):evo T (some x)=some (ev T x):=rfl
theorem QhL(T):evParts T []=[]:=rfl
theorem QgB(T)(a b)(x)(r):evParts T ((a,b,x)::r)=(a,b,ev T x)::evParts T r:=rfl
section
variable{N:NM}{n:Nat}{d:Option Nat}{af dead:List Nat}{r:List SOper}{T:Tmps}{h:Heap}{Q:QC}{fs:List Fr}
theorem Qrg:wR P N [] dead fs n T h Q=wX P N .normal fs n (rm T dead) h Q:=rfl
theorem QmK{op}:wR P N (⟨d,op,af,some (g,w)⟩::r) dead fs n T h Q=wG P N (wantedA (lk T g) w) d op r dead fs n T h Q:=by
 apply propext;unfold wG;constructor;·rintro⟨v,h1,f,⟨b,hw,hb⟩,hk⟩;rw[hw];cases b with|true=>rw[if_pos rfl]at hb;exact⟨v,h1,f,hb,hk⟩|false=>rw[if_neg (by simp)]at hb;obtain⟨rfl,rfl,rfl⟩:=hb;exact hk
 ·intro hk;cases hw:wantedA (lk T g) w with|none=>rw[hw]at hk;exact hk.elim|some b=>rw[hw]at hk;cases b with|true=>obtain⟨v,h1,f,hs,hk⟩:=hk;exact⟨v,h1,f,⟨true,hw,by rw[if_pos rfl];exact hs⟩,hk⟩|false=>exact⟨.tup [],h,⟨false,[],[]⟩,⟨false,hw,by simp⟩,hk⟩
theorem Qo3{b}{op}:wG P N (wantedA (.bool b) w) d op r dead fs n T h Q=if b=w then wR P N (⟨d,op,[],none⟩::r) dead fs n T h Q else wR P N r dead fs (n+1) (putD T d (.tup [])) h Q:=by grind[wG,wantedA]
theorem Qo4{op}:wG P N (wantedA (.tup []) w) d op r dead fs n T h Q=wR P N r dead fs (n+1) (putD T d (.tup [])) h Q:=by simp[wG,wantedA]
theorem Qbr{op}(e:aop n T op=lift o):wR P N (⟨d,op,af,none⟩::r) dead fs n T h Q=wO P N o d r dead fs n T h Q:=by
 apply propext;constructor;·rintro⟨v,h1,f,⟨out,g,hm,ho⟩,a⟩;rw[e]at hm;obtain⟨u,c,he⟩:=QaZ hm;cases he;obtain⟨rfl,rfl,_⟩:=ho;exact⟨_,c,a⟩
 rintro⟨v,b,a⟩;refine⟨v,h,_,⟨.val v,h,?_,rfl,rfl,rfl⟩,a⟩;rw[e,b];rfl
theorem run_hval':∀(m:HM AV)(h:Heap),m.run h=some (v,h1)->(hval m).run h=some (.val v,h1):=by intro m;induction m with|ret a=>intro h hm;simp only[HM.run,Zab,Zal]at hm;obtain⟨rfl,rfl⟩:=hm;rfl|fail=>intro h hm;simp[HM.run]at hm|look b k d=>intro h hm;exact d _ h hm|put b x k d=>
 intro h hm;obtain⟨f,hm⟩:=Qa5 hm;have:=d _ hm;simp only[hval,HM.bind,HM.run];have c:Nat.blt b lim=true:=by simp_all
 rw[c];exact this
theorem QbK{op}{m}(e:aop n T op=hval m):wR P N (⟨d,op,af,none⟩::r) dead fs n T h Q=wM P N m d r dead fs n T h Q:=by
 apply propext;constructor;·rintro⟨v,h1,f,⟨out,c,hm,ho⟩,a⟩;rw[e]at hm;obtain⟨u,g,b,he⟩:=QaU hm;cases he;obtain⟨rfl,rfl,_⟩:=ho;exact⟨_,_,b,a⟩
 rintro⟨v,h1,i,a⟩;exact⟨v,h1,_,⟨.val v,h1,by grind[run_hval'],rfl,rfl,rfl⟩,a⟩
theorem Qrh:wR P N (⟨d,.mov x,af,none⟩::r) dead fs n T h Q=wR P N r dead fs (n+1) (putD T d (ev T x)) h Q:=by rw[Qbr (o:=some (ev T x)) rfl];simp[wO]
theorem Qo5{ys}:wR P N (⟨d,.mkfn f xs ys,af,none⟩::r) dead fs n T h Q=wR P N r dead fs (n+1) (putD T d (.fn f (evs T xs) (evs T ys))) h Q:=by rw[Qbr (o:=some (.fn f (evs T xs) (evs T ys))) rfl];simp[wO]
theorem Qo6{c a b}:wR P N (⟨d,.pick c a b,af,none⟩::r) dead fs n T h Q=wO P N (aPick (ev T c) (ev T a) (ev T b)) d r dead fs n T h Q:=Qbr rfl
theorem QmL:wR P N (⟨d,.build z a,af,none⟩::r) dead fs n T h Q=wO P N (aBuild z (evParts T a)) d r dead fs n T h Q:=Qbr rfl
theorem Qk3:wR P N (⟨d,.nilchk x,af,none⟩::r) dead fs n T h Q=wO P N (aNil (ev T x)) d r dead fs n T h Q:=Qbr rfl
theorem Qri{op}:wR P N (⟨d,.bin op x y,af,none⟩::r) dead fs n T h Q=wO P N (aBin op (ev T x) (ev T y)) d r dead fs n T h Q:=Qbr rfl
theorem wR_eq{k}:wR P N (⟨d,.eq k neg x y,af,none⟩::r) dead fs n T h Q=wO P N (aEq k neg (ev T x) (ev T y)) d r dead fs n T h Q:=Qbr rfl
theorem Qrj:wR P N (⟨d,.eqn neg x,af,none⟩::r) dead fs n T h Q=wM P N (aEqN neg (ev T x)) d r dead fs n T h Q:=QbK rfl
theorem Qi5{sz bytes}{zero}:wR P N (⟨d,.appendZ s sz bytes zero x y,af,none⟩::r) dead fs n T h Q=wM P N (aAppendZ s n sz bytes zero (ev T x) (ev T y)) d r dead fs n T h Q:=QbK rfl
theorem QmM{sz bytes}{zero}:wR P N (⟨d,.clear sz bytes zero x,af,none⟩::r) dead fs n T h Q=wM P N (aClear sz zero (ev T x)) d r dead fs n T h Q:=QbK rfl
theorem Qrk:wR P N (⟨d,.cap x,af,none⟩::r) dead fs n T h Q=wO P N (aCap (ev T x)) d r dead fs n T h Q:=Qbr rfl
theorem wR_un{op}:wR P N (⟨d,.un op x,af,none⟩::r) dead fs n T h Q=wO P N (aUn op (ev T x)) d r dead fs n T h Q:=Qbr rfl
theorem Qo7{k}:wR P N (⟨d,.conv k x,af,none⟩::r) dead fs n T h Q=wO P N (aConv k (ev T x)) d r dead fs n T h Q:=Qbr rfl
theorem QeJ:wR P N (⟨d,.convS x,af,none⟩::r) dead fs n T h Q=wO P N (aConvS (ev T x)) d r dead fs n T h Q:=Qbr rfl
theorem Qtn:wR P N (⟨d,.convB x,af,none⟩::r) dead fs n T h Q=wM P N (aConvB (ev T x)) d r dead fs n T h Q:=QbK rfl
theorem QmN{sz}{l a m}:wR P N (⟨d,.slice sz x l a m,af,none⟩::r) dead fs n T h Q=wO P N (aSliceC sz (ev T x) (evo T l) (evo T a) (evo T m)) d r dead fs n T h Q:=Qbr rfl
theorem QmO{o}:wR P N (⟨d,.faddr o x,af,none⟩::r) dead fs n T h Q=wO P N (aFAddr o (ev T x)) d r dead fs n T h Q:=Qbr rfl
theorem QmP{o}:wR P N (⟨d,.field k o x,af,none⟩::r) dead fs n T h Q=wO P N (aField k o (ev T x)) d r dead fs n T h Q:=Qbr rfl
theorem QmQ{a}{sz}{j}:wR P N (⟨d,.iaddr a sz x j,af,none⟩::r) dead fs n T h Q=wO P N (aIAddr a sz (ev T x) (ev T j)) d r dead fs n T h Q:=Qbr rfl
theorem QmR{a}{j}:wR P N (⟨d,.index a x j,af,none⟩::r) dead fs n T h Q=wO P N (aIndex a (ev T x) (ev T j)) d r dead fs n T h Q:=Qbr rfl
theorem Qi6{j}:wR P N (⟨d,.extract j x,af,none⟩::r) dead fs n T h Q=wO P N (aExtract j (ev T x)) d r dead fs n T h Q:=Qbr rfl
theorem Qk4{mn}:wR P N (⟨d,.maxmin mn xs,af,none⟩::r) dead fs n T h Q=wO P N (aMax mn (evs T xs)) d r dead fs n T h Q:=Qbr rfl
theorem QmS{z}:wR P N (⟨d,.alloc s z,af,none⟩::r) dead fs n T h Q=wM P N (aBox s n z) d r dead fs n T h Q:=QbK rfl
theorem Qrl:wR P N (⟨d,.box s x,af,none⟩::r) dead fs n T h Q=wM P N (aBox s n (ev T x)) d r dead fs n T h Q:=QbK rfl
theorem Qk5{fz}{sz len}:wR P N (⟨d,.bslice fz s sz len z a,af,none⟩::r) dead fs n T h Q=wM P N (aBuildSlice fz s n sz len z (evParts T a)) d r dead fs n T h Q:=QbK rfl
theorem Qo8:wR P N (⟨d,.load k x,af,none⟩::r) dead fs n T h Q=wM P N (aLoad k (ev T x)) d r dead fs n T h Q:=QbK rfl
theorem QmT{k}{v}:wR P N (⟨d,.store k x v,af,none⟩::r) dead fs n T h Q=wM P N (aStore k (ev T x) (ev T v)) d r dead fs n T h Q:=QbK rfl
theorem QmU:wR P N (⟨d,.mkmap s,af,none⟩::r) dead fs n T h Q=wM P N (aMakeMap s n) d r dead fs n T h Q:=QbK rfl
theorem Qi7{sz b}{l c}:wR P N (⟨d,.mkslice s sz b z l c,af,none⟩::r) dead fs n T h Q=wM P N (aMakeSlice s n sz b z (ev T l) (ev T c)) d r dead fs n T h Q:=QbK rfl
theorem Qk6{row}{z}{ok}{k}:wR P N (⟨d,.lookup row ks z ok x k,af,none⟩::r) dead fs n T h Q=wM P N (aLookup row ks z ok (ev T x) (ev T k)) d r dead fs n T h Q:=QbK rfl
theorem Qo9{row}{k v}:wR P N (⟨d,.mupd row ks x k v,af,none⟩::r) dead fs n T h Q=wM P N (aMapUpd row ks (ev T x) (ev T k) (ev T v)) d r dead fs n T h Q:=QbK rfl
theorem Qrm{k}:wR P N (⟨d,.len k x,af,none⟩::r) dead fs n T h Q=wM P N (aLenC k (ev T x)) d r dead fs n T h Q:=QbK rfl
theorem Qk7{sz b}:wR P N (⟨d,.append s sz b x y,af,none⟩::r) dead fs n T h Q=wM P N (aAppend s n sz b (ev T x) (ev T y)) d r dead fs n T h Q:=QbK rfl
theorem Qpa{sz}:wR P N (⟨d,.copy sz x y,af,none⟩::r) dead fs n T h Q=wM P N (aCopy sz (ev T x) (ev T y)) d r dead fs n T h Q:=QbK rfl
theorem Qpb{m}{args}:wR P N (⟨d,.call m x args,af,none⟩::r) dead fs n T h Q=wCall P N m (ev T x) (evs T args) d r dead fs n T h Q:=by
 apply propext;have e:aop n T (.call m x args)=aCall m (ev T x) (evs T args):=rfl;constructor
 ·rintro⟨v,h1,f,⟨out,h2,hm,ho⟩,hk⟩;rw[e]at hm;unfold aCall at hm;unfold wCall;cases hx:ev T x<;>rw[hx]at hm<;>first|(simp[HM.run]at hm;done)|skip
  rotate_left;·cases m<;>simp only[HM.run,Zab,Zal,reduceCtorEq]at hm;obtain⟨rfl,rfl⟩:=hm;exact⟨_,_,ho.1,hk⟩
  simp only at hm;rename_i g a c;cases m
  ·simp only[HM.run,Zab,Zal]at hm;obtain⟨rfl,rfl⟩:=hm;rcases ho with⟨ho,_⟩|⟨b,y,xs,hg,hb,rfl,_⟩|ho|ho;·exact⟨_,_,ho,hk⟩
   ·exact⟨_,_,hg.heap hb,hk⟩
   ·exact⟨_,_,ho.heap,hk⟩
   ·exact⟨_,_,ho.heap,hk⟩
  ·simp only[HM.run,Zab,Zal]at hm;obtain⟨rfl,rfl⟩:=hm;obtain⟨hp,rfl,_⟩:=ho;exact⟨_,hp,hk⟩
  ·obtain⟨asg,h3,k1,k2⟩:=run_bind hm;simp only[HM.run,Zab,Zal]at k2;obtain⟨rfl,rfl⟩:=k2;obtain⟨hp,hf,rfl,_⟩:=ho;exact⟨_,_,_,k1,hp,hf,hk⟩
 ·intro hk;unfold wCall at hk;cases hx:ev T x<;>rw[hx]at hk<;>first|exact hk.elim|skip
  rotate_left
  ·rename_i b g;cases m;·obtain⟨v,h1,hs,hk⟩:=hk;exact⟨v,h1,_,⟨.round b g (evs T args),h,by rw[e,hx];rfl,hs,rfl⟩,hk⟩
   ·exact hk.elim
   simp_all
  rename_i g a c;cases m;·obtain⟨v,h1,hs,hk⟩:=hk;exact⟨v,h1,_,⟨.call .heap g (a++evs T args++c),h,by rw[e,hx];rfl,.inl ⟨hs,rfl⟩⟩,hk⟩
  ·obtain⟨v,hs,hk⟩:=hk;exact⟨v,h,_,⟨.call .pure g (a++evs T args++c),h,by rw[e,hx];rfl,hs,rfl,rfl⟩,hk⟩
  ·obtain⟨asg,h1,v,hm,hs,hf,hk⟩:=hk;refine⟨v,h1,_,⟨.call .borrow g asg,h1,?_,hs,hf,rfl,rfl⟩,hk⟩;rw[e,hx];have:∀(m:HM (List AV))(h:Heap)(k:List AV->AOut),m.run h=some (asg,h1)->(m.bind fun asg=>.ret (k asg)).run h=some (k asg,h1):=by intro m;induction m with|ret a=>intro h k hm;simp only[HM.run,Zab,Zal]at hm;obtain⟨rfl,rfl⟩:=hm;rfl|fail=>intro h k hm;simp[HM.run]at hm|look b k' ih=>intro h k hm;exact ih _ h k hm|put b x k' ih=>
    exact bh3qM
   exact this _ h (fun asg=>.call .borrow g asg) hm
theorem Qes:wO P N (some v) d r dead fs n T h Q=wR P N r dead fs (n+1) (putD T d v) h Q:=by simp[wO]
theorem Qpc:wO P N none d r dead fs n T h Q=False:=by simp[wO]
theorem QmV[Decidable c]{a b}(hc:c):wO P N (if c then a else b) d r dead fs n T h Q=wO P N a d r dead fs n T h Q:=by rw[if_pos hc]
theorem Qrn[Decidable c]{a b}(hc:¬c):wO P N (if c then a else b) d r dead fs n T h Q=wO P N b d r dead fs n T h Q:=by rw[if_neg hc]
theorem Qv0[Decidable c]{a}:wO P N (if c then a else none) d r dead fs n T h Q=(c/\wO P N a d r dead fs n T h Q):=by grind[Qpc]
theorem cp(hp:PSpec P f args v)(k:wR P N r dead fs (n+1) (putD T d v) h Q):wCall P N .pure (.fn f [] []) args d r dead fs n T h Q:=⟨v,by simpa using hp,k⟩
theorem ch(hp:HSpec P f args h v h1)(k:wR P N r dead fs (n+1) (putD T d v) h1 Q):wCall P N .heap (.fn f [] []) args d r dead fs n T h Q:=⟨v,h1,by simpa using hp,k⟩
theorem Qk8{a c}(hp:HSpec P f (a++args++c) h v h1)(k:wR P N r dead fs (n+1) (putD T d v) h1 Q):wCall P N .heap (.fn f a c) args d r dead fs n T h Q:=⟨v,h1,hp,k⟩
def ldB(o:Option Blk)(g off:Nat)(m:Option Nat):Option AV:=match o with|some (.cells a cs)=>if a=g then(match m with|none=>cs[off]?|some m=>if off+m<=cs.length then some (.agg ((cs.drop off).take m))else none)else none|_=>none
def stB(o:Option Blk)(g off m:Nat)(v:AV):Option Blk:=match o with|some (.cells a cs)=>if a=g/\v.cells.length=m/\off+m<=cs.length/\v.cells.all AV.one=true then some (.cells g (putR cs off v.cells))else none|_=>none
def wB(P:Program)(N:NM)(o:Option Blk)(b:Nat)(v:AV)(d:Option Nat)(ops:List SOper)(dead:List Nat)(fs:List Fr)(n:Nat)(T:Tmps)(h:Heap)(Q:QC):Prop:=∃x,o=some x/\b<lim/\wR P N ops dead fs (n+1) (putD T d v) (h.set b x) Q
def wN(P:Program)(N:NM)(x:List AV)(v:AV)(d:Option Nat)(ops:List SOper)(dead:List Nat)(fs:List Fr)(n:Nat)(T:Tmps)(h:Heap)(Q:QC):Prop:=h.get n=none/\n<lim/\wR P N ops dead fs (n+1) (putD T d v) (h.set n (.cells 0 x)) Q
theorem QcG:wM P N (.ret v) d r dead fs n T h Q=wR P N r dead fs (n+1) (putD T d v) h Q:=by
 apply propext;constructor;·rintro⟨v',h1,hm,k⟩;simp only[HM.run,Zab,Zal]at hm;simp_all
 ·intro k;exact⟨v,h,rfl,k⟩
theorem Qet:wM P N .fail d r dead fs n T h Q=False:=by simp[wM,HM.run]
theorem QmW:wM P N (.opt o) d r dead fs n T h Q=wO P N o d r dead fs n T h Q:=by cases o with|none=>simp[HM.opt,Qet,Qpc]|some v=>simp[HM.opt,QcG,Qes]
theorem QcZ[Decidable c]{m}:wM P N (if c then m else .fail) d r dead fs n T h Q=(c/\wM P N m d r dead fs n T h Q):=by grind[Qet]
theorem QeK{b}{x}:wM P N (.put b x (.ret v)) d r dead fs n T h Q=wB P N (some x) b v d r dead fs n T h Q:=by
 apply propext;constructor;·rintro⟨i,h1,hm,k⟩;obtain⟨c,hm⟩:=Qa5 hm;simp only[HM.run,Zab,Zal]at hm;obtain⟨rfl,rfl⟩:=hm;exact⟨x,rfl,c,k⟩
 rintro⟨g,f,c,k⟩;cases f;refine⟨v,_,?_,k⟩;simp only[HM.run];have a:Nat.blt b lim=true:=by simp_all
 rw[a];rfl
theorem Qfq{x}{b}(a:b<lim):wB P N (some x) b v d r dead fs n T h Q=wR P N r dead fs (n+1) (putD T d v) (h.set b x) Q:=by simp[wB,a]
theorem QcH{b}{k}:wM P N (.cells b g k) d r dead fs n T h Q=∃cs,h.get b=some (.cells g cs)/\wM P N (k cs) d r dead fs n T h Q:=by
 apply propext;constructor;·rintro⟨a,h1,hm,c⟩;obtain⟨cs,f,hm⟩:=Qbm hm;exact⟨cs,f,a,h1,hm,c⟩
 rintro⟨cs,f,a,h1,hm,c⟩;refine⟨a,h1,?_,c⟩;simp_all[HM.cells,HM.run]
theorem Qk9{a}:ldB (some (.cells a cs)) g off none=if a=g then cs[off]? else none:=rfl
theorem Qla{a}:ldB (some (.cells a cs)) g off (some m)=if a=g then(if off+m<=cs.length then some (.agg ((cs.drop off).take m))else none)else none:=rfl
theorem Qlb{m}{b}:wM P N (aLoad m (.ptr b g off)) d r dead fs n T h Q=wO P N (ldB (h.get b) g off m) d r dead fs n T h Q:=by
 simp only[aLoad,QcH];apply propext;constructor;·rintro⟨cs,f,c⟩;rw[f];cases m with|none=>simpa[ldB,QmW]using c|some m=>simp only[QcZ,QcG]at c;simp only[ldB,if_true];rw[QmV c.1,Qes];exact c.2
 rintro⟨v,a,c⟩;unfold ldB at a;split at a
 ·rename_i i cs f;split at a;·rename_i e;subst e;refine⟨cs,f,?_⟩;cases m with|none=>simp only at a;simp only[QmW,a,Qes];exact c|some m=>
   simp only at a;split at a;·simp_all[QcG]
   cases a
  cases a
 cases a
theorem QhM:wM P N (aLoad none (.fptr cs)) d r dead fs n T h Q=wO P N cs.head? d r dead fs n T h Q:=by simp only[aLoad,QmW]
theorem QhN:wM P N (aLoad (some m) (.fptr cs)) d r dead fs n T h Q=wO P N (if m<=cs.length then some (.agg (cs.take m))else none) d r dead fs n T h Q:=by simp only[aLoad,QcZ,QcG,Qv0,Qes]
theorem Qiq{a}:stB (some (.cells a cs)) g off m v=if a=g/\v.cells.length=m/\off+m<=cs.length/\v.cells.all AV.one=true then some (.cells g (putR cs off v.cells))else none:=rfl
theorem Qi8{b}:wM P N (aStore m (.ptr b g off) v) d r dead fs n T h Q=wB P N (stB (h.get b) g off m v) b .any d r dead fs n T h Q:=by
 simp only[aStore,QcH];apply propext;constructor;·rintro⟨cs,f,c⟩;simp only[QcZ,QeK]at c;rw[f,Qiq,if_pos ⟨rfl,c.1⟩];exact c.2
 rintro⟨x,a,i,c⟩;unfold stB at a;split at a
 ·rename_i k cs f;split at a;·rename_i e;obtain⟨rfl,e⟩:=e;cases a;refine⟨cs,f,?_⟩;simp only[QcZ,QeK];exact⟨e,_,rfl,i,c⟩
  cases a
 cases a
theorem Qto{x}(g:x.boxable=true):wM P N (aBox .dyn n x) d r dead fs n T h Q=wN P N x.cells (.ptr n 0 0) d r dead fs n T h Q:=by
 simp only[aBox,if_pos g];apply propext;constructor;·rintro⟨i,h1,hm,b⟩;unfold HM.new at hm;simp only[HM.run]at hm;cases a:h.get n with|none=>rw[a]at hm;obtain⟨f,hm⟩:=Qa5 hm;simp only[HM.run,Zab,Zal]at hm;obtain⟨rfl,rfl⟩:=hm;exact⟨a,f,b⟩|some z=>rw[a]at hm;cases hm
 rintro⟨a,f,b⟩;refine⟨_,_,?_,b⟩;unfold HM.new;simp only[HM.run,a];have c:Nat.blt n lim=true:=by simp_all
 rw[c];rfl
theorem Qv1{x}(b:h.get n=none)(a:n<lim):wN P N x v d r dead fs n T h Q=wR P N r dead fs (n+1) (putD T d v) (h.set n (.cells 0 x)) Q:=by grind[wN]
theorem Qlc{s}:wM P N (aLenC 0 (.str s)) d r dead fs n T h Q=wR P N r dead fs (n+1) (putD T d (.int .i64 s.length)) h Q:=by simp[aLenC,lenKind,aLen,QcG]
theorem QmX{b len sz}:wM P N (aLenC 1 (.sl b g off len sz)) d r dead fs n T h Q=wR P N r dead fs (n+1) (putD T d (.int .i64 len)) h Q:=by simp[aLenC,lenKind,aLen,QcG]
theorem Qld{len sz}:wM P N (aLenC 1 (.fsl cs len sz)) d r dead fs n T h Q=wR P N r dead fs (n+1) (putD T d (.int .i64 len)) h Q:=by simp[aLenC,lenKind,aLen,QcG]
theorem QhO:wM P N (aLenC 1 .nilsl) d r dead fs n T h Q=wR P N r dead fs (n+1) (putD T d (.int .i64 0)) h Q:=by simp[aLenC,lenKind,aLen,QcG]
theorem Qle:wM P N (aLenC 1 .esl) d r dead fs n T h Q=wR P N r dead fs (n+1) (putD T d (.int .i64 0)) h Q:=by simp[aLenC,lenKind,aLen,QcG]
end
section
variable{k:IntKind}{a b:Int}
theorem Qir:aBin .add (.int k a) (.int k b)=some (.int k (wr k (a+b))):=by simp[aBin]
theorem Qis:aBin .sub (.int k a) (.int k b)=some (.int k (wr k (a-b))):=by simp[aBin]
theorem Qit:aBin .mul (.int k a) (.int k b)=some (.int k (wr k (a*b))):=by simp[aBin]
theorem QmY:aBin .quo (.int k a) (.int k b)=if b=0 then none else some (.int k (wr k (a.tdiv b))):=by simp[aBin]
theorem QmZ:aBin .rem (.int k a) (.int k b)=if b=0 then none else some (.int k (a.tmod b)):=by simp[aBin]
theorem QeL:aBin .eql (.int k a) (.int k b)=some (.bool (decide (a=b))):=by simp[aBin]
theorem QeM:aBin .neq (.int k a) (.int k b)=some (.bool (!decide (a=b))):=by simp[aBin]
theorem QeN:aBin .lss (.int k a) (.int k b)=some (.bool (decide (a<b))):=by simp[aBin]
theorem QeO:aBin .leq (.int k a) (.int k b)=some (.bool (decide (a<=b))):=by simp[aBin]
theorem QeP:aBin .gtr (.int k a) (.int k b)=some (.bool (decide (b<a))):=by simp[aBin]
theorem QeQ:aBin .geq (.int k a) (.int k b)=some (.bool (decide (b<=a))):=by simp[aBin]
theorem Qpd{b}:aUn .not (.bool b)=some (.bool (!b)):=rfl
theorem Qpe:aUn .neg (.int k a)=some (.int k (wr k (0-a))):=rfl
theorem QgC{b}:aConv k (.int b a)=some (.int k (wr k a)):=rfl
theorem Qi9{x y}:aPick (.bool t) x y=some (if t then x else y):=rfl
theorem Qja{x y}:aPick (.bool true) x y=some x:=rfl
theorem QhP{x y}:aPick (.bool false) x y=some y:=rfl
theorem QgD{j}:aExtract j (.tup vs)=vs[j]?:=rfl
theorem Qm0:(v::vs)[0]?=some v:=rfl
theorem Qm1{j}:(v::vs)[j+1]?=vs[j]?:=rfl
theorem QgE(h1:-9223372036854775808<=n)(a:n<=9223372036854775807):wr .i64 n=n:=wr_of h1 a
theorem Qro(h1:0<=n)(a:n<=18446744073709551615):wr .u64 n=n:=wr_of h1 a
theorem wr_u8(h1:0<=n)(a:n<=255):wr .u8 n=n:=wr_of h1 a
theorem Qrp(h1:0<=n)(a:n<=65535):wr .u16 n=n:=wr_of h1 a
theorem Qrq(h1:0<=n)(a:n<=4294967295):wr .u32 n=n:=wr_of h1 a
theorem Qrr(h1:-2147483648<=n)(a:n<=2147483647):wr .i32 n=n:=wr_of h1 a
theorem Qjb{sz len s}:aIAddr none sz (.fsl cs len s) (.int k a)=if 0<=a/\a<len/\s=sz then some (.fptr (cs.drop (a.toNat*sz)))else none:=rfl
theorem Qlf{sz len s b}:aIAddr none sz (.sl b g off len s) (.int k a)=if 0<=a/\a<len/\s=sz then some (.ptr b g (off+a.toNat*sz))else none:=rfl
theorem Qjc{sz b}:aIAddr (some m) sz (.ptr b g off) (.int k a)=if 0<=a/\a<m then some (.ptr b g (off+a.toNat*sz))else none:=rfl
theorem QhQ{sz}:aIAddr (some m) sz (.fptr cs) (.int k a)=if 0<=a/\a<m then some (.fptr (cs.drop (a.toNat*sz)))else none:=rfl
theorem Qjd{o b}:aFAddr off (.ptr b g o)=some (.ptr b g (o+off)):=rfl
theorem QhR:aFAddr off (.fptr cs)=some (.fptr (cs.drop off)):=rfl
theorem Qje{sz}:aIndex (some (m,sz,false)) (.agg cs) (.int k a)=if 0<=a/\a<m then cs[a.toNat*sz]? else none:=by simp[aIndex]
theorem QhS:aField none off (.agg cs)=cs[off]?:=rfl
theorem QhT:aField (some m) off (.agg cs)=if off+m<=cs.length then some (.agg ((cs.drop off).take m))else none:=rfl
end
def Sub(L T:Tmps):Prop:=∀i,lk L i=.any\/lk L i=lk T i
theorem Sub.nil:Sub [] T:=fun _=>.inl rfl
theorem Sub.cons{j}(a:lk T j=v)(h:Sub L T):Sub ((j,v)::L) T:=by
 intro i;rw[Qbb];split;·simp_all
 exact h i
theorem Sub.of_eq(h:∀i,lk L i=lk T i):Sub L T:=fun i=>.inr (h i)
theorem W2.weak{c}(f:Sub L T)(hw:W2 P N c Q ⟨L,h⟩):W2 P N c Q ⟨T,h⟩:=by
 intro code b ctx a w S ro d Q' g;refine hw code b ctx a w ⟨S.heap,fun i=>?_,S.size,S.defers⟩ ro d Q' g;rcases f i with e|e;·simp_all[VRel]
 show VRel ctx w (lk L i) _;rw[e];exact S.tmps i
def loopQ(P:Program)(N:NM){α:Type}(env:α->Tmps)(H:α->Heap->Nat->Prop)(μ:α->Nat)(a:α)(fs:List Fr)(Q:QC):QC:=fun e T h n=>match e with|.normal=>∃b,μ b<μ a/\Sub (env b) T/\H b h n|e=>wX P N e fs n T h Q
section
variable{N:NM}{n:Nat}{T:Tmps}{h:Heap}{Q:QC}{fs:List Fr}{α:Type}{env:α->Tmps}{H:α->Heap->Nat->Prop}{μ:α->Nat}{a:α}
theorem QgF:loopQ P N env H μ a fs Q .normal T h n=∃b,μ b<μ a/\Sub (env b) T/\H b h n:=rfl
theorem Qjf:loopQ P N env H μ a fs Q (.exit i) T h n=wX P N (.exit i) fs n T h Q:=rfl
theorem Qlg:loopQ P N env H μ a fs Q .ret T h n=wX P N .ret fs n T h Q:=rfl
end
def wLp(P:Program)(N:NM)(b:SCode)(fs:List Fr)(n:Nat)(T:Tmps)(h:Heap)(Q:QC):Prop:=WL2 P N b (fun e B=>∃n,ct P N fs Q e B.T B.h n) ⟨T,h⟩
def unQ(P:Program)(N:NM)(b:SCode)(fs:List Fr)(Q:QC):QC:=fun e T h n=>match e with|.normal=>wLp P N b fs n T h Q|e=>wX P N e fs n T h Q
section
variable{N:NM}{n:Nat}{T:Tmps}{h:Heap}{Q:QC}{fs:List Fr}{b:SCode}
theorem Qjg:unQ P N b fs Q .normal T h n=wLp P N b fs n T h Q:=rfl
theorem Qm2:unQ P N b fs Q (.exit i) T h n=wX P N (.exit i) fs n T h Q:=rfl
theorem Qpf:unQ P N b fs Q .ret T h n=wX P N .ret fs n T h Q:=rfl
end
theorem PSpec.of_rn(n)(a:okFn P f sf=true)(c:Nat.ble args.length sf.n=true)(d:noRefs args=true)(b:noRef v=true)(hw:wS P ⟨sf.n,0⟩ sf.body [] n (argT 0 args) .e fun e T h _=>(e=.normal\/e=.ret)/\∃vs,resV T h sf.res=some vs/\Rn 0 π0 h v (resOf vs)):PSpec P f args v:=PSpec.of_W2 a (Zaw c) d b ((wpC.toW hw).mono fun e B⟨_,h⟩=>h)
theorem Qmj{ok}{c':Ctx ok}{w w'}(E:Evo2 m (only F) w c' w'):Go.RowKit.Below w.heap.size w w':=⟨E.os,E.tape,E.output,E.size,fun k a=>E.keep k a (fun h=>h)⟩
open Go.RowKit in theorem law_of_W2{f:Nat}{sf:SFn}{args:List AV}(hok:okFn P f sf=true)(hl:Nat.ble args.length sf.n=true)(hw:W2 P ⟨sf.n,0⟩ sf.body (fun e B=>(e=.normal\/e=.ret)/\resV B.T B.h sf.res=some [.bool true]) ⟨argT 0 args,.e⟩){F:Nat->Prop}{w:World}{cargs:Array Value}(hF:∀k,F k->k<w.heap.size)(ha:VRels (only (ok:=okc P) F) w args cargs.toList):Calls P f cargs w fun e w'=>e=.returned (.bool true)/\Below w.heap.size w w':=by
 refine(Qdo (R:=fun vs _=>vs=[.bool true]) hok (Zaw hl) (hw.mono ?_) (HRel.only hF) ha).mono ?_;·simp_all
 ·rintro e w'⟨cv,c',vs,h',rfl,E,H,V,rfl⟩;simp only[resOf,VRel]at V;subst V;exact⟨rfl,Qmj E⟩
theorem PSpec.Qat(n)(a:okFn P f sf=true)(c:Nat.ble args.length sf.n=true)(d:noRefs args=true)(b:noRef v=true)(hw:wS P ⟨sf.n,0⟩ sf.body [] n (argT 0 args) .e fun e T h _=>(e=.normal\/e=.ret)/\∃vs,resV T h sf.res=some vs/\resOf vs=v):PSpec P f args v:=PSpec.of_W2 a (Zaw c) d b ((wpC.toW hw).mono fun e B⟨_,he,vs,h1,g⟩=>⟨he,vs,h1,by simp_all[Zcs]⟩)
theorem PSpec.toH(S:PSpec P f args v)(h):HSpec P f args h v h:=by obtain⟨d,hc,_⟩:=S.2.2;exact⟨hc,fun c w a H b=>(S.pure H b).2⟩
end Go.AM
theorem _root_.Go.AM.Zcu:type_of%@Go.AM.PSpec.of_rn:=@Go.AM.PSpec.of_rn
theorem _root_.Go.AM.Zcv:type_of%@Go.AM.PSpec.Qat:=@Go.AM.PSpec.Qat
namespace Go.AM
variable{P:Program}
variable{a k:IntKind}{m:Nat}{β:Type}
noncomputable section
structure FFn where
 n:Nat
 res:List SRes
 body:FCode
def FFn.slim(f:FFn):SFn:=⟨f.n,f.res,f.body.slim⟩
structure Ans(α:Type)where
 bad:α
 asm:List AV->List AV->α->α
 holds:α->Prop
def ansB:Ans Bool:=⟨false,fun _ _ _=>false,fun b=>b=true⟩
structure Ans.OK{α:Type}(A:Ans α):Prop where
 bad:¬A.holds A.bad
 asm:∀x y p,A.holds (A.asm x y p)->x=y/\A.holds p
theorem Qpg:ansB.OK:=⟨fun h=>(by cases h),fun _ _ _ h=>(by cases h)⟩
variable{α:Type}
abbrev ifB(c:Bool)(a b:α):α:=@Bool.rec (fun _=>α) b a c
theorem QaL(c)(a b:α):ifB c a b=if c=true then a else b:=by cases c<;>rfl
def fNat(m:Nat)(k:Nat->α):α:=@Nat.rec (fun _=>α) (k 0) (fun n _=>k (Nat.succ n)) m
theorem Qby(m)(k:Nat->α):fNat m k=k m:=by cases m<;>rfl
def fInt(n:Int)(k:Int->α):α:=@Int.rec (fun _=>α) (fun m=>fNat m fun m=>k (.ofNat m)) (fun m=>fNat m fun m=>k (.negSucc m)) n
theorem Quy(n)(k:Int->α):fInt n k=k n:=by cases n<;>simp[fInt,Qby]
def fBool(b:Bool)(k:Bool->α):α:=@Bool.rec (fun _=>α) (k false) (k true) b
theorem Qc2(b)(k:Bool->α):fBool b k=k b:=by cases b<;>rfl
def fList{β:Type}(l:List β)(k:List β->α):α:=@List.rec β (fun _=>(List β->α)->α) (fun k=>k []) (fun x _ a k=>a fun r=>k (x::r)) l k
theorem Qc3(l)(k:List β->α):fList l k=k l:=by
 have:∀(l:List β)(k:List β->α),@List.rec β (fun _=>(List β->α)->α) (fun k=>k []) (fun x _ ih k=>ih fun r=>k (x::r)) l k=k l:=by intro l;induction l with|nil=>intro k;rfl|cons x r ih=>intro k;exact ih _
 exact this l k
def fAV(v:AV)(k:AV->α):α:=match v with|.int t n=>fInt n fun n=>k (.int t n)|.bool b=>fBool b fun b=>k (.bool b)|.any=>k .any|.str s=>fList s fun s=>k (.str s)|.agg cs=>fList cs fun cs=>k (.agg cs)|.tup cs=>fList cs fun cs=>k (.tup cs)|.nilptr=>k .nilptr|.ptr b g o=>fNat o fun o=>k (.ptr b g o)|.fptr cs=>fList cs fun cs=>k (.fptr cs)|.nilsl=>k .nilsl|.sl b g o l s=>fNat o fun o=>fNat l fun l=>k (.sl b g o l s)|.fsl cs l s=>fNat l fun l=>fList cs fun cs=>k (.fsl cs l s)|.esl=>k .esl|.nsl=>k .nsl|.nilmap=>k .nilmap|.map b g=>k (.map b g)|.fmap x y=>fList x fun x=>fList y fun y=>k (.fmap x y)|.nilfn=>k .nilfn|.fn f x y=>fList x fun x=>fList y fun y=>k (.fn f x y)|.yld b g=>k (.yld b g)|.nilif=>k .nilif|.ifc t v=>k (.ifc t v)|.typed t n v=>fNat t fun t=>fNat n fun n=>k (.typed t n v)
theorem Qdp(v)(k:AV->α):fAV v k=k v:=by unfold fAV;grind[Quy,Qc2,Qc3,Qby]
def fBlk(x:Blk)(k:Blk->α):α:=match x with|.cells g cs=>fList cs fun cs=>k (.cells g cs)|x=>k x
theorem Quz(x)(k:Blk->α):fBlk x k=k x:=by unfold fBlk;grind[Qc3]
def lkK(T:Tmps)(i:Nat)(k:AV->α):α:=@List.rec (Nat×AV) (fun _=>α) (k .any) (fun p _ a=>ifB (Nat.beq p.1 i) (k p.2) a) T
theorem Qfr(T)(i)(k:AV->α):lkK T i k=k (lk T i):=by induction T with|nil=>rfl|cons p T a=>
 show ifB (Nat.beq p.1 i) (k p.2) (lkK T i k)=_;rw[a,QaL,Qbb];by_cases h:p.1=i;·subst h;simp
 simp_all[ZaI]
def evK(T:Tmps)(x:Opd)(k:AV->α):α:=@Opd.rec (fun _=>α) (fun i=>lkK T i k) (fun v=>k v) (fun n=>k (.fn n [] [])) (fun _=>k .any) x
theorem Qbu(T)(x)(k:AV->α):evK T x k=k (ev T x):=by
 cases x;·exact Qfr _ _ _
 ·rfl
 ·rfl
 rfl
def upR(T:Tmps)(i:Nat)(v:AV)(k:Tmps->α):α:=@List.rec (Nat×AV) (fun _=>(Tmps->α)->α) (fun k=>k [(i,v)]) (fun p r a k=>ifB (Nat.beq p.1 i) (k ((i,v)::r)) (a fun b=>k (p::b))) T k
theorem Qd8(T)(i)(v)(k:Tmps->α):upR T i v k=k (up T i v):=by
 have:∀(T:Tmps)(k:Tmps->α),@List.rec (Nat×AV) (fun _=>(Tmps->α)->α) (fun k=>k [(i,v)]) (fun p r a k=>ifB (Nat.beq p.1 i) (k ((i,v)::r)) (a fun b=>k (p::b))) T k=k (up T i v):=by intro T;induction T with|nil=>intro k;rfl|cons p T a=>
  intro k;show ifB (Nat.beq p.1 i) (k ((i,v)::T)) (@List.rec (Nat×AV) (fun _=>(Tmps->α)->α) (fun k=>k [(i,v)]) (fun p r a k=>ifB (Nat.beq p.1 i) (k ((i,v)::r)) (a fun b=>k (p::b))) T fun b=>k (p::b))=_;rw[a,QaL,Qj4];by_cases h:p.1=i;·subst h;simp
  simp_all[ZaI]
 exact this T k
def putS(a:Bool)(T:Tmps)(dst:Option Nat)(v:AV)(k:Tmps->α):α:=@Option.rec Nat (fun _=>α) (k T) (fun d=>ifB a (k ((d,v)::T)) (upR T d v k)) dst
theorem Qlh(a)(T)(dst)(v)(k:Tmps->α):∃T',putS a T dst v k=k T'/\∀i,lk T' i=lk (putD T dst v) i:=by cases dst with|none=>exact⟨T,rfl,fun _=>rfl⟩|some d=>cases a with|false=>exact⟨up T d v,Qd8 T d v k,fun _=>rfl⟩|true=>
 refine⟨(d,v)::T,rfl,fun i=>?_⟩;rw[Qbb,QbJ];by_cases h:d=i;·subst h;simp
 simp_all
def rmR(m:Nat)(T:Tmps)(k:Tmps->α):α:=@List.rec (Nat×AV) (fun _=>(Tmps->α)->α) (fun k=>k []) (fun p r a k=>ifB (Nat.beq (Nat.land (Nat.shiftRight m p.1) 1) 1) (a k) (a fun b=>k (p::b))) T k
def rmM(m:Nat):Tmps->Tmps|[]=>[]|p::r=>if Nat.beq (Nat.land (Nat.shiftRight m p.1) 1) 1=true then rmM m r else p::rmM m r
theorem Qrs(m)(T)(k:Tmps->α):rmR m T k=k (rmM m T):=by
 have:∀(T:Tmps)(k:Tmps->α),@List.rec (Nat×AV) (fun _=>(Tmps->α)->α) (fun k=>k []) (fun p r a k=>ifB (Nat.beq (Nat.land (Nat.shiftRight m p.1) 1) 1) (a k) (a fun b=>k (p::b))) T k=k (rmM m T):=by intro T;induction T with|nil=>intro k;rfl|cons p T a=>intro k;show ifB (Nat.beq (Nat.land (Nat.shiftRight m p.1) 1) 1) (@List.rec (Nat×AV) (fun _=>(Tmps->α)->α) (fun k=>k []) (fun p r a k=>ifB (Nat.beq (Nat.land (Nat.shiftRight m p.1) 1) 1) (a k) (a fun b=>k (p::b))) T k) (@List.rec (Nat×AV) (fun _=>(Tmps->α)->α) (fun k=>k []) (fun p r a k=>ifB (Nat.beq (Nat.land (Nat.shiftRight m p.1) 1) 1) (a k) (a fun b=>k (p::b))) T fun b=>k (p::b))=_;rw[a,a,QaL];simp only[rmM];split<;>rfl
 exact this T k
theorem Qph(m)(T):Sub (rmM m T) T:=by
 have dead:∀(T:Tmps)(i:Nat),Nat.beq (Nat.land (Nat.shiftRight m i) 1) 1=true->lk (rmM m T) i=.any:=by intro T i hi;induction T with|nil=>rfl|cons p T a=>
  simp only[rmM];split;·exact a
  rename_i h;rw[Qbb,if_neg (by grind)];exact a
 have live:∀(T:Tmps)(i:Nat),¬Nat.beq (Nat.land (Nat.shiftRight m i) 1) 1=true->lk (rmM m T) i=lk T i:=by intro T i hi;induction T with|nil=>rfl|cons p T a=>
  simp only[rmM];split;·rename_i h;rw[Qbb,if_neg (by grind)];exact a
  grind[Qbb]
 intro i;grind
def getR{β}(t:Tr β)(b:Nat)(k:Option β->α):α:=@Tr.rec β (fun _=>Nat->α) (fun _=>k none) (fun _ v _ a c b=>ifB (Nat.beq b 0) (k v) (ifB (Nat.beq (Nat.mod b 2) 1) (a (Nat.div b 2)) (c (Nat.sub (Nat.div b 2) 1)))) t b
theorem QbU(t)(b)(k:Option β->α):getR t b k=k (t.get b):=by induction t generalizing b with|e=>rfl|n l v r a g=>show ifB (Nat.beq b 0) (k v) (ifB (Nat.beq (Nat.mod b 2) 1) (getR l (Nat.div b 2) k) (getR r (Nat.sub (Nat.div b 2) 1) k))=_;rw[a,g,QaL,QaL];simp only[Tr.get];have f:Nat.mod b 2=b%2:=rfl;have c:Nat.div b 2=b/2:=rfl;have d:Nat.sub (b/2) 1=b/2-1:=rfl;rw[f,c,d];cases Nat.beq b 0<;>cases Nat.beq (b%2) 1<;>rfl
def setE{β}(f:Nat)(b:Nat)(x:β)(k:Tr β->α):α:=@Nat.rec (fun _=>Nat->(Tr β->α)->α) (fun _ k=>k .e) (fun _ a b k=>ifB (Nat.beq b 0) (k (.n .e (some x) .e)) (ifB (Nat.beq (Nat.mod b 2) 1) (a (Nat.div b 2) fun l=>k (.n l none .e)) (a (Nat.sub (Nat.div b 2) 1) fun r=>k (.n .e none r)))) f b k
theorem QuA(f)(b)(x)(k:Tr β->α):setE f b x k=k (Tr.setF f .e b x):=by induction f generalizing b k with|zero=>rfl|succ f a=>show ifB (Nat.beq b 0) (k (.n .e (some x) .e)) (ifB (Nat.beq (Nat.mod b 2) 1) (setE f (Nat.div b 2) x fun l=>k (.n l none .e)) (setE f (Nat.sub (Nat.div b 2) 1) x fun r=>k (.n .e none r)))=_;rw[a,a,QaL,QaL];simp only[Tr.setF];have g:Nat.mod b 2=b%2:=rfl;have c:Nat.div b 2=b/2:=rfl;have d:Nat.sub (b/2) 1=b/2-1:=rfl;rw[g,c,d];cases Nat.beq b 0<;>cases Nat.beq (b%2) 1<;>rfl
def setR{β}(t:Tr β)(f:Nat)(b:Nat)(x:β)(k:Tr β->α):α:=@Tr.rec β (fun _=>Nat->Nat->(Tr β->α)->α) (fun f b k=>setE f b x k) (fun l v r a c f b k=>@Nat.rec (fun _=>α) (k (.n l v r)) (fun f _=>ifB (Nat.beq b 0) (k (.n l (some x) r)) (ifB (Nat.beq (Nat.mod b 2) 1) (a f (Nat.div b 2) fun l=>k (.n l v r)) (c f (Nat.sub (Nat.div b 2) 1) fun r=>k (.n l v r)))) f) t f b k
theorem QuB(t)(f)(b)(x)(k:Tr β->α):setR t f b x k=k (Tr.setF f t b x):=by induction t generalizing f b k with|e=>exact QuA f b x k|n l v r a h=>cases f with|zero=>rfl|succ f=>show ifB (Nat.beq b 0) (k (.n l (some x) r)) (ifB (Nat.beq (Nat.mod b 2) 1) (setR l f (Nat.div b 2) x fun l=>k (.n l v r)) (setR r f (Nat.sub (Nat.div b 2) 1) x fun r=>k (.n l v r)))=_;rw[a,h,QaL,QaL];simp only[Tr.setF];have g:Nat.mod b 2=b%2:=rfl;have c:Nat.div b 2=b/2:=rfl;have d:Nat.sub (b/2) 1=b/2-1:=rfl;rw[g,c,d];cases Nat.beq b 0<;>cases Nat.beq (b%2) 1<;>rfl
def putBR(A:Ans α)(h:Heap)(b:Nat)(x:Blk)(k:Heap->α):α:=ifB (Nat.ble (Nat.succ b) lim) (setR h 40 b x k) A.bad
theorem Qb4(A:Ans α)(h)(b)(x)(k):putBR A h b x k=if b<lim then k (h.set b x)else A.bad:=by
 unfold putBR;rw[QuB,QaL];by_cases a:b<lim;·rw[if_pos (Nat.ble_eq_true_of_le a),if_pos a];rfl
 rw[if_neg (fun h=>a (Zaw h)),if_neg a]
def runR{β}(A:Ans α)(m:HM β)(h:Heap)(k:β->Heap->α):α:=@HM.rec β (fun _=>Heap->α) (fun a h=>k a h) (fun _=>A.bad) (fun b _ c h=>getR h b fun o=>c o h) (fun b x _ c h=>fBlk x fun x=>putBR A h b x fun h=>c h) m h
theorem Qdd(A:Ans α)(m:HM β):∀(h:Heap)(k:β->Heap->α),runR A m h k=match m.run h with|some (a,h')=>k a h'|none=>A.bad:=by induction m with|ret a=>intro h k;rfl|fail=>intro h k;rfl|look b m c=>intro h k;show getR h b (fun o=>runR A (m o) h k)=_;rw[QbU];exact c _ h k|put b x m c=>
 intro h k;show fBlk x (fun x=>putBR A h b x fun h=>runR A m h k)=_;rw[Quz,Qb4];simp only[HM.run];by_cases d:b<lim
 ·have :Nat.blt b lim=true:=by simp_all
  grind
 have :Nat.blt b lim=false:=by simp_all[ZaI]
 grind
def optR(A:Ans α)(o:Option AV)(k:AV->α):α:=@Option.rec AV (fun _=>α) A.bad (fun v=>fAV v k) o
theorem QbV(A:Ans α)(o:Option AV)(k:AV->α):optR A o k=match o with|some v=>k v|none=>A.bad:=by cases o with|none=>rfl|some v=>exact Qdp v k
def hiN:IntKind->Nat|.i8=>127|.i16=>32767|.i32=>2147483647|.i64=>9223372036854775807|.u8=>255|.u16=>65535|.u32=>4294967295|.u64=>18446744073709551615
theorem Qv2(k):hi k=hiN k:=by cases k<;>rfl
theorem lo_le(k):lo k<=0:=by cases k<;>decide
theorem Qjh(h:m<=hiN k):wr k (.ofNat m)=.ofNat m:=wr_of (by grind[lo_le]) (by simp_all[Qv2])
def kn:IntKind->Nat|.i8=>0|.i16=>1|.i32=>2|.i64=>3|.u8=>4|.u16=>5|.u32=>6|.u64=>7
theorem Qm3(h:Nat.beq (kn k) (kn a)=true):k=a:=by cases k<;>cases a<;>first|rfl|(cases h)
def bin2(A:Ans α)(op:BinOp)(d:IntKind)(a b:Nat)(c:α)(k:AV->α):α:=match op with|.add=>fNat (Nat.add a b) fun r=>ifB (Nat.ble r (hiN d)) (k (.int d (.ofNat r))) c|.sub=>ifB (Nat.ble b a) (fNat (Nat.sub a b) fun r=>ifB (Nat.ble r (hiN d)) (k (.int d (.ofNat r))) c) c|.mul=>fNat (Nat.mul a b) fun r=>ifB (Nat.ble r (hiN d)) (k (.int d (.ofNat r))) c|.eql=>fBool (Nat.beq a b) fun t=>k (.bool t)|.neq=>fBool (Nat.beq a b) fun t=>ifB t (k (.bool false)) (k (.bool true))|.lss=>fBool (Nat.ble (Nat.succ a) b) fun t=>k (.bool t)|.leq=>fBool (Nat.ble a b) fun t=>k (.bool t)|.gtr=>fBool (Nat.ble (Nat.succ b) a) fun t=>k (.bool t)|.geq=>fBool (Nat.ble b a) fun t=>k (.bool t)|_=>c
def binN(op:BinOp)(below:Bool)(a:α)(k:AV->α):α:=match op with|.eql=>k (.bool false)|.neq=>k (.bool true)|.lss=>ifB below (k (.bool true)) (k (.bool false))|.leq=>ifB below (k (.bool true)) (k (.bool false))|.gtr=>ifB below (k (.bool false)) (k (.bool true))|.geq=>ifB below (k (.bool false)) (k (.bool true))|_=>a
def binR(A:Ans α)(op:BinOp)(x y:AV)(k:AV->α):α:=match x with|.int c (.ofNat a)=>(match y with|.int d (.ofNat b)=>ifB (Nat.beq (kn c) (kn d)) (bin2 A op c a b (optR A (aBin op x y) k) k) (optR A (aBin op x y) k)|.int d (.negSucc b)=>ifB (Nat.beq (kn c) (kn d)) (binN op false (optR A (aBin op x y) k) k) (optR A (aBin op x y) k)|_=>optR A (aBin op x y) k)|.int c (.negSucc a)=>(match y with|.int d (.ofNat b)=>ifB (Nat.beq (kn c) (kn d)) (binN op true (optR A (aBin op x y) k) k) (optR A (aBin op x y) k)|_=>optR A (aBin op x y) k)|_=>optR A (aBin op x y) k
theorem QuC(A:Ans α)(op)(c)(a b)(k):binN op true (optR A (aBin op (.int c (.negSucc a)) (.int c (.ofNat b))) k) k=optR A (aBin op (.int c (.negSucc a)) (.int c (.ofNat b))) k:=by
 have d:(Int.negSucc a:Int)<Int.ofNat b:=by grind
 generalize Int.negSucc a=x at*;generalize Int.ofNat b=y at*;unfold binN;grind[QeL,QbV,decide,QeM,QeN,QeO,QeP,QeQ]
theorem binN_eq'(A:Ans α)(op)(c)(a b)(k):binN op false (optR A (aBin op (.int c (.ofNat a)) (.int c (.negSucc b))) k) k=optR A (aBin op (.int c (.ofNat a)) (.int c (.negSucc b))) k:=by
 have d:(Int.negSucc b:Int)<Int.ofNat a:=by grind
 generalize Int.negSucc b=x at*;generalize Int.ofNat a=y at*;unfold binN;grind[QeL,QbV,decide,QeM,QeN,QeO,QeP,QeQ]
theorem QuD(A:Ans α)(op)(c)(a b)(k):bin2 A op c a b (optR A (aBin op (.int c (.ofNat a)) (.int c (.ofNat b))) k) k=optR A (aBin op (.int c (.ofNat a)) (.int c (.ofNat b))) k:=by
 unfold bin2;cases op<;>simp only<;>try rfl
 ·rw[Qby,QaL];split;·rename_i h1;rw[Qir,show(Int.ofNat a+Int.ofNat b:Int)=Int.ofNat (a+b)from rfl,Qjh (m:=a+b) (Zaw h1),QbV];rfl
  rfl
 ·rw[QaL];split
  ·rename_i d;have d:=Zaw d;rw[Qby,QaL];split;·rename_i h1;rw[Qis,show(Int.ofNat a-Int.ofNat b:Int)=Int.ofNat (a-b)from(Int.ofNat_sub d).symm,Qjh (m:=a-b) (Zaw h1),QbV];rfl
   rfl
  rfl
 ·rw[Qby,QaL];split;·rename_i h1;rw[Qit,show(Int.ofNat a*Int.ofNat b:Int)=Int.ofNat (a*b)from rfl,Qjh (m:=a*b) (Zaw h1),QbV];rfl
  rfl
 ·rw[Qc2,QeL,QbV];simp only;congr 2;rw[Zb9];simp;omega
 ·rw[Qc2,QeM,QbV,QaL];simp only;by_cases e:a=b;·subst e;simp
  have h1:Nat.beq a b=false:=by simp_all[ZaI]
  grind[decide]
 ·rw[Qc2,QeN,QbV];simp only;congr 2;rw[Zb9];simp;omega
 ·rw[Qc2,QeO,QbV];simp only;congr 2;rw[Zb9];simp
 ·rw[Qc2,QeP,QbV];simp only;congr 2;rw[Zb9];simp;omega
 rw[Qc2,QeQ,QbV];simp only;congr 2;rw[Zb9];simp
theorem QuE(A:Ans α)(op:BinOp)(x y:AV)(k:AV->α):binR A op x y k=match aBin op x y with|some v=>k v|none=>A.bad:=by
 rw[<-QbV A];unfold binR;split
 ·split;·grind[QaL,Qm3,QuD]
  ·grind[QaL,Qm3,binN_eq']
  rfl
 ·split;·grind[QaL,Qm3,QuC]
  rfl
 rfl
def nthR(A:Ans α)(cs:List AV)(j:Nat)(k:AV->α):α:=@List.rec AV (fun _=>Nat->α) (fun _=>A.bad) (fun c _ a j=>@Nat.rec (fun _=>α) (k c) (fun j _=>a j) j) cs j
theorem Qpi(A:Ans α)(cs:List AV)(j:Nat)(k:AV->α):nthR A cs j k=match cs[j]? with|some v=>k v|none=>A.bad:=by induction cs generalizing j with|nil=>rfl|cons c cs a=>cases j with|zero=>rfl|succ j=>exact(a j).trans (by simp)
def nthSetR(cs:List AV)(j:Nat)(v:AV)(k:List AV->α):α:=@List.rec AV (fun _=>Nat->(List AV->α)->α) (fun _ k=>k []) (fun c r a j k=>@Nat.rec (fun _=>α) (k (v::r)) (fun j _=>a j fun r=>k (c::r)) j) cs j k
theorem Qqr(cs)(j)(v)(k:List AV->α):nthSetR cs j v k=k (cs.set j v):=by induction cs generalizing j k with|nil=>rfl|cons c cs a=>cases j with|zero=>rfl|succ j=>exact a j _
def dropR(cs:List AV)(j:Nat)(k:List AV->α):α:=@List.rec AV (fun _=>Nat->α) (fun _=>k []) (fun c r a j=>@Nat.rec (fun _=>α) (k (c::r)) (fun j _=>a j) j) cs j
theorem Qiu(cs)(j)(k:List AV->α):dropR cs j k=k (cs.drop j):=by induction cs generalizing j with|nil=>simp[dropR]|cons c cs a=>cases j with|zero=>rfl|succ j=>exact a j
def isPtr:AV->Bool|.ptr ..=>true|_=>false
def loadR(A:Ans α)(m:Option Nat)(x:AV)(h:Heap)(k:AV->α):α:=match m with|none=>(match x with|.ptr b g off=>getR h b fun o=>(match o with|some (.cells a cs)=>ifB (Nat.beq a g) (nthR A cs off k) A.bad|_=>A.bad)|.fptr cs=>(match cs with|c::_=>k c|[]=>A.bad)|_=>A.bad)|some _=>runR A (aLoad m x) h fun v _=>fAV v k
theorem Qm4(A:Ans α)(m:Option Nat)(x:AV)(h:Heap)(k:AV->α):loadR A m x h k=match(aLoad m x).run h with|some (v,_)=>k v|none=>A.bad:=by
 unfold loadR;split
 ·split;·rename_i b g off;rw[QbU];simp only[aLoad,HM.cells,HM.run];cases d:h.get b with|none=>rfl|some x=>cases x with|map a es=>rfl|dead a=>rfl|loop=>rfl|cells a cs=>simp only;rw[QaL,Qpi];cases f:Nat.beq a g with|true=>simp only[cond_true,if_true];cases cs[off]?<;>rfl|false=>simp[HM.run]
  ·rename_i cs;split<;>rfl
  rename_i h1 c;cases x<;>first|rfl|(exact absurd rfl (h1 _ _ _))|(exact absurd rfl (c _))
 grind[Qdd,Qdp]
def one1:AV->Bool|.any|.agg _|.tup _=>false|_=>true
def storeR(A:Ans α)(m:Nat)(x v:AV)(h:Heap)(k:AV->Heap->α):α:=match x with|.ptr b g off=>ifB (one1 v&&Nat.beq m 1) (getR h b fun o=>(match o with|some (.cells a cs)=>ifB (Nat.beq a g) (ifB (Nat.ble (Nat.succ off) cs.length) (nthSetR cs off v fun cs=>putBR A h b (.cells a cs) fun h=>k .any h) A.bad) A.bad|_=>A.bad)) (runR A (aStore m x v) h k)|_=>runR A (aStore m x v) h k
theorem Qrt(A:Ans α)(m:Nat)(x v:AV)(h:Heap)(k:AV->Heap->α):storeR A m x v h k=match(aStore m x v).run h with|some (u,h')=>k u h'|none=>A.bad:=by
 unfold storeR;split
 ·rename_i b g off;rw[QaL];split
  ·rename_i h1;simp only[Zac]at h1;obtain⟨h1,f⟩:=h1;have:m=1:=by simpa using f
   subst this;have d:v.cells=[v]/\AV.one v=true:=by cases v<;>first|(exact⟨rfl,rfl⟩)|(cases h1)
   rw[QbU];simp only[aStore,HM.cells,HM.run];cases l:h.get b with|none=>rfl|some x=>cases x with|map a es=>rfl|dead a=>rfl|loop=>rfl|cells a cs=>simp only;rw[QaL,QaL];cases i:Nat.beq a g with|false=>simp[HM.run]|true=>
    have:a=g:=by simpa using i
    subst this;simp only[cond_true,if_true,d.1];by_cases c:off<cs.length
    ·rw[if_pos (Nat.ble_eq_true_of_le c),if_pos ⟨rfl,c,by simp[d.2]⟩,Qqr,Qb4];simp only[HM.run];have e:Go.AM.putR cs off [v]=cs.set off v:=rfl;by_cases l:b<lim
     ·have :Nat.blt b lim=true:=by simp_all
      grind
     have :Nat.blt b lim=false:=by simp_all[ZaI]
     grind
    rw[if_neg (fun h=>c (Zaw h)),if_neg (by simp;omega)];rfl
  grind[Qdd]
 grind[Qdd]
end
end Go.AM
namespace Go.AM
variable{P:Program}
variable{v:AV}{x:Blk}{Z h:Heap}{G I:LCode}{st:LSt}{args:List AV}{X ps2 z:List Nat}{N N2 b:Nat}{g:Opd}{K:SCode}{A:St}{T T2:Tmps}{w:World}
theorem HRel.turnL{ok}{c:Ctx ok}(H:HRel c h w){g cb}{r}(o)(p:b<lim)(f:Live h b g)(hp:c.ρ b g=some (.loc cb 0))(l:w.heap[cb]?=some (.loop r))(i:x.gen=g)(s:∀c',Evo c w c' (w.putObj cb o)->c'.ρ b g=some (.loc cb 0)->c'.O cb->BRel c' (w.putObj cb o) b x):∃c',Evo c w c' (w.putObj cb o)/\HRel c' (h.set b x) (w.putObj cb o)/\c'.ρ b g=some (.loc cb 0):=by
 subst i;have m:=Qbk l;have other:∀k,k≠cb->(w.putObj cb o).heap[k]?=w.heap[k]?:=fun k d=>World.putObj_heap_other d;have a:∀y,x.gen<y->c.ρ b y=none:=by intro y u;obtain⟨z,q,n,_⟩:=f;exact H.later b z q y (by omega)
 have:=H.put (w':=w.putObj cb o) (cb:=cb) (base:=0) p a (.inr hp) (.inr ⟨x.gen,0,f,hp⟩) rfl rfl rfl (by simp_all) (by simp_all) (fun k _ d=>other k d) (fun C e t hc=>by simp_all) (fun E=>s _ E (by show(if b=b/\x.gen=x.gen then _ else _)=_;simp_all) (.inr rfl));exact⟨_,this.1,this.2,by show(if b=b/\x.gen=x.gen then _ else _)=_;simp_all⟩
def upsT:Tmps->List Nat->List AV->Tmps|T,p::a,x::xs=>upsT (up T p x) a xs|T,_,_=>T
theorem Qm5{ok}{c:Ctx ok}:∀(ps:List Nat)(xs:List AV)(vs:List Value)(T:Tmps)(t:Array Value),(∀p∈ps,p<t.size)->xs.length=ps.length->VRels c w xs vs->(∀i,VRel c w (lk T i) (t.getD i undef))->(∀i,VRel c w (lk (upsT T ps xs) i) (((ps.zip vs).foldl (fun t(p:Nat×Value)=>t.setIfInBounds p.1 p.2) t).getD i undef))/\((ps.zip vs).foldl (fun t(p:Nat×Value)=>t.setIfInBounds p.1 p.2) t).size=t.size
 |[],xs,vs,T,t,_,_,_,ht=>by cases xs<;>exact⟨ht,rfl⟩
 |p::ps,[],_,_,_,_,hl,_,_=>by simp at hl|p::ps,x::xs,vs,T,t,hp,hl,hv,ht=>by simp only[VRels]at hv;obtain⟨v,vs',rfl,h1,h2⟩:=hv;have hlt:p<t.size:=hp p (by simp);obtain⟨k1,k2⟩:=Qm5 ps xs vs' (up T p x) (t.setIfInBounds p v) (fun q hq=>by simp_all) (by simpa using hl) h2 (fun i=>by
  rw[lk_up];by_cases e:i=p;·simp_all
  ·rw[if_neg e];have:=ht i;simpa[Array.getElem?_setIfInBounds_ne (fun h=>e h.symm)]using this);exact⟨k1,by simp_all⟩
def stOf:SX->LSt|.normal=>.ready|e=>.done e
def SX.isNormal:SX->Bool|.normal=>true|_=>false
variable{Q:SX->St->Prop}
theorem RSpec.of_W{g}{body}{h':Heap}(hb:h.get b=some (.loop g N T z I body .ready))(Y:b<lim)(hlen:args.length=z.length)(J:∀p∈z,p<N)(hw:W P N I.slim (fun e B=>e=.normal/\∃N1 T1 s n l,B.h.get b=some (.loop g N1 T1 s n l .ready)/\W P N body.slim (fun e C=>∃N2 T2 o q d,C.h.get b=some (.loop g N2 T2 o q d .busy)/\v=.bool e.isNormal/\∀x,(C.h.set b (.loop g N2 T2 o q d (stOf e))).get x=h'.get x) ⟨B.T,B.h.set b (.loop g N1 T1 s n l .busy)⟩) ⟨upsT T z args,h⟩):RSpec P b g args h v h':=by
 intro c w f A H Z G;obtain⟨cb0,r,h1,h2,h3,L⟩:=H.blk b _ hb;rw[G]at h1;cases h1;have X:f.size=r.params.size:=by
  have e1:=QaE Z;have e2:r.params.toList.length=z.length:=by rw[L.params]
  simp_all
 refine⟨r.fn,_,r.assign,r.body,run_yield h3 X,roundIn_of_wpIn trivial ?_⟩;have m:(r.params.zip f).foldl (fun tmps(x:Nat×Value)=>tmps.setIfInBounds x.1 x.2) r.tmps=(z.zip f.toList).foldl (fun t(p:Nat×Value)=>t.setIfInBounds p.1 p.2) r.tmps:=by rw[<-Array.foldl_toList,Array.toList_zip,L.params]
 obtain⟨ht,O⟩:=Qm5 z args f.toList T r.tmps (fun p hp=>by rw[L.size];exact J p hp) hlen Z L.tmps;refine hw r.assign L.okA.1 (c.rb 0) ⟨_,[]⟩ w ⟨H.rebase 0,fun i=>?_,?_,Zaj _⟩ (some A) (fun e=>by rw[L.okA.2]at e;cases e) _ ?_;·rw[m];exact(ht i).rebase 0
 ·rw[m,O,L.size]
 rintro e B c1 a1 w1⟨rfl,N1,T1,s,n,l,hB,K⟩S1 E1;obtain⟨U,r1,g1,g2,M,L1⟩:=S1.heap.blk b _ hB;have y:c1.ρ b g=some (.loc A 0):=E1.rho _ _ _ G;rw[show c1.ρ b g=some (.loc U 0)from g1]at y;cases y;refine⟨_,run_beginRound M L1.state,?_⟩;obtain⟨c2,E2,H2,F⟩:=S1.heap.turnL (.loop {r1 with state:=.busy}) (x:=.loop g N1 T1 s n l .busy) Y ⟨_,hB,rfl,fun k=>by simp⟩ g1 M rfl (fun c' E' S V=>⟨A,_,S,V,World.putObj_heap_same (Qbk M),by have L':=L1.mono (E'.ext S1.heap.disj);exact⟨L'.params,L'.size,L'.tmps,L'.okA,L'.okB,rfl,L'.pend⟩⟩);refine K r.body L.okB.1 c2 a1 _ ⟨H2,fun i=>Zcm (E2.ext S1.heap.disj) _ _ (S1.tmps i),S1.size,S1.defers.mono E2⟩ (some A) (fun e=>by rw[L.okB.2]at e;cases e) _ ?_;rintro e C c3 a3 w3⟨N2,T2,o,q,d,hC,rfl,hh⟩S3 E3;obtain⟨R,r3,q1,q2,Q,L3⟩:=S3.heap.blk b _ hC;have u:c3.ρ b g=some (.loc A 0):=E3.rho _ _ _ F;rw[show c3.ρ b g=some (.loc R 0)from q1]at u;cases u;have fin:∀(a:Option Code),a.isNone=e.isNormal->(stOf e).pend=a->(stOf e).state=(if a.isNone then .ready else .done)->∃v w',(Instr.endRound A a).run P w3=.ok v w'/\Rets P c w h' (.bool e.isNormal) (.returned v) w':=by intro a j1 j2 j3;obtain⟨c4,E4,H4,_⟩:=S3.heap.turnL (.loop {r3 with state:=if a.isNone then .ready else .done,pending:=a}) (x:=.loop g N2 T2 o q d (stOf e)) Y ⟨_,hC,rfl,fun k=>by simp⟩ q1 Q rfl (fun c' E' S V=>⟨A,_,S,V,World.putObj_heap_same (Qbk Q),by have L':=L3.mono (E'.ext S3.heap.disj);exact⟨L'.params,L'.size,L'.tmps,L'.okA,L'.okB,j3.symm,j2.symm⟩⟩);have E:=((E1.trans E2).trans E3).trans E4;exact⟨_,_,run_endRound a Q,_,(c4.rb (c.base)),rfl,E.rebase,(Qcw hh H4).rebase _,by simp[VRel,j1]⟩
 cases e with|normal=>exact fin none rfl rfl rfl|exit i=>exact fin (some (.exit i)) rfl rfl rfl|ret=>exact fin (some .ret) rfl rfl rfl
def leftQ(Q:SX->St->Prop)(B:St):LSt->Prop|.ready=>Q .normal B|.busy=>False|.done e=>e.isNormal=false/\Q e B
theorem W.rfunc{body}{f}{first cap}{as2}(las lbody)(hla:las.slim=K)(hlb:lbody.slim=body)(hg:ev A.T g=.fn f first cap)(hb:A.h.get b=none)(hl:b<lim)(hs:HSpec P f (first++[.yld b 0]++cap) (A.h.set b (.loop 0 N A.T X las lbody .ready)) v Z)(O:Z.get b=some (.loop 0 N2 T2 ps2 as2 G st))(hQ:leftQ Q ⟨A.T,Z.set b (.dead 0)⟩ st):W P N (.rfunc g X N K body) Q A:=by
 intro code R c a w S ro hro Q' q;cases code<;>simp only[okCode,Zat,Zac,beq_iff_eq,Zbh]at R;rename_i g' ps' T F;obtain⟨⟨⟨⟨⟨⟨⟨k1,k2⟩,_⟩,_⟩,k3⟩,k4⟩,k5⟩,k6⟩:=R;have:=hro rfl;subst this;have s:=Qau S.tmps k1;rw[hg]at s;simp only[VRel]at s;obtain⟨x',y',hgv,hx,hy⟩:=s;refine wpIn_rangeFunc fun fn _=>?_;obtain⟨E0,H0⟩:=S.heap.grow (w':=w.alloc (.deferred (some []))) rfl rfl rfl (by simp) (fun k l=>Go.RowKit.Below.heap_alloc w _ k l);obtain⟨rec,o⟩:∃rec:Loop,rec={state:=.ready,pending:=none,fn,tmps:=a.tmps,params:=ps',assign:=T,body:=F,defers:=w.heap.size}:=⟨_,rfl⟩;have V:(w.alloc (.deferred (some []))).heap.size=w.heap.size+1:=by simp
 obtain⟨E1,H1⟩:=H0.put (w':=(w.alloc (.deferred (some []))).alloc (.loop rec)) (b:=b) (cb:=w.heap.size+1) (base:=0) (x:=.loop 0 N A.T X las lbody .ready) hl (fun y hy=>H0.fresh b hb y) (.inl (H0.fresh b hb _)) (.inl V.symm) rfl rfl rfl (by simp) (by simp) (fun k l _=>Go.RowKit.Below.heap_alloc _ _ k l) (fun C e fr hc=>by simp_all) (fun E=>⟨w.heap.size+1,rec,by show(if b=b/\0=0 then _ else _)=_;simp_all,.inr rfl,by have:=World.alloc_heap_new (w.alloc (.deferred (some []))) (.loop rec);simp_all,by subst o;exact⟨k2,S.size,fun i=>Zcm (E0.trans E|>.ext S.heap.disj) _ _ (S.tmps i),by rw[hla];exact⟨k5,k3⟩,by rw[hlb];exact⟨k6,k4⟩,rfl,rfl⟩⟩);generalize u:c.with b (Blk.loop 0 N A.T X las lbody .ready).gen (.loc (w.heap.size+1) 0) (some (w.heap.size+1))=n at E1 H1;have hρ1:n.ρ b 0=some (.loc (w.heap.size+1) 0):=by rw[<-u];show(if b=b/\0=0 then _ else _)=_;simp_all
 have hO1:∀k,n.O k->c.O k\/k=w.heap.size+1:=by
  intro k l;rw[<-u]at l;rcases l with l|l;·exact .inl l
  simp_all
 have hF1:∀k,n.F k->c.F k:=by intro k l;rw[<-u]at l;exact l
 generalize hW1:(w.alloc (.deferred (some []))).alloc (.loop rec)=W1 at E1 H1;have I:W1.heap[w.heap.size]?=some (.deferred (some [])):=by grind[Go.RowKit.Below.heap_alloc,World.alloc_heap_new]
 have E01:=E0.trans E1;have p:VRels n W1 (first++[.yld b 0]++cap) (x'++#[Value.func (.yield (w.heap.size+1)) #[] #[]]++y').toList:=by
  have e1:=Zcn (E01.ext S.heap.disj) _ _ hx;have e2:=Zcn (E01.ext S.heap.disj) _ _ hy;have e3:VRels n W1 [.yld b 0] [.func (.yield (w.heap.size+1)) #[] #[]]:=by simp only[VRels,VRel];simp_all
  grind[QbC]
 refine⟨w.heap.size+1,[{target:=.collected w.heap.size,args:=#[]}],W1,{target:=.fn (.func f) y',args:=x'++#[.func (.yield (w.heap.size+1)) #[] #[]]},W1,f,x'++#[.func (.yield (w.heap.size+1)) #[] #[]]++y',W1,?_,?_,fun _ _=>trivial,?_,fun h=>by simp[FW,Fence.wide]at h,?_⟩;·rw[<-hW1,o];exact run_enterLoop_outer _ _ _ _ _
 ·simp_all[resolve,Deferred.ofValue,Act.eval]
 ·simp only[invoke];exact Qgu hs.1 _
 refine callsFW ((hs.2 n W1 _ H1 p).mono ?_);rintro e w2⟨cv,c2,rfl,E2,H2,V2⟩;obtain⟨cb,r,p1,p2,p3,L⟩:=H2.blk b _ O;have hρ2:c2.ρ b 0=some (.loc (w.heap.size+1) 0):=E2.rho _ _ _ hρ1;rw[show c2.ρ b 0=some (.loc cb 0)from p1]at hρ2;cases hρ2;have B:r.state≠.busy:=by rw[L.state];cases st<;>simp[LSt.state,leftQ]at hQ⊢
 obtain⟨U,E3,H3,_⟩:=H2.turnL (.loop {r with state:=.exhausted}) (x:=.dead 0) hl ⟨_,O,rfl,fun k=>by simp⟩ p1 p3 rfl (fun c' _ _ _=>trivial);have J:=run_endLoop (P:=P) p3 B;generalize w2.putObj (w.heap.size+1) (.loop {r with state:=.exhausted})=W3 at E3 H3 J;refine⟨r.pending,W3,J,?_⟩;have E:=(E01.trans E2).trans E3;have H:=S.defers.low;have hD:w.heap.size<W1.heap.size:=Qbk I;have t:¬n.O w.heap.size:=fun h=>by
  rcases hO1 _ h with h|h;·have:=S.heap.inO _ h;omega
  omega
 have M:Marks U W3 ({target:=.collected w.heap.size,args:=#[]}::a.defers):=by
  have z:¬n.F w.heap.size:=fun h=>by have:=S.heap.inF _ (hF1 _ h);omega
  have step:=(E2.trans E3);have m1:Marks n W1 ({target:=.collected w.heap.size,args:=#[]}::a.defers):=by
   refine⟨⟨w.heap.size,rfl,by rw[E01.base];exact H,t,z,I,fun d' hd' e=>?_⟩,S.defers.mono E01⟩;have key:∀{Y:List Deferred},Marks c w Y->∀d∈Y,∀D,d.target=.collected D->D<w.heap.size:=by intro Y;induction Y with|nil=>intro _ d hd;cases hd|cons x xs ih=>
    rintro⟨⟨D0,x1,x2,x3,x4,x5,x6⟩,hr⟩d hd D e;rcases Zav.1 hd with rfl|hd;·grind
    grind
   have:=key S.defers d' hd' _ e;omega
  exact m1.mono step
 have S3:SRel N U ⟨A.T,Z.set b (.dead 0)⟩ {a with defers:={target:=.collected w.heap.size,args:=#[]}::a.defers} W3:=⟨H3,fun i=>Zcm (E.ext S.heap.disj) _ _ (S.tmps i),S.size,M⟩;have m:=L.pend;cases st with|ready=>rw[show r.pending=none from m];exact q .normal _ U _ _ hQ S3 E|busy=>exact hQ.elim|done e=>rw[show r.pending=some e.toCode from m];obtain⟨he,hq⟩:=hQ;cases e with|normal=>cases he|exit i=>exact wpIn_exit (q (.exit i) _ U _ _ hq S3 E)|ret=>exact wpIn_ret (q .ret _ U _ _ hq S3 E)
end Go.AM
theorem Go.AM.bjZ5b{p:Prop}(h:p:=by
 split
 ·rw[QaL];split;·simp_all[aIAddr,Qby]
  simp_all
 ·rw[QaL];split;·simp_all[aIAddr,Qby,Qiu]
  simp_all
 simp_all):p:=h
theorem Go.AM.bpeLP{p:Prop}(h:p:=by
 split at hx;·rename_i ht;exact⟨_,h,n,hx,lft (by simp) rfl (by rw[hv,ht];rfl)⟩
 ·rename_i ht;exact⟨_,h,n,hx,lft (by simp) rfl (by rw[hv];simp at ht;rw[ht];rfl)⟩):p:=h
theorem Go.AM.bI5SD{p:Prop}(h:p:=by
 rename_i hv;exact⟨_,h,n,hx,hvl (m:=.ret _) (by simp) (by show hval (aLenC 1 (ev T _))=_;rw[hv];rfl) rfl⟩):p:=h
namespace Go.AM
variable{P:Program}
variable{v:AV}{a h h' h1:Heap}{b:List (Nat×Nat)}{args c d:List AV}{R dead:List Nat}{sops:List SOper}{N f i n p:Nat}{x:Opd}{m:Option Nat}{g:SCode}{s:SOper}{l:SX}{Q:SX->St->Prop}{L T T':Tmps}
noncomputable section
variable{α:Type}
inductive CM where|c(m:CallM)|rnd(g:Nat)|give(b g:Nat)(xs:List AV)|new|fr(hB:Heap)
abbrev CallerA(α:Type):=CM->Nat->List AV->Heap->Nat->(AV->Heap->Nat->α)->α
abbrev KcA(α:Type):=SX->Tmps->Heap->Nat->α
def evsK(T:Tmps)(xs:List Opd)(k:List AV->α):α:=@List.rec Opd (fun _=>(List AV->α)->α) (fun k=>k []) (fun x _ b k=>evK T x fun v=>b fun a=>k (v::a)) xs k
theorem Qj5(T)(xs)(k:List AV->α):evsK T xs k=k (evs T xs):=by
 have:∀(xs:List Opd)(k:List AV->α),@List.rec Opd (fun _=>(List AV->α)->α) (fun k=>k []) (fun x _ b k=>evK T x fun v=>b fun a=>k (v::a)) xs k=k (evs T xs):=by intro xs;induction xs with|nil=>intro k;rfl|cons x r b=>intro k;show evK T x (fun v=>@List.rec Opd (fun _=>(List AV->α)->α) (fun k=>k []) (fun x _ b k=>evK T x fun v=>b fun a=>k (v::a)) r fun a=>k (v::a))=_;rw[Qbu];exact b _
 exact this xs k
def iaddrR(A:Ans α)(arr:Option Nat)(sz:Nat)(x i:AV)(k:AV->α):α:=match i with|.int _ (.ofNat j)=>(match arr with|none=>(match x with|.sl b g off len s=>ifB (Nat.ble (Nat.succ j) len&&Nat.beq s sz) (fNat (Nat.add off (Nat.mul j sz)) fun o=>k (.ptr b g o)) A.bad|.fsl cs len s=>ifB (Nat.ble (Nat.succ j) len&&Nat.beq s sz) (fNat (Nat.mul j sz) fun o=>dropR cs o fun cs=>k (.fptr cs)) A.bad|_=>A.bad)|some m=>(match x with|.ptr b g off=>ifB (Nat.ble (Nat.succ j) m) (fNat (Nat.add off (Nat.mul j sz)) fun o=>k (.ptr b g o)) A.bad|.fptr cs=>ifB (Nat.ble (Nat.succ j) m) (fNat (Nat.mul j sz) fun o=>dropR cs o fun cs=>k (.fptr cs)) A.bad|_=>A.bad))|_=>A.bad
theorem Qru(A:Ans α)(arr)(sz)(x i)(k):iaddrR A arr sz x i k=A.bad\/∃v,aIAddr arr sz x i=some v/\iaddrR A arr sz x i k=k v:=by
 unfold iaddrR;split
 ·rename_i c j;have b:∀(len s:Nat),(Nat.ble (Nat.succ j) len&&Nat.beq s sz)=true->((0:Int)<=Int.ofNat j/\Int.ofNat j<(len:Int)/\s=sz):=by intro len s h;simp only[Zac]at h;refine⟨ZaV j,Int.ofNat_lt.2 (Zaw h.1),by simpa using h.2⟩
  have a:∀(len:Nat),Nat.ble (Nat.succ j) len=true->((0:Int)<=Int.ofNat j/\Int.ofNat j<(len:Int)):=by simp_all
  split
  ·exact bjZ5b
  exact bjZ5b
 simp_all
def convR(A:Ans α)(a:IntKind)(x:AV)(k:AV->α):α:=match x with|.int _ (.ofNat m)=>ifB (Nat.ble m (hiN a)) (k (.int a (.ofNat m))) (optR A (aConv a x) k)|_=>optR A (aConv a x) k
theorem Qtp(A:Ans α)(a:IntKind)(x:AV)(k:AV->α):convR A a x k=match aConv a x with|some v=>k v|none=>A.bad:=by
 refine Eq.trans (b:=optR A (aConv a x) k) ?_ (by cases aConv a x with|none=>rfl|some v=>exact Qdp v k);unfold convR;split;·grind[QaL,QgC,Qjh,Zaw,QbV]
 rfl
def opR(A:Ans α)(call:CallerA α)(i:Nat)(s:SOp)(T:Tmps)(h:Heap)(n:Nat)(k:AV->Heap->Nat->α):α:=match s with|.mov x=>evK T x fun v=>k v h n|.bin op x y=>evK T x fun a=>evK T y fun b=>binR A op a b fun v=>k v h n|.load m x=>evK T x fun a=>loadR A m a h fun v=>k v h n|.store m x v=>evK T x fun a=>evK T v fun v=>storeR A m a v h fun u h=>k u h n|.iaddr arr sz x j=>evK T x fun a=>evK T j fun j=>iaddrR A arr sz a j fun v=>k v h n|.faddr off x=>evK T x fun a=>optR A (aFAddr off a) fun v=>k v h n|.conv o x=>evK T x fun a=>convR A o a fun v=>k v h n|.extract j x=>evK T x fun a=>(match a with|.tup p=>nthR A p j fun v=>k v h n|_=>A.bad)|.pick c a b=>evK T c fun c=>(match c with|.bool t=>ifB t (evK T a fun v=>k v h n) (evK T b fun v=>k v h n)|_=>A.bad)|.un .not x=>evK T x fun a=>(match a with|.bool t=>ifB t (k (.bool false) h n) (k (.bool true) h n)|_=>A.bad)|.len 1 x=>evK T x fun a=>(match a with|.sl _ _ _ len _=>k (.int .i64 (.ofNat len)) h n|.fsl _ len _=>k (.int .i64 (.ofNat len)) h n|.nilsl=>k (.int .i64 (.ofNat 0)) h n|_=>runR A (aop i T s) h fun out l=>(match out with|.val v=>fAV v fun v=>k v l n|_=>A.bad))|.call m x args=>evK T x fun f=>(match f with|.fn f first captured=>evsK T args fun d=>(match m with|.heap=>fList (first++d++captured) fun d=>call (.c .heap) f d h n k|.pure=>fList (first++d++captured) fun d=>call (.c .pure) f d h n fun v _ n=>k v h n|.borrow=>runR A (mapH (frzH 4) (first++d++captured)) h fun d l=>call (.c .borrow) f d l n fun v _ n=>ifB (flatV v) (k v l n) A.bad)|.yld b g=>(match m with|.heap=>evsK T args fun d=>fList d fun d=>call (.rnd g) b d h n k|_=>A.bad)|_=>A.bad)|s=>runR A (aop i T s) h fun out l=>(match out with|.val v=>fAV v fun v=>k v l n|_=>A.bad)
theorem Qqs{x}(hm:(aLoad m x).run h=some (v,h')):h'=h:=by cases x with
 |ptr b g off=>simp only[aLoad]at hm;obtain⟨cs,_,hm⟩:=Qbm hm;cases m with
  |none=>cases hc:cs[off]? with|none=>simp[hc,HM.opt,HM.run]at hm|some u=>simp only[hc,HM.opt,HM.run,Zab,Zal]at hm;exact hm.2.symm
  |some m=>
   simp only at hm;split at hm;·simp_all[HM.run]
   simp[HM.run]at hm
 |fptr cs=>simp only[aLoad]at hm;cases m with
  |none=>cases cs with|nil=>simp[HM.opt,HM.run]at hm|cons u cs=>simp only[HM.opt,Zbs,HM.run,Zab,Zal]at hm;exact hm.2.symm
  |some m=>
   simp only at hm;split at hm;·simp_all[HM.run]
   simp[HM.run]at hm
 |_=>simp[aLoad,HM.run]at hm
def stepFP(i:Nat)(s:SOp)(T:Tmps)(h:Heap):FP:=match s with|.call .heap _ _=>⟨true,[],[]⟩|s=>fpOf ((aop i T s).fp h)
def CallOKA(P:Program)(A:Ans α)(call:CallerA α):Prop:=∀(m:CallM)(f:Nat)(args:List AV)(h:Heap)(n:Nat)(k:AV->Heap->Nat->α),A.holds (call (.c m) f args h n k)->∃v a b,A.holds (k v a b)/\(m=.heap->HSpec P f args h v a)/\(m≠.heap->PSpec P f args v)
def RndOK(P:Program)(A:Ans α)(call:CallerA α):Prop:=∀(g b:Nat)(args:List AV)(h:Heap)(n:Nat)(k:AV->Heap->Nat->α),A.holds (call (.rnd g) b args h n k)->∃v a c,A.holds (k v a c)/\RSpec P b g args h v a
section
variable{A:Ans α}(hA:A.OK){call:CallerA α}(hc:CallOKA P A call)(hrn:RndOK P A call)
include hA hc hrn
theorem Qli{s:SOp}{k:AV->Heap->Nat->α}(hx:A.holds (opR A call i s T h n k)):∃v h1 n',A.holds (k v h1 n')/\StepX P i s T h v h1 (stepFP i s T h):=by
 have lft:∀{s:SOp}{o:Option AV}{v:AV},(∀m x a,s≠.call m x a)->aop i T s=lift o->o=some v->StepX P i s T h v h (stepFP i s T h):=by intro s o v hs e ho;refine⟨.val v,h,by rw[e,ho];rfl,rfl,rfl,?_⟩;cases s<;>first|rfl|(exact absurd rfl (hs _ _ _))
 have hvl:∀{s:SOp}{m:HM AV}{v:AV}{h1:Heap},(∀m x a,s≠.call m x a)->aop i T s=hval m->m.run h=some (v,h1)->StepX P i s T h v h1 (stepFP i s T h):=by intro s m v h1 hs e hm;refine⟨.val v,h1,by grind[run_hval'],rfl,rfl,?_⟩;cases s<;>first|rfl|(exact absurd rfl (hs _ _ _))
 have dflt:∀{s:SOp},(∀m x a,s≠.call m x a)->A.holds (runR A (aop i T s) h fun out h2=>(match out with|.val v=>fAV v fun v=>k v h2 n|_=>A.bad))->∃v h1 n',A.holds (k v h1 n')/\StepX P i s T h v h1 (stepFP i s T h):=by intro s hs hx;rw[Qdd]at hx;cases hr:(aop i T s).run h with|none=>rw[hr]at hx;exact absurd hx hA.bad|some r=>obtain⟨out,h2⟩:=r;rw[hr]at hx;cases out with|call m f asg=>exact absurd hx hA.bad|round b g asg=>exact absurd hx hA.bad|val v=>simp only[Qdp]at hx;refine⟨v,h2,n,hx,.val v,h2,hr,rfl,rfl,?_⟩;cases s<;>first|rfl|(exact absurd rfl (hs _ _ _))
 unfold opR at hx;split at hx;·rw[Qbu]at hx;exact⟨_,h,n,hx,lft (by simp) (o:=some _) rfl rfl⟩
 ·rw[Qbu,Qbu,QuE]at hx;split at hx;·rename_i hv;exact⟨_,h,n,hx,lft (by simp) rfl hv⟩
  ·exact absurd hx hA.bad
 ·rw[Qbu,Qm4]at hx;split at hx;·rename_i v h' hv;have:h'=h:=Qqs hv;subst this;exact⟨v,h',n,hx,hvl (by simp) rfl hv⟩
  ·exact absurd hx hA.bad
 ·rw[Qbu,Qbu,Qrt]at hx;split at hx;·rename_i hv;exact⟨_,_,n,hx,hvl (by simp) rfl hv⟩
  ·exact absurd hx hA.bad
 ·rw[Qbu,Qbu]at hx;rcases Qru A _ _ _ _ (fun v=>k v h n)with e|⟨v,hv,e⟩;·rw[e]at hx;exact absurd hx hA.bad
  ·rw[e]at hx;exact⟨v,h,n,hx,lft (by simp) rfl hv⟩
 ·rw[Qbu,QbV]at hx;split at hx;·rename_i hv;exact⟨_,h,n,hx,lft (by simp) rfl hv⟩
  ·exact absurd hx hA.bad
 ·rw[Qbu,Qtp]at hx;split at hx;·rename_i hv;exact⟨_,h,n,hx,lft (by simp) rfl hv⟩
  ·exact absurd hx hA.bad
 ·rw[Qbu]at hx;split at hx
  ·rename_i vs hv;rw[Qpi]at hx;split at hx;·rename_i hj;exact⟨_,h,n,hx,lft (by simp) rfl (by rw[hv];exact hj)⟩
   ·exact absurd hx hA.bad
  ·exact absurd hx hA.bad
 ·rw[Qbu]at hx;split at hx
  ·rename_i t hv;rw[QaL,Qbu,Qbu]at hx;exact bpeLP
  ·exact absurd hx hA.bad
 ·rw[Qbu]at hx;split at hx
  ·rename_i t hv;rw[QaL]at hx;exact bpeLP
  ·exact absurd hx hA.bad
 ·rw[Qbu]at hx;split at hx;·rename_i hv;exact⟨_,h,n,hx,hvl (m:=.ret _) (by simp) (by show hval (aLenC 1 (ev T _))=_;rw[hv];rfl) rfl⟩
  ·exact bI5SD
  ·exact bI5SD
  simp_all
 ·rename_i m x args;rw[Qbu]at hx;split at hx
  ·rename_i f first captured hv;rw[Qj5]at hx;have e:aop i T (.call m x args)=aCall m (.fn f first captured) (evs T args):=by rw[<-hv];rfl
   cases m with|heap=>simp only[Qc3]at hx;obtain⟨v,h1,n',hk,hs,_⟩:=hc _ _ _ _ _ _ hx;exact⟨v,h1,n',hk,.call .heap f (first++evs T args++captured),h,by rw[e];rfl,.inl ⟨hs rfl,rfl⟩⟩|pure=>simp only[Qc3]at hx;obtain⟨v,h1,n',hk,_,hs⟩:=hc _ _ _ _ _ _ hx;exact⟨v,h,n',hk,.call .pure f (first++evs T args++captured),h,by rw[e];rfl,hs (by simp),rfl,rfl⟩|borrow=>
    simp only[Qdd]at hx;split at hx
    ·rename_i asg h2 hm;obtain⟨v,h1,n',hk,_,hs⟩:=hc _ _ _ _ _ _ hx;rw[QaL]at hk;split at hk
     ·rename_i hf;refine⟨v,h2,n',hk,.call .borrow f asg,h2,?_,hs (by simp),hf,rfl,rfl⟩;rw[e];have:∀(m:HM (List AV))(h:Heap)(k:List AV->AOut),m.run h=some (asg,h2)->(m.bind fun asg=>.ret (k asg)).run h=some (k asg,h2):=by intro m;induction m with|ret a=>intro h k hm;simp only[HM.run,Zab,Zal]at hm;obtain⟨rfl,rfl⟩:=hm;rfl|fail=>intro h k hm;simp[HM.run]at hm|look b k' ih=>intro h k hm;exact ih _ h k hm|put b x k' ih=>
       exact bh3qM
      exact this _ h (fun asg=>.call .borrow f asg) hm
     ·exact absurd hk hA.bad
    ·exact absurd hx hA.bad
  ·rename_i b g hv;cases m with|heap=>
   rw[Qj5]at hx;simp only[Qc3]at hx;have e:aop i T (.call .heap x args)=aCall .heap (.yld b g) (evs T args):=by rw[<-hv];rfl
   obtain⟨v,h1,n',hk,hs⟩:=hrn _ _ _ _ _ _ hx;exact⟨v,h1,n',hk,.round b g (evs T args),h,by rw[e];rfl,hs,rfl⟩|pure=>exact absurd hx hA.bad|borrow=>exact absurd hx hA.bad
  ·exact absurd hx hA.bad
 simp_all
end
def operR(A:Ans α)(call:CallerA α)(i:Nat)(s:SOper)(T:Tmps)(h:Heap)(n:Nat)(k:AV->Heap->Nat->α):α:=match s.guard with|none=>opR A call i s.op T h n k|some (g,a)=>lkK T g fun x=>(match x with|.bool b=>ifB a (ifB b (opR A call i s.op T h n k) (k (.tup []) h n)) (ifB b (k (.tup []) h n) (opR A call i s.op T h n k))|.tup []=>k (.tup []) h n|_=>A.bad)
def operFP(i:Nat)(s:SOper)(T:Tmps)(h:Heap):FP:=match s.guard with|none=>stepFP i s.op T h|some (g,a)=>match wantedA (lk T g) a with|some true=>stepFP i s.op T h|_=>⟨false,[],[]⟩
section
variable{A:Ans α}(hA:A.OK){call:CallerA α}(hc:CallOKA P A call)(hrn:RndOK P A call)
include hA hc hrn
theorem QhU{k:AV->Heap->Nat->α}(c:A.holds (operR A call i s T h n k)):∃v h1 n',A.holds (k v h1 n')/\StepV P i s T h v h1 (operFP i s T h):=by unfold operR at c;unfold StepV operFP;cases f:s.guard with|none=>rw[f]at c;obtain⟨v,h1,n',m,o⟩:=Qli hA hc hrn c;exact⟨v,h1,n',m,o⟩|some p=>
 obtain⟨g,a⟩:=p;rw[f]at c;simp only[Qfr]at c⊢;split at c
 ·rename_i b l;rw[l];have run:A.holds (opR A call i s.op T h n k)->b=a->∃v h1 n',A.holds (k v h1 n')/\∃d,wantedA (.bool b) a=some d/\if d=true then StepX P i s.op T h v h1 (match wantedA (.bool b) a with|some true=>stepFP i s.op T h|_=>⟨false,[],[]⟩)else(v=.tup []/\h1=h/\(match wantedA (.bool b) a with|some true=>stepFP i s.op T h|_=>⟨false,[],[]⟩)=⟨false,[],[]⟩):=by grind[Qli,wantedA]
  have skip:A.holds (k (.tup []) h n)->b≠a->∃v h1 n',A.holds (k v h1 n')/\∃d,wantedA (.bool b) a=some d/\if d=true then StepX P i s.op T h v h1 (match wantedA (.bool b) a with|some true=>stepFP i s.op T h|_=>⟨false,[],[]⟩)else(v=.tup []/\h1=h/\(match wantedA (.bool b) a with|some true=>stepFP i s.op T h|_=>⟨false,[],[]⟩)=⟨false,[],[]⟩):=by grind[wantedA]
  simp only[QaL]at c;grind
 ·grind[wantedA]
 exact absurd c hA.bad
end
def ownArg:List AV->Option (Nat×Nat)|[]=>none|.sl b g _ _ _::_=>some (b,g)|_::xs=>ownArg xs
def newR(A:Ans α)(call:CallerA α)(f:Nat)(args a:List AV)(same:Bool)(R:List Nat)(i:Nat)(h:Heap)(n:Nat)(k:AV->Heap->Nat->FP->α):α:=ifB (noRefs a) (call .new f a h n fun v d _=>(match v with|.sl b g off len sz=>getR d b fun o=>(match o with|some (.cells l cs)=>ifB (Nat.beq l g&&Nat.ble off cs.length&&Nat.ble (Nat.succ i) lim) (dropR cs off fun c=>ifB (flatVs c||(noRefs c&&same)) (getR h i fun o=>(match o with|none=>putBR A h i (.cells 0 c) fun h1=>k (.sl i 0 0 len sz) h1 n ⟨false,i::R,[i]⟩|some _=>A.bad)) A.bad) A.bad|_=>A.bad)|v=>runR A (frzH 6 v) d fun v _=>ifB (noRef v&&(flatV v||same)) (fAV v fun v=>k v h n ⟨false,R,[]⟩) A.bad)) A.bad
mutual def refsV:AV->List Nat->List Nat|.ptr b _ _,acc=>b::acc|.sl b _ _ _ _,acc=>b::acc|.map b _,acc=>b::acc|.yld b _,acc=>b::acc|.agg cs,acc|.tup cs,acc|.fptr cs,acc|.fsl cs _ _,acc=>refsL cs acc|.fmap ks vs,acc=>refsL ks (refsL vs acc)|.fn _ x y,acc=>refsL x (refsL y acc)|.ifc _ v,acc=>refsV v acc|.typed _ _ v,acc=>refsV v acc|_,acc=>acc termination_by structural x=>x def refsL:List AV->List Nat->List Nat|[],acc=>acc|x::xs,acc=>refsV x (refsL xs acc)termination_by structural x=>x end
def refsE:List (AV×AV)->List Nat->List Nat|[],acc=>acc|p::r,acc=>refsV p.1 (refsV p.2 (refsE r acc))
def refsB(o:Option Blk)(acc:List Nat):List Nat:=match o with|some (.cells _ cs)=>refsL cs acc|some (.map _ es)=>refsE es acc|_=>acc
def fNats(l:List Nat)(k:List Nat->α):α:=@List.rec Nat (fun _=>(List Nat->α)->α) (fun k=>k []) (fun x _ a k=>fNat x fun x=>a fun l=>k (x::l)) l k
theorem Qiv(l)(k:List Nat->α):fNats l k=k l:=by induction l generalizing k with|nil=>rfl|cons x r a=>show fNat x (fun x=>fNats r fun l=>k (x::l))=_;rw[Qby,a]
def closR(h:Heap)(d:Nat)(todo acc:List Nat)(k:List Nat->α):α:=@Nat.rec (fun _=>List Nat->List Nat->α) (fun _ acc=>k acc) (fun _ a todo acc=>match todo with|[]=>k acc|b::todo=>ifB (hasB acc b) (a todo acc) (getR h b fun o=>fNats (refsB o todo) fun todo=>a todo (b::acc))) d todo acc
theorem Qiw(h):∀(d:Nat)(todo acc:List Nat)(k:List Nat->α),∃B,closR h d todo acc k=k B
 |0,todo,acc,k=>⟨acc,rfl⟩|d+1,[],acc,k=>⟨acc,rfl⟩|d+1,b::todo,acc,k=>by
  have e:closR h (d+1) (b::todo) acc k=ifB (hasB acc b) (closR h d todo acc k) (getR h b fun o=>fNats (refsB o todo) fun todo=>closR h d todo (b::acc) k):=rfl;rw[e,QaL];split;·exact Qiw h d todo acc k
  rw[QbU,Qiv];exact Qiw h d _ _ k
def domK(t:Heap)(m o:Nat)(acc:List Nat)(k:List Nat->α):α:=@Tr.rec Blk (fun _=>Nat->Nat->List Nat->(List Nat->α)->α) (fun _ _ acc k=>k acc) (fun _ v _ c d m o acc k=>fNat (Nat.mul 2 m) fun a=>fNat (Nat.add m o) fun f=>fNat (Nat.add a o) fun b=>(match v with|some _=>c a f (o::acc) fun acc=>d a b acc k|none=>c a f acc fun acc=>d a b acc k)) t m o acc k
def domL:Heap->Nat->Nat->List Nat->List Nat|.e,_,_,acc=>acc|.n l v r,m,o,acc=>domL r (2*m) (2*m+o) (domL l (2*m) (m+o) (match v with|some _=>o::acc|none=>acc))
theorem Qj6:∀(t:Heap)(m o:Nat)(acc:List Nat)(k:List Nat->α),domK t m o acc k=k (domL t m o acc)|.e,m,o,acc,k=>rfl|.n l v r,m,o,acc,k=>by have e:domK (.n l v r) m o acc k=fNat (Nat.mul 2 m) fun a=>fNat (Nat.add m o) fun b=>fNat (Nat.add a o) fun c=>(match v with|some _=>domK l a b (o::acc) fun acc=>domK r a c acc k|none=>domK l a b acc fun acc=>domK r a c acc k):=rfl;rw[e];simp only[Qby];cases v<;>simp only[Qj6 l,Qj6 r,domL]<;>rfl
theorem QeR:∀(t:Heap)(m o:Nat){acc:List Nat}{b:Nat},b∈acc->b∈domL t m o acc|.e,_,_,_,_,h=>h|.n l v r,m,o,acc,b,h=>by simp only[domL];refine QeR r _ _ (QeR l _ _ ?_);grind
theorem Qix:∀(t:Heap)(m o:Nat)(acc:List Nat)(j:Nat),t.get j≠none->m*j+o∈domL t m o acc
 |.e,_,_,_,j,h=>absurd (by simp[Tr.get]) h|.n l v r,m,o,acc,j,h=>by
  rw[Tr.get_n]at h;simp only[domL];by_cases a:j=0;·subst a;rw[if_pos rfl]at h;refine QeR r _ _ (QeR l _ _ ?_);grind
  rw[if_neg a]at h;by_cases h1:j%2=1
  ·rw[if_pos h1]at h;refine QeR r _ _ ?_;have:=Qix l (2*m) (m+o) (match v with|some _=>o::acc|none=>acc) (j/2) h;have e:2*m*(j/2)+(m+o)=m*j+o:=by
    have:j=2*(j/2)+1:=by omega
    grind
   simp_all
  rw[if_neg h1]at h;have:=Qix r (2*m) (2*m+o) (domL l (2*m) (m+o) (match v with|some _=>o::acc|none=>acc)) (j/2-1) h;have e:2*m*(j/2-1)+(2*m+o)=m*j+o:=by
   have:j=2*(j/2-1)+2:=by omega
   grind
  simp_all
def overR(A:Ans α)(c h:Heap)(D:List Nat)(k:Heap->α):α:=@List.rec Nat (fun _=>Heap->α) (fun h=>k h) (fun b _ a h=>getR c b fun o=>(match o with|some x=>putBR A h b x fun h=>a h|none=>a h)) D h
theorem QfQ{A}:∀{D:List Nat}{h:Heap}{k:Heap->α},(∀b∈D,b<lim)->overR A a h D k=k (over a h D)|[],h,k,_=>rfl|b::D,h,k,d=>by have e:overR A a h (b::D) k=getR a b fun o=>(match o with|some x=>putBR A h b x fun h=>overR A a h D k|none=>overR A a h D k):=rfl;rw[e,QbU];simp only[over];cases a.get b with|none=>exact QfQ fun b c=>d b (by simp[c])|some x=>simp only;rw[Qb4,if_pos (d b (by simp))];exact QfQ fun b c=>d b (by simp[c])
def frR(A:Ans α)(call:CallerA α)(f:Nat)(a:List AV)(h:Heap)(n:Nat)(k:AV->Heap->Nat->FP->α):α:=fNats (refsL a []) fun todo=>closR h 100000 todo [] fun B=>ifB (allLim B&&inBs B a&&B.all fun b=>blkIn B (h.get b)) (overR A h .e B fun g=>call (.fr g) f a h n fun v c d=>domK c 1 0 [] fun D=>ifB (allLim D&&(D.all fun b=>hasB B b||(h.get b).isNone)&&(B.all fun b=>hasB D b)&&D.all fun b=>(c.get b).isSome) (overR A c h D fun h1=>fNats (D.filter fun b=>!eqBlk (c.get b) (h.get b)) fun W=>k v h1 d ⟨false,D,W⟩) A.bad) A.bad
def callRG(A:Ans α)(call:CallerA α)(p:Nat)(i:Nat)(x:Opd)(args:List Opd)(T:Tmps)(h:Heap)(n:Nat)(k:AV->Heap->Nat->FP->α):α:=evK T x fun f=>(match f with|.fn f first captured=>evsK T args fun a=>fList (first++a++captured) fun a=>ifB (noRefs a) (newR A call f a a true [] i h n k) (match p with|0=>frR A call f a h n k|_=>runR A (mapH (frzH 4) a) h fun b _=>newR A call f a b false ((mapH (frzH 4) a).fp h).1 i h n k)|_=>A.bad)
def operRG(A:Ans α)(call:CallerA α)(p:Nat)(i:Nat)(s:SOper)(T:Tmps)(h:Heap)(n:Nat)(k:AV->Heap->Nat->FP->α):α:=match p,s.op with|p+1,.call .heap x args=>(match s.guard with|none=>callRG A call p i x args T h n k|some (g,a)=>lkK T g fun y=>(match y with|.bool b=>ifB a (ifB b (callRG A call p i x args T h n k) (k (.tup []) h n ⟨false,[],[]⟩)) (ifB b (k (.tup []) h n ⟨false,[],[]⟩) (callRG A call p i x args T h n k))|.tup []=>k (.tup []) h n ⟨false,[],[]⟩|_=>A.bad))|_,_=>operR A call i s T h n fun v h1 n=>k v h1 n (operFP i s T h)
def FrOK(P:Program)(A:Ans α)(call:CallerA α):Prop:=∀(b:Heap)(f:Nat)(args:List AV)(h:Heap)(n:Nat)(k:AV->Heap->Nat->α),A.holds (call (.fr b) f args h n k)->∃v a c,A.holds (k v a c)/\HSpec P f args b v a
def NewOK(P:Program)(A:Ans α)(call:CallerA α):Prop:=∀(f:Nat)(args:List AV)(h:Heap)(n:Nat)(k:AV->Heap->Nat->α),noRefs args=true->A.holds (call .new f args h n k)->∃v a b,A.holds (k v a b)/\HSpec P f args .e v a/\∀u c,(frzH 6 v).run a=some (u,c)->noRef u=true->PSpec P f args u
section
variable{A:Ans α}(hA:A.OK){call:CallerA α}
include hA
theorem Qji(hnw:NewOK P A call){same:Bool}{k:AV->Heap->Nat->FP->α}(p:same=true->d=args)(x:(d=args/\R=[])\/((mapH (frzH 4) args).run h=some (d,h)/\R=((mapH (frzH 4) args).fp h).1))(c:A.holds (newR A call f args d same R i h n k)):∃v h1 n' fp,A.holds (k v h1 n' fp)/\NStep P i f args h v h1 fp:=by
 unfold newR at c;rw[QaL]at c;split at c
 ·rename_i s;obtain⟨v,t,n',a,m,o⟩:=hnw _ _ _ _ _ s c;have flat:∀u,A.holds (runR A (frzH 6 u) t fun v _=>ifB (noRef v&&(flatV v||same)) (fAV v fun v=>k v h n ⟨false,R,[]⟩) A.bad)->u=v->∃v h1 n' fp,A.holds (k v h1 n' fp)/\NStep P i f args h v h1 fp:=by
   rintro u c rfl;rw[Qdd]at c;split at c
   ·rename_i v2 G y;rw[QaL]at c;split at c;·rename_i hc;simp only[Zac,Zbo]at hc;rw[Qdp]at c;exact⟨v2,h,n,_,c,d,R,x,.inr ⟨o _ _ y hc.1,hc.2.imp id p,rfl,rfl⟩⟩
    exact absurd c hA.bad
   exact absurd c hA.bad
  split at a
  ·rename_i b g off len sz;rw[QbU]at a;split at a
   ·rename_i w cs E;rw[QaL]at a;split at a
    ·rename_i hc;simp only[Zac]at hc;obtain⟨⟨z,C⟩,F⟩:=hc;have B:w=g:=by simpa using z
     subst B;have q:i<lim:=Zaw F;rw[Qiu,QaL]at a;split at a
     ·rename_i l;simp only[Zbo,Zac]at l;rw[QbU]at a;split at a;·rename_i hi;rw[Qb4,if_pos q]at a;exact⟨_,_,_,_,a,d,R,x,.inl ⟨cs.drop off,len,sz,⟨m.1,s,b,w,off,cs,t,rfl,Zaw C,E,m⟩,l.imp id (fun h=>⟨h.1,p h.2⟩),q,hi,rfl,rfl,rfl⟩⟩
      exact absurd a hA.bad
     exact absurd a hA.bad
    exact absurd a hA.bad
   exact absurd a hA.bad
  grind
 exact absurd c hA.bad
end
section
variable{A:Ans α}(hA:A.OK){call:CallerA α}
include hA
theorem Qrv(hfr:FrOK P A call){k:AV->Heap->Nat->FP->α}(g:A.holds (frR A call f c h n k)):∃v h1 n' fp,A.holds (k v h1 n' fp)/\FStep P f c h v h1 fp:=by
 unfold frR at g;rw[Qiv]at g;obtain⟨B,e⟩:=Qiw (α:=α) h 100000 (refsL c []) [] (fun B=>ifB (allLim B&&inBs B c&&B.all fun b=>blkIn B (h.get b)) (overR A h .e B fun m=>call (.fr m) f c h n fun v d t=>domK d 1 0 [] fun D=>ifB (allLim D&&(D.all fun b=>hasB B b||(h.get b).isNone)&&(B.all fun b=>hasB D b)&&D.all fun b=>(d.get b).isSome) (overR A d h D fun h1=>fNats (D.filter fun b=>!eqBlk (d.get b) (h.get b)) fun W=>k v h1 t ⟨false,D,W⟩) A.bad) A.bad);rw[e,QaL]at g;clear e;split at g
 ·rename_i hc;simp only[Zac]at hc;obtain⟨⟨p,q⟩,u⟩:=hc;rw[QfQ fun b a=>Qd7 p a]at g;obtain⟨v,d,n',i,s⟩:=hfr _ _ _ _ _ _ g;rw[Qj6,QaL]at i;split at i
  ·rename_i l;simp only[Zac]at l;obtain⟨⟨⟨o,x⟩,w⟩,z⟩:=l;rw[QfQ fun b a=>Qd7 o a,Qiv]at i;refine⟨v,_,n',_,i,B,domL d 1 0 [],_,d,p,o,q,fun b a=>ZaH.1 u b a,s,fun b a e=>?_,fun b a=>?_,fun b a=>QdI.1 (ZaH.1 w b a),fun b a m=>?_,fun b a y=>?_,fun b a=>(ZaZ.1 a).1,rfl,rfl⟩;·grind
   ·have :=Qix d 1 0 [] b a;simp_all
   ·have :=ZaH.1 x b a;simp_all[QdI]
   grind[Qti]
  exact absurd i hA.bad
 exact absurd g hA.bad
end
section
variable{A:Ans α}(hA:A.OK){call:CallerA α}(hc:CallOKA P A call)(hrn:RndOK P A call)(hgv:FrOK P A call)(hnw:NewOK P A call)
include hA hc hrn hgv hnw
theorem QgG{args:List Opd}{k:AV->Heap->Nat->FP->α}(a:A.holds (callRG A call p i x args T h n k)):∃v h1 n' f,A.holds (k v h1 n' f)/\StepX P i (.call .heap x args) T h v h1 f:=by
 unfold callRG at a;rw[Qbu]at a;split at a
 ·rename_i f first captured g;rw[Qj5,Qc3,QaL]at a;have e:aop i T (.call .heap x args)=aCall .heap (ev T x) (evs T args):=rfl;have b:(aop i T (.call .heap x args)).run h=some (.call .heap f (first++evs T args++captured),h):=by rw[e,g];rfl
  have step:∀{v:AV}{h1:Heap}{fp:FP},NStep P i f (first++evs T args++captured) h v h1 fp->StepX P i (.call .heap x args) T h v h1 fp:=by intro v h1 fp c;exact⟨.call .heap f (first++evs T args++captured),h,b,.inr (.inr (.inl c))⟩
  split at a;·obtain⟨v,h1,n',fp,d,c⟩:=Qji hA hnw (fun _=>rfl) (.inl ⟨rfl,rfl⟩) a;grind
  split at a;·obtain⟨v,h1,n',fp,d,c⟩:=Qrv hA hgv a;exact⟨v,h1,n',fp,d,.call .heap f (first++evs T args++captured),h,b,.inr (.inr (.inr c))⟩
  rw[Qdd]at a;split at a;·rename_i l m hm;have:m=h:=HM.Qq1 _ (Qdc (QeE 4) _) hm;subst this;obtain⟨v,h1,n',fp,d,c⟩:=Qji hA hnw (fun e=>by cases e) (.inr ⟨hm,rfl⟩) a;grind
  exact absurd a hA.bad
 exact absurd a hA.bad
theorem Qm6{k:AV->Heap->Nat->FP->α}(c:A.holds (operRG A call p i s T h n k)):∃v h1 n' f,A.holds (k v h1 n' f)/\StepV P i s T h v h1 f:=by
 have t:A.holds (operR A call i s T h n fun v h1 n=>k v h1 n (operFP i s T h))->∃v h1 n' f,A.holds (k v h1 n' f)/\StepV P i s T h v h1 f:=by grind[QhU]
 unfold operRG at c;split at c;·rename_i p x args ho;unfold StepV;cases o:s.guard with|none=>rw[o]at c;simp only at c⊢;rw[ho];exact QgG hA hc hrn hgv hnw c|some q=>
  obtain⟨g,a⟩:=q;rw[o]at c;simp only[Qfr]at c⊢;rw[ho];split at c
  ·rename_i b m;rw[m];have run:A.holds (callRG A call p i x args T h n k)->b=a->∃v h1 n' f,A.holds (k v h1 n' f)/\∃l,wantedA (.bool b) a=some l/\if l=true then StepX P i (.call .heap x args) T h v h1 f else(v=.tup []/\h1=h/\f=⟨false,[],[]⟩):=by intro d e;obtain⟨v,h1,n',f,y,w⟩:=QgG hA hc hrn hgv hnw d;subst e;exact⟨v,h1,n',f,y,true,by simp[wantedA],by simpa using w⟩
   have skip:A.holds (k (.tup []) h n ⟨false,[],[]⟩)->b≠a->∃v h1 n' f,A.holds (k v h1 n' f)/\∃l,wantedA (.bool b) a=some l/\if l=true then StepX P i (.call .heap x args) T h v h1 f else(v=.tup []/\h1=h/\f=⟨false,[],[]⟩):=by
    intro d e;have u:(b==a)=false:=by simpa using e
    exact⟨.tup [],h,n,_,d,false,by simp[wantedA,u],by simp⟩
   simp only[QaL]at c;grind
  ·rename_i m;rw[m];exact⟨.tup [],h,n,_,c,false,by simp[wantedA],by simp⟩
  exact absurd c hA.bad
 simp_all
end
def opsR(A:Ans α)(call:CallerA α)(ops:List FOp)(j:Nat)(T:Tmps)(h:Heap)(n:Nat)(k:Tmps->Heap->Nat->α):α:=@List.rec FOp (fun _=>Nat->Tmps->Heap->Nat->α) (fun _ T h n=>k T h n) (fun s _ a j T h n=>operR A call j s.o T h n fun v h n=>putS s.nw T s.o.dst v fun T=>fNat (Nat.succ j) fun j=>a j T h n) ops j T h n
def pmark(a:List (Nat×Nat))(i:Nat):Nat:=ifB (a.any fun p=>Nat.beq p.1 i&&Nat.beq p.2 999999) 2 (ifB (a.any fun p=>Nat.beq p.1 i||Nat.beq p.2 i) 1 0)
def opsRF(A:Ans α)(call:CallerA α)(d:List (Nat×Nat))(ops:List FOp)(i j:Nat)(T:Tmps)(h:Heap)(n:Nat)(k:List FP->Tmps->Heap->Nat->α):α:=@List.rec FOp (fun _=>Nat->Nat->Tmps->Heap->Nat->(List FP->Tmps->Heap->Nat->α)->α) (fun _ _ T h n k=>k [] T h n) (fun s _ b i j T h n k=>operRG A call (pmark d i) j s.o T h n fun v h1 n f=>putS s.nw T s.o.dst v fun T1=>fNat (Nat.succ j) fun a=>fNat (Nat.succ i) fun c=>b c a T1 h1 n fun fs=>k (f::fs)) ops i j T h n k
theorem QhV{s}{f}(e:∀j,lk T j=lk T' j)(hs:StepX P i s T h v h1 f):StepX P i s T' h v h1 f:=by grind[StepX,QkS]
theorem Qfi{f}(e:∀j,lk T j=lk T' j)(a:StepV P i s T h v h1 f):StepV P i s T' h v h1 f:=by
 unfold StepV at a⊢;split;·grind[QhV]
 rename_i g k l;rw[l]at a;obtain⟨b,m,d⟩:=a;refine⟨b,by simp_all,?_⟩;split;·rename_i c;rw[if_pos c]at d;exact QhV e d
 simp_all
section
variable{A:Ans α}(hA:A.OK){call:CallerA α}(hc:CallOKA P A call)(hrn:RndOK P A call)
include hA hc hrn
theorem Qei{base:Nat}{k:Tmps->Heap->Nat->α}:∀(r:List FOp)(i:Nat)(T T0:Tmps)(h:Heap)(n:Nat),(∀j,lk T j=lk T0 j)->A.holds (opsR A call r (base+i) T h n k)->∃T' T0' h' n' fs,A.holds (k T' h' n')/\(∀j,lk T' j=lk T0' j)/\RunF P base i (r.map FOp.o) fs ⟨T0,h⟩ ⟨T0',h'⟩
 |[],i,T,T0,h,n,e,a=>⟨T,T0,h,n,[],a,e,rfl,rfl⟩|s::r,i,T,T0,h,n,e,a=>by
  have a:A.holds (operR A call (base+i) s.o T h n fun v h n=>putS s.nw T s.o.dst v fun T=>fNat (Nat.succ (base+i)) fun j=>opsR A call r j T h n k):=a;obtain⟨v,h1,d,c,m⟩:=QhU hA hc hrn a;obtain⟨T1,b,p⟩:=Qlh s.nw T s.o.dst v (fun T=>fNat (Nat.succ (base+i)) fun j=>opsR A call r j T h1 d k);rw[b,Qby]at c;have o:∀j,lk T1 j=lk (putD T0 s.o.dst v) j:=by simp_all[QbJ]
  obtain⟨T',T0',h',n',fs,f,g,l⟩:=Qei (base:=base) r (i+1) T1 (putD T0 s.o.dst v) h1 d o c;exact⟨T',T0',h',n',_::fs,f,g,_,fs,v,h1,rfl,Qfi e m,l⟩
omit hc hrn in theorem QhW(hc:CallOKA P A call)(hrn:RndOK P A call)(hgv:FrOK P A call)(hnw:NewOK P A call){ps:List (Nat×Nat)}{base:Nat}:∀(r:List FOp)(i:Nat)(T T0:Tmps)(h:Heap)(n:Nat)(k:List FP->Tmps->Heap->Nat->α),(∀j,lk T j=lk T0 j)->A.holds (opsRF A call ps r i (base+i) T h n k)->∃T' T0' h' n' fs,A.holds (k fs T' h' n')/\(∀j,lk T' j=lk T0' j)/\RunF P base i (r.map FOp.o) fs ⟨T0,h⟩ ⟨T0',h'⟩
 |[],i,T,T0,h,n,k,e,hx=>⟨T,T0,h,n,[],hx,e,rfl,rfl⟩|s::r,i,T,T0,h,n,k,e,hx=>by
  have hx:A.holds (operRG A call (pmark ps i) (base+i) s.o T h n fun v h1 n f=>putS s.nw T s.o.dst v fun T1=>fNat (Nat.succ (base+i)) fun j1=>fNat (Nat.succ i) fun i1=>opsRF A call ps r i1 j1 T1 h1 n fun fs=>k (f::fs)):=hx;obtain⟨v,h1,n1,f,hk,hs⟩:=Qm6 hA hc hrn hgv hnw hx;obtain⟨T1,hT1,e1⟩:=Qlh s.nw T s.o.dst v (fun T1=>fNat (Nat.succ (base+i)) fun j1=>fNat (Nat.succ i) fun i1=>opsRF A call ps r i1 j1 T1 h1 n1 fun fs=>k (f::fs));rw[hT1,Qby,Qby]at hk;have e2:∀j,lk T1 j=lk (putD T0 s.o.dst v) j:=by simp_all[QbJ]
  obtain⟨T',T0',h',n',fs,h2,h3,h4⟩:=QhW hc hrn hgv hnw (base:=base) r (i+1) T1 (putD T0 s.o.dst v) h1 n1 _ e2 hk;exact⟨T',T0',h',n',_::fs,h2,h3,_,fs,v,h1,rfl,Qfi e hs,h4⟩
end
theorem W.regionS{A C}(base)(fs)(l:RunF P base 0 sops fs A C)(hp:(b.all fun p=>(fs.getD p.1 ⟨false,[],[]⟩).apart (fs.getD p.2 ⟨false,[],[]⟩))=true)(n:Sub L C.T)(hQ:Q .normal ⟨L,C.h⟩):W P N (.region sops b dead) Q A:=by
 have h1:=RunF.to_L (P:=P) (base:=base) (sops:=sops) sops [] fs [] A C (by simp) rfl l;intro code d c a w S ro m Q' f;cases code<;>simp only[okCode,Zat]at d;refine Qgz d (base:=base) (fpf:=fun i=>fs.getD i ⟨false,[],[]⟩) (by simpa[Zb0]using h1) ?_ S fun h k g S' E'=>f .normal _ h k g hQ ?_ E';·simp_all
 refine⟨S'.heap,fun i=>?_,S'.size,S'.defers⟩;rcases n i with e|e;·simp_all[VRel]
 show VRel h g (lk L i) _;rw[e];exact S'.tmps i
def argR(i:Nat)(l:List AV)(k:Tmps->α):α:=@List.rec AV (fun _=>Nat->(Tmps->α)->α) (fun _ k=>k []) (fun x _ a i k=>fNat (Nat.succ i) fun j=>a j fun r=>k ((i,x)::r)) l i k
theorem Qj7(i)(l)(k:Tmps->α):argR i l k=k (argT i l):=by induction l generalizing i k with|nil=>rfl|cons x r a=>show fNat (Nat.succ i) (fun j=>argR j r fun r=>k ((i,x)::r))=_;rw[Qby,a];rfl
def resR(A:Ans α)(T:Tmps)(h:Heap)(l:List SRes)(k:List AV->α):α:=@List.rec SRes (fun _=>(List AV->α)->α) (fun k=>k []) (fun x _ c k=>(match x with|.tmp t=>lkK T t fun v=>c fun b=>k (v::b)|.cell a m=>lkK T a fun p=>loadR A m p h fun v=>c fun b=>k (v::b))) l k
theorem Qj8(A:Ans α)(T:Tmps)(h:Heap)(l:List SRes)(k:List AV->α):resR A T h l k=match resV T h l with|some vs=>k vs|none=>A.bad:=by
 have:∀(l:List SRes)(k:List AV->α),resR A T h l k=match resV T h l with|some vs=>k vs|none=>A.bad:=by intro l;induction l with|nil=>intro k;rfl|cons x r b=>intro k;cases x with|tmp t=>show lkK T t (fun v=>resR A T h r fun vs=>k (v::vs))=_;rw[Qfr,b];simp only[resV];cases resV T h r<;>rfl|cell a m=>show lkK T a (fun p=>loadR A m p h fun v=>resR A T h r fun vs=>k (v::vs))=_;rw[Qfr,Qm4];simp only[resV];cases(aLoad m (lk T a)).run h with|none=>rfl|some q=>obtain⟨v,c⟩:=q;simp only;rw[b];cases resV T h r<;>rfl
 exact this l k
abbrev Orc:=Nat->Option (List AV×AV)
def bodyR(A:Ans α)(sf:FFn)(run:FCode->Tmps->Heap->Nat->KcA α->α)(args:List AV)(h:Heap)(n:Nat)(k:AV->Heap->Nat->α):α:=argR 0 args fun T=>run sf.body T h n fun e T h n=>(match e with|.exit _=>A.bad|_=>resR A T h sf.res fun a=>fAV (resOf a) fun v=>k v h n)
def upsR(T:Tmps)(a:List Nat)(xs:List AV)(k:Tmps->α):α:=match a,xs with|p::a,x::xs=>upR T p x fun T=>upsR T a xs k|_,_=>k T
theorem Qpj:∀(a:List Nat)(xs:List AV)(T:Tmps)(k:Tmps->α),upsR T a xs k=k (upsT T a xs)|[],xs,T,k=>by cases xs<;>rfl|p::a,[],T,k=>rfl|p::a,x::xs,T,k=>by show upR T p x (fun T=>upsR T a xs k)=_;rw[Qd8,Qpj a xs];rfl
def rndR(A:Ans α)(run:FCode->Tmps->Heap->Nat->KcA α->α)(g b:Nat)(args:List AV)(h:Heap)(n:Nat)(k:AV->Heap->Nat->α):α:=getR h b fun o=>(match o with|some (.loop E N T m (.f s) (.f body) .ready)=>ifB (Nat.beq E g&&Nat.ble (Nat.succ b) lim&&Nat.beq args.length m.length&&m.all fun p=>Nat.ble (Nat.succ p) N) (upsR T m args fun T1=>run s T1 h n fun e T2 u z=>(match e with|.normal=>getR u b fun w=>(match w with|some (.loop B N2 T2' t l c .ready)=>ifB (Nat.beq B g) (putBR A u b (.loop g N2 T2' t l c .busy) fun x=>run body T2 x z fun e T4 i v=>getR i b fun C=>(match C with|some (.loop y N4 T4' d f a .busy)=>ifB (Nat.beq y g) (match e with|.normal=>putBR A i b (.loop g N4 T4' d f a .ready) fun q=>k (.bool true) q v|e=>putBR A i b (.loop g N4 T4' d f a (.done e)) fun q=>k (.bool false) q v) A.bad|_=>A.bad)) A.bad|_=>A.bad)|_=>A.bad)) A.bad|_=>A.bad)
def unRoom(v:AV):AV:=match v with|.typed _ (_+1) (.sl b g off len sz)=>.sl b g off len sz|v=>v
theorem HSpec.unRoom(b:HSpec P f args h v h'):HSpec P f args h (unRoom v) h':=by
 refine⟨b.1,fun c w a H d=>(b.2 c w a H d).mono ?_⟩;rintro e k⟨i,g,he,E,H',V⟩;refine⟨i,g,he,E,H',?_⟩;unfold Go.AM.unRoom;split;·simp only[VRel]at V;simpa only[VRel]using V.2
 exact V
def callR(A:Ans α)(orc:Orc)(fns:Nat->Option FFn)(run:FCode->Tmps->Heap->Nat->KcA α->α):CallerA α:=fun i f args h n k=>match i with
 |.rnd g=>rndR A run g f args h n k|.new=>match orc f with|some _=>A.bad|none=>match fns f with|none=>A.bad|some sf=>ifB (Nat.ble args.length sf.n) (bodyR A sf run args .e 64 k) A.bad
 |.fr d=>match orc f with|some _=>A.bad|none=>match fns f with|none=>A.bad|some sf=>ifB (Nat.ble args.length sf.n) (bodyR A sf run args d n fun v h n=>k (unRoom v) h n) A.bad
 |.give b g xs=>match orc f with|some _=>A.bad|none=>match fns f with|none=>A.bad|some sf=>ifB (Nat.ble args.length sf.n) (bodyR A sf run args (one b (.cells g xs)) n fun v a _=>runR A (frzH 6 v) a fun v _=>ifB (noRef v) (fAV v fun v=>k v h n) A.bad) A.bad
 |.c m=>match orc f with|some (c,v)=>(match m with|.heap=>A.bad|_=>A.asm args c (k v h n))|none=>match fns f with|none=>A.bad|some sf=>ifB (Nat.ble args.length sf.n) (match m with|.heap=>bodyR A sf run args h n fun v h n=>k (unRoom v) h n|_=>ifB (noRefs args) (bodyR A sf run args .e 64 fun v a _=>runR A (frzH 6 v) a fun v _=>ifB (noRef v) (fAV v fun v=>k v h n) A.bad) A.bad) A.bad
theorem W.Qm7{A}(h:W P N g (fun e B=>e=l/\B.h=h'/\Sub T' B.T) A):W P N g (fun e B=>e=l/\B=⟨T',h'⟩) A:=by
 intro code d c a w S ro b Q' o;refine h code d c a w S ro b Q' ?_;rintro e B f m k⟨rfl,rfl,n⟩S' E';refine o e ⟨T',B.h⟩ f m k ⟨rfl,rfl⟩ ⟨S'.heap,fun i=>?_,S'.size,S'.defers⟩ E';rcases n i with e|e;·simp_all[VRel]
 show VRel f k (lk T' i) _;rw[e];exact S'.tmps i
def ml1(e:SX)(a b2:Nat)(J:Prop)(X:SX->Prop):Prop:=match e with|.normal=>J|.exit j=>if j=b2 then J else if j=a then X .normal else X (.exit j)|.ret=>X .ret
theorem RunF.congr{base}:∀{r:List SOper}{i:Nat}{fs:List FP}{T T':Tmps}{h:Heap}{C:St},RunF P base i r fs ⟨T,h⟩ C->(∀j,lk T j=lk T' j)->∃D:St,RunF P base i r fs ⟨T',h⟩ D/\D.h=C.h/\∀j,lk C.T j=lk D.T j|[],i,fs,T,T',h,C,a,e=>by obtain⟨rfl,rfl⟩:=a;exact⟨⟨T',h⟩,⟨rfl,rfl⟩,rfl,e⟩|s::r,i,fs,T,T',h,C,a,e=>by obtain⟨f,b,v,h1,rfl,c,a⟩:=a;obtain⟨D,g,d,k⟩:=RunF.congr a (T':=putD T' s.dst v) (fun j=>by grind[QbJ]);exact⟨D,⟨f,b,v,h1,rfl,Qfi e c,g⟩,d,k⟩
theorem QcA{X Y}(h:∀j,lk X j=lk Y j):∀j,lk (up X i v) j=lk (up Y i v) j:=by simp_all[lk_up]
def mlEnd(A:Ans α)(it d ok n c b:Nat)(T:Tmps)(h:Heap)(k:Tmps->α):α:=lkK T it fun p=>(match p with|.ptr a 0 0=>ifB (Nat.beq a n) (getR h c fun o=>(match o with|some (.map g es)=>ifB (Nat.beq g b&&Nat.beq es.length 1) (upR T d .any fun T=>upR T ok (.bool false) fun T=>k T) A.bad|_=>A.bad)) A.bad|_=>A.bad)
theorem QoJ{A:Ans α}(hA:A.OK){it d ok c}{k}(b:A.holds (mlEnd A it d ok n f c T h k)):lk T it=.ptr n 0 0/\(∃es,h.get f=some (.map c es)/\es.length=1)/\A.holds (k (up (up T d .any) ok (.bool false))):=by
 unfold mlEnd at b;rw[Qfr]at b;split at b
 ·rename_i a hp;rw[QaL]at b;split at b
  ·rename_i i;have:a=n:=by simpa using i
   subst this;rw[QbU]at b;split at b
   ·rename_i g es l;rw[QaL]at b;split at b;·simp_all[Qd8]
    exact absurd b hA.bad
   exact absurd b hA.bad
  exact absurd b hA.bad
 exact absurd b hA.bad
def exR(A:Ans α)(orc:Orc)(fns:Nat->Option FFn)(d:Nat):FCode->Tmps->Heap->Nat->KcA α->α:=@Nat.rec (fun _=>FCode->Tmps->Heap->Nat->KcA α->α) (fun _ _ _ _ _=>A.bad) (fun _ l c T h n k=>match c with|.skip=>k .normal T h n|.ret=>k .ret T h n|.exit i=>k (.exit i) T h n|.bad=>A.bad|.region ops [] dead=>opsR A (callR A orc fns l) ops n T h (Nat.add n 64) fun T h n=>rmR dead T fun T=>fNat n fun n=>k .normal T h n|.region ops (p::q) dead=>opsRF A (callR A orc fns l) (p::q) ops 0 n T h (Nat.add n 64) fun fs T h n=>ifB ((p::q).all fun p=>(fs.getD p.1 ⟨false,[],[]⟩).apart (fs.getD p.2 ⟨false,[],[]⟩)) (rmR dead T fun T=>fNat n fun n=>k .normal T h n) A.bad|.seq a b=>l a T h n fun e T h n=>(match e with|.normal=>l b T h n k|e=>k e T h n)|.cond x a b=>evK T x fun v=>(match v with|.bool t=>ifB t (l a T h n k) (l b T h n k)|_=>A.bad)|.block i b=>l b T h n fun e T h n=>(match e with|.exit j=>ifB (Nat.beq j i) (k .normal T h n) (k (.exit j) T h n)|e=>k e T h n)|.rfunc g q N s body=>evK T g fun v=>(match v with|.fn f first cap=>getR h n fun o=>(match o with|none=>putBR A h n (.loop 0 N T q (.f s) (.f body) .ready) fun h1=>fList (first++[.yld n 0]++cap) fun args=>callR A orc fns l (.c .heap) f args h1 (Nat.succ n) fun _ B m=>getR B n fun G=>(match G with|some (.loop 0 _ _ _ _ _ st)=>putBR A B n (.dead 0) fun z=>(match st with|.ready=>k .normal T z m|.busy=>A.bad|.done .normal=>A.bad|.done e=>k e T z m)|_=>A.bad)|some _=>A.bad)|_=>A.bad)|.mloop pre x it y ok E H b2 rest body=>opsR A (callR A orc fns l) pre n T h (Nat.add n 64) fun T h n=>evK T x fun v=>(match v with|.map u w=>getR h u fun o=>(match o with|some (.map g es)=>ifB (Nat.beq g w) (getR h n fun o=>(match o with|none=>putBR A h n (.dead 0) fun h=>upR T it (.ptr n 0 0) fun T=>upR T y .any fun T=>(match es with|[]=>upR T ok (.bool false) fun T=>k .normal T h (Nat.succ n)|[(C,F)]=>upR T ok (.bool true) fun T=>upR T E (.tup [C,F]) fun T=>opsR A (callR A orc fns l) rest (Nat.succ n) T h (Nat.add n 64) fun T h m=>l body T h m fun e T h m=>(match e with|.normal=>mlEnd A it y ok n u w T h fun T=>k .normal T h m|.exit j=>ifB (Nat.beq j b2) (mlEnd A it y ok n u w T h fun T=>k .normal T h m) (ifB (Nat.beq j H) (k .normal T h m) (k (.exit j) T h m))|.ret=>k .ret T h m)|_=>A.bad)|some _=>A.bad)) A.bad|_=>A.bad)|_=>A.bad)|.loop b=>l b T h n fun e T h n=>(match e with|.normal=>l (.loop b) T h n k|e=>k e T h n)) d
def ExOKA(P:Program)(A:Ans α)(run:FCode->Tmps->Heap->Nat->KcA α->α):Prop:=∀(N:Nat)(c:FCode)(T:Tmps)(h:Heap)(n:Nat)(k:KcA α),A.holds (run c T h n k)->∃e T' a d,A.holds (k e T' a d)/\WX P N c.slim (fun b B=>b=e/\B=⟨T',a⟩) ⟨T,h⟩
section
variable{A:Ans α}(hA:A.OK){orc:Orc}{fns:Nat->Option FFn}
include hA
theorem Qqt{run:FCode->Tmps->Heap->Nat->KcA α->α}(C:ExOKA P A run):RndOK P A (callR A orc fns run):=by
 intro g b args h n k c;have c:A.holds (rndR A run g b args h n k):=c;unfold rndR at c;rw[QbU]at c;split at c
 ·rename_i E N T z I body O;rw[QaL]at c;split at c
  ·rename_i hc;simp only[Zac]at hc;obtain⟨⟨⟨G,J⟩,Q⟩,L⟩:=hc;have K:E=g:=by simpa using G
   subst K;have m:b<lim:=Zaw J;have hlen:args.length=z.length:=by simpa using Q
   have y:∀p∈z,p<N:=fun p hp=>Zaw (ZaH.1 L p hp);rw[Qpj]at c;obtain⟨e,T2,U,V,a,hw,_⟩:=C N _ _ _ _ _ c;cases e with|exit j=>exact absurd a hA.bad|ret=>exact absurd a hA.bad|normal=>
    simp only[QbU]at a;split at a
    ·rename_i F N2 T2' x u f q;rw[QaL]at a;split at a
     ·rename_i d;have d:F=E:=by simpa using d
      subst d;rw[Qb4,if_pos m]at a;obtain⟨e,T4,H,S,a,w,_⟩:=C N _ _ _ _ _ a;split at a
      ·rename_i v N4 T4' t s l M;rw[QaL]at a;split at a
       ·rename_i i;have i:v=F:=by simpa using i
        subst i;have fin:∀o,o=e->RSpec P b v args h (.bool o.isNormal) (H.set b (.loop v N4 T4' t s l (stOf o))):=by rintro o rfl;refine RSpec.of_W O m hlen y (hw.mono ?_);rintro R B⟨rfl,rfl⟩;refine⟨rfl,N2,T2',x,u,f,q,w.mono ?_⟩;grind
        cases e with|normal=>simp only[Qb4,if_pos m]at a;exact⟨_,_,_,a,fin _ rfl⟩|exit j=>simp only[Qb4,if_pos m]at a;exact⟨_,_,_,a,fin _ rfl⟩|ret=>simp only[Qb4,if_pos m]at a;exact⟨_,_,_,a,fin _ rfl⟩
       exact absurd a hA.bad
      exact absurd a hA.bad
     exact absurd a hA.bad
    exact absurd a hA.bad
  exact absurd c hA.bad
 exact absurd c hA.bad
end
def OrcOK(P:Program)(orc:Orc):Prop:=∀f a v,orc f=some (a,v)->PSpec P f a v
section
variable{A:Ans α}(hA:A.OK){orc:Orc}(ho:OrcOK P orc){fns:Nat->Option FFn}(hf:∀f sf,fns f=some sf->okFn P f sf.slim=true)
include hA ho hf
theorem QhX{run:FCode->Tmps->Heap->Nat->KcA α->α}(G:ExOKA P A run):CallOKA P A (callR A orc fns run):=by intro m f args h n k b;unfold callR at b;simp only at b;cases l:orc f with
 |some p=>obtain⟨w,v⟩:=p;rw[l]at b;simp only at b;have hp:=ho f w v l;cases m with|heap=>exact absurd b hA.bad|pure=>obtain⟨e,a⟩:=hA.asm _ _ _ b;exact⟨v,h,n,a,fun e=>(by cases e),fun _=>by simp_all⟩|borrow=>obtain⟨e,a⟩:=hA.asm _ _ _ b;exact⟨v,h,n,a,fun e=>(by cases e),fun _=>by simp_all⟩
 |none=>rw[l]at b;simp only at b;cases u:fns f with|none=>rw[u]at b;exact absurd b hA.bad|some sf=>
  rw[u]at b;simp only[QaL]at b;have q:=hf f sf u;split at b
  ·rename_i s;have s:args.length<=sf.slim.n:=Zaw s;have body:∀(x:Heap)(z:Nat)(t:AV->Heap->Nat->α),A.holds (bodyR A sf run args x z t)->∃e T' c i g,(e=.normal\/e=.ret)/\resV T' c sf.res=some g/\A.holds (t (resOf g) c i)/\W P sf.slim.n sf.slim.body (fun y B=>y=e/\B=⟨T',c⟩) ⟨argT 0 args,x⟩:=by
    intro x z t b;unfold bodyR at b;rw[Qj7]at b;obtain⟨e,T',c,i,a,hw,_⟩:=G sf.slim.n _ _ _ _ _ b;have he:e=.normal\/e=.ret:=by cases e<;>first|(exact absurd a hA.bad)|simp
    have a:A.holds (resR A T' c sf.res fun g=>fAV (resOf g) fun v=>t v c i):=by grind
    rw[Qj8]at a;cases o:resV T' c sf.res with|none=>rw[o]at a;exact absurd a hA.bad|some g=>rw[o]at a;simp only[Qdp]at a;exact⟨e,T',c,i,g,he,o,a,hw⟩
   have d:∀(K:AV->α),A.holds (if noRefs args=true then bodyR A sf run args .e 64 (fun v c _=>runR A (frzH 6 v) c fun v _=>if noRef v=true then fAV v fun v=>K v else A.bad)else A.bad)->∃v,A.holds (K v)/\PSpec P f args v:=by
    intro K b;split at b
    ·rename_i F;obtain⟨e,T',c,i,g,he,o,a,hw⟩:=body _ _ _ b;simp only[Qdd]at a;split at a
     ·rename_i v H E;split at a;·rename_i C;rw[Qdp]at a;refine⟨v,a,PSpec.of_W 6 q s F C (hw.mono ?_)⟩;rintro y B⟨rfl,rfl⟩;exact⟨he,g,o,H,E⟩
      exact absurd a hA.bad
     exact absurd a hA.bad
    exact absurd b hA.bad
   cases m with|heap=>obtain⟨e,T',c,i,g,he,o,a,hw⟩:=body _ _ _ b;refine⟨_,c,i,a,fun _=>HSpec.unRoom (HSpec.of_W q s (hw.mono ?_)),fun h=>absurd rfl h⟩;rintro y B⟨rfl,rfl⟩;exact⟨he,g,o,rfl,fun _=>rfl⟩|pure=>obtain⟨v,a,hp⟩:=d (fun v=>k v h n) b;exact⟨v,h,n,a,fun h=>(by cases h),fun _=>hp⟩|borrow=>obtain⟨v,a,hp⟩:=d (fun v=>k v h n) b;exact⟨v,h,n,a,fun h=>(by cases h),fun _=>hp⟩
  exact absurd b hA.bad
omit ho in theorem Qqu{run:FCode->Tmps->Heap->Nat->KcA α->α}(hr:ExOKA P A run):FrOK P A (callR A orc fns run):=by intro hB f args h n k hx;unfold callR at hx;simp only at hx;cases hor:orc f with|some p=>rw[hor]at hx;exact absurd hx hA.bad|none=>rw[hor]at hx;simp only at hx;cases hs:fns f with|none=>rw[hs]at hx;exact absurd hx hA.bad|some sf=>
 rw[hs]at hx;simp only[QaL]at hx;have hok:=hf f sf hs;split at hx
 ·rename_i hl;have hl:args.length<=sf.slim.n:=Zaw hl;unfold bodyR at hx;rw[Qj7]at hx;obtain⟨e,T',h',n',hk,hw,_⟩:=hr sf.slim.n _ _ _ _ _ hx;have he:e=.normal\/e=.ret:=by cases e<;>first|(exact absurd hk hA.bad)|simp
  have hk:A.holds (resR A T' h' sf.res fun vs=>fAV (resOf vs) fun v=>k (unRoom v) h' n'):=by grind
  rw[Qj8]at hk;cases hv:resV T' h' sf.res with|none=>rw[hv]at hk;exact absurd hk hA.bad|some vs=>rw[hv]at hk;simp only[Qdp]at hk;refine⟨_,h',n',hk,HSpec.unRoom (HSpec.of_W hok hl (hw.mono ?_))⟩;rintro e' B⟨rfl,rfl⟩;exact⟨he,vs,hv,rfl,fun _=>rfl⟩
 ·exact absurd hx hA.bad
omit ho in theorem QoK{run:FCode->Tmps->Heap->Nat->KcA α->α}(hr:ExOKA P A run):NewOK P A (callR A orc fns run):=by intro f args h n k ha hx;unfold callR at hx;simp only at hx;cases hor:orc f with|some p=>rw[hor]at hx;exact absurd hx hA.bad|none=>rw[hor]at hx;simp only at hx;cases hs:fns f with|none=>rw[hs]at hx;exact absurd hx hA.bad|some sf=>
 rw[hs]at hx;simp only[QaL]at hx;have hok:=hf f sf hs;split at hx
 ·rename_i hl;have hl:args.length<=sf.slim.n:=Zaw hl;unfold bodyR at hx;rw[Qj7]at hx;obtain⟨e,T',h',n',hk,hw,_⟩:=hr sf.slim.n _ _ _ _ _ hx;have he:e=.normal\/e=.ret:=by cases e<;>first|(exact absurd hk hA.bad)|simp
  have hk:A.holds (resR A T' h' sf.res fun vs=>fAV (resOf vs) fun v=>k v h' n'):=by grind
  rw[Qj8]at hk;cases hv:resV T' h' sf.res with|none=>rw[hv]at hk;exact absurd hk hA.bad|some vs=>
   rw[hv]at hk;simp only[Qdp]at hk;refine⟨_,h',n',hk,HSpec.of_W hok hl (hw.mono ?_),fun u hh hz hn=>PSpec.of_W 6 hok hl ha hn (hw.mono ?_)⟩;·rintro e' B⟨rfl,rfl⟩;exact⟨he,vs,hv,rfl,fun _=>rfl⟩
   ·rintro e' B⟨rfl,rfl⟩;exact⟨he,vs,hv,hh,hz⟩
 ·exact absurd hx hA.bad
theorem Qrw:∀d,ExOKA P A (exR A orc fns d):=by intro d;induction d with|zero=>intro N c T h n k m;exact absurd m hA.bad|succ d I=>have hc:=QhX hA ho hf I;have hrn:=Qqt (orc:=orc) (fns:=fns) hA I;have hgv:=Qqu hA hf (orc:=orc) I;have hnw:=QoK hA hf (orc:=orc) I;intro N c T h n k m;cases c with
 |skip=>exact⟨_,_,_,_,m,.of (W.skip ⟨rfl,rfl⟩) (by simp[FCode.slim])⟩|ret=>exact⟨_,_,_,_,m,.of (W.ret ⟨rfl,rfl⟩) (by simp[FCode.slim])⟩|exit i=>exact⟨_,_,_,_,m,.of (W.exit ⟨rfl,rfl⟩) (by simp[FCode.slim])⟩|bad=>exact absurd m hA.bad|region ops Z dead=>cases Z with
  |nil=>
   have m:A.holds (opsR A (callR A orc fns (exR A orc fns d)) ops (n+0) T h (Nat.add n 64) fun T h n=>rmR dead T fun T=>fNat n fun n=>k .normal T h n):=m;obtain⟨T',T0,w,E,fs,l,e,hr⟩:=Qei hA hc hrn ops 0 T T h (Nat.add n 64) (fun _=>rfl) m;rw[Qrs,Qby]at l;refine⟨_,_,_,_,l,.of (W.regionS n fs hr (by simp) (L:=rmM dead T') ?_ ⟨rfl,rfl⟩) (by simp[FCode.slim])⟩;intro i;rcases Qph dead T' i with h|h;·exact .inl h
   simp_all|cons p ps=>
   have m:A.holds (opsRF A (callR A orc fns (exR A orc fns d)) (p::ps) ops 0 (n+0) T h (Nat.add n 64) fun fs T h n=>ifB ((p::ps).all fun p=>(fs.getD p.1 ⟨false,[],[]⟩).apart (fs.getD p.2 ⟨false,[],[]⟩)) (rmR dead T fun T=>fNat n fun n=>k .normal T h n) A.bad):=m;obtain⟨T',T0,w,E,fs,l,e,hr⟩:=QhW hA hc hrn hgv hnw ops 0 T T h (Nat.add n 64) _ (fun _=>rfl) m;rw[QaL]at l;split at l
   ·rename_i hp;rw[Qrs,Qby]at l;refine⟨_,_,_,_,l,.of (W.regionS n fs hr hp (L:=rmM dead T') ?_ ⟨rfl,rfl⟩) (by simp[FCode.slim])⟩;intro i;rcases Qph dead T' i with h|h;·exact .inl h
    simp_all
   exact absurd l hA.bad
 |seq a b=>obtain⟨e,T',w,E,l,hw,_⟩:=I N _ _ _ _ _ m;cases e with|normal=>obtain⟨e2,T2,L,z,O,hw2,_⟩:=I N _ _ _ _ _ l;refine⟨e2,T2,L,z,O,.of (W.seq (hw.mono ?_)) (by simp[FCode.slim])⟩;rintro u B⟨rfl,rfl⟩;exact hw2|exit j=>refine⟨_,_,_,_,l,.of (W.seq (hw.mono ?_)) (by simp[FCode.slim])⟩;rintro u B⟨rfl,rfl⟩;exact⟨rfl,rfl⟩|ret=>refine⟨_,_,_,_,l,.of (W.seq (hw.mono ?_)) (by simp[FCode.slim])⟩;rintro u B⟨rfl,rfl⟩;exact⟨rfl,rfl⟩
 |cond x a b=>
  have m:A.holds (evK T x fun v=>(match v with|.bool t=>ifB t (exR A orc fns d a T h n k) (exR A orc fns d b T h n k)|_=>A.bad)):=m;rw[Qbu]at m;split at m;·rename_i t hb;rw[QaL]at m;cases t with|true=>obtain⟨e,T',w,E,l,hw,_⟩:=I N _ _ _ _ _ m;exact⟨e,T',w,E,l,.of (W.cond hb (fun _=>hw) (fun h=>by cases h)) (by simp[FCode.slim])⟩|false=>obtain⟨e,T',w,E,l,hw,_⟩:=I N _ _ _ _ _ m;exact⟨e,T',w,E,l,.of (W.cond hb (fun h=>by cases h) (fun _=>hw)) (by simp[FCode.slim])⟩
  exact absurd m hA.bad|block i b=>obtain⟨e,T',w,E,l,hw,_⟩:=I N _ _ _ _ _ m;cases e with|normal=>refine⟨_,_,_,_,l,.of (W.block (hw.mono ?_)) (by simp[FCode.slim])⟩;rintro u B⟨rfl,rfl⟩;exact⟨rfl,rfl⟩|ret=>refine⟨_,_,_,_,l,.of (W.block (hw.mono ?_)) (by simp[FCode.slim])⟩;rintro u B⟨rfl,rfl⟩;exact⟨rfl,rfl⟩|exit j=>
   simp only[QaL]at l;split at l
   ·rename_i S;have:j=i:=by simpa using S
    refine⟨_,_,_,_,l,.of (W.block (hw.mono ?_)) (by simp[FCode.slim])⟩;simp_all
   rename_i S;have:j≠i:=by simp_all
   refine⟨_,_,_,_,l,.of (W.block (hw.mono ?_)) (by simp[FCode.slim])⟩;simp_all
 |rfunc g ps M R body=>
  have m:A.holds (evK T g fun v=>(match v with|.fn f first cap=>getR h n fun o=>(match o with|none=>putBR A h n (.loop 0 M T ps (.f R) (.f body) .ready) fun h1=>fList (first++[.yld n 0]++cap) fun args=>callR A orc fns (exR A orc fns d) (.c .heap) f args h1 (Nat.succ n) fun _ L z=>getR L n fun o2=>(match o2 with|some (.loop 0 _ _ _ _ _ st)=>putBR A L n (.dead 0) fun F=>(match st with|.ready=>k .normal T F z|.busy=>A.bad|.done .normal=>A.bad|.done e=>k e T F z)|_=>A.bad)|some _=>A.bad)|_=>A.bad)):=m;rw[Qbu]at m;split at m
  ·rename_i f first cap hg;rw[QbU]at m;split at m
   ·rename_i hn;rw[Qb4]at m;split at m
    ·rename_i hl;simp only[Qc3]at m;obtain⟨v,L,z,l,hs,_⟩:=hc _ _ _ _ _ _ m;rw[QbU]at l;split at l
     ·rename_i N2 T2 ps2 as2 body2 st hst;rw[Qb4,if_pos hl]at l;have key:∀(e:SX),leftQ (fun u B=>u=e/\B=⟨T,L.set n (.dead 0)⟩) ⟨T,L.set n (.dead 0)⟩ st->WX P N (FCode.rfunc g ps M R body).slim (fun u B=>u=e/\B=⟨T,L.set n (.dead 0)⟩) ⟨T,h⟩:=by
       intro e hq;refine .of ?_ (by simp[FCode.slim]);show W P N (.rfunc g ps M R.slim body.slim) _ _;by_cases hNM:M=N;·subst hNM;exact W.rfunc (.f R) (.f body) rfl rfl hg hn hl (hs rfl) hst hq
       intro code hok;cases code<;>simp only[okCode,Zat,Zac,beq_iff_eq,Zbh]at hok;omega
      split at l;·exact⟨_,_,_,_,l,key .normal ⟨rfl,rfl⟩⟩
      ·exact absurd l hA.bad
      ·exact absurd l hA.bad
      rename_i e he;refine⟨_,_,_,_,l,key e ⟨?_,rfl,rfl⟩⟩;cases e<;>first|rfl|(exact absurd rfl he)
     exact absurd l hA.bad
    exact absurd m hA.bad
   exact absurd m hA.bad
  exact absurd m hA.bad|mloop pre x it Q ok en U b2 rest body=>
  have m:A.holds (opsR A (callR A orc fns (exR A orc fns d)) pre (n+0) T h (Nat.add n 64) fun T h n=>evK T x fun v=>(match v with|.map mb mg=>getR h mb fun o=>(match o with|some (.map g es)=>ifB (Nat.beq g mg) (getR h n fun o=>(match o with|none=>putBR A h n (.dead 0) fun h=>upR T it (.ptr n 0 0) fun T=>upR T Q .any fun T=>(match es with|[]=>upR T ok (.bool false) fun T=>k .normal T h (Nat.succ n)|[(kk,vv)]=>upR T ok (.bool true) fun T=>upR T en (.tup [kk,vv]) fun T=>opsR A (callR A orc fns (exR A orc fns d)) rest (Nat.succ n+0) T h (Nat.add n 64) fun T h z=>exR A orc fns d body T h z fun e T h z=>(match e with|.normal=>mlEnd A it Q ok n mb mg T h fun T=>k .normal T h z|.exit j=>ifB (Nat.beq j b2) (mlEnd A it Q ok n mb mg T h fun T=>k .normal T h z) (ifB (Nat.beq j U) (k .normal T h z) (k (.exit j) T h z))|.ret=>k .ret T h z)|_=>A.bad)|some _=>A.bad)) A.bad|_=>A.bad)|_=>A.bad)):=m;obtain⟨T1,T0,h1,K,fs1,l,e1,hr1⟩:=Qei hA hc hrn pre 0 T T h (Nat.add n 64) (fun _=>rfl) m;rw[Qbu]at l;have evc:∀y:Opd,ev T0 y=ev T1 y:=fun y=>(Qmw fun i _=>e1 i).symm;split at l
  ·rename_i mb mg hxv;rw[QbU]at l;split at l
   ·rename_i g es hg;rw[QaL]at l;split at l
    ·rename_i hgm;have hgm:g=mg:=by simpa using hgm
     subst hgm;rw[QbU]at l;split at l
     ·rename_i hn;rw[Qb4]at l;split at l
      ·rename_i hl;rw[Qd8,Qd8]at l;have hmb:(h1.set K (.dead 0)).get mb=some (.map g es):=by rw[Zcl _ hl,if_neg (by grind)];exact hg
       have hit:∀j,lk (up T0 it (.ptr K 0 0)) j=lk (up T1 it (.ptr K 0 0)) j:=QcA fun j=>(e1 j).symm;split at l
       ·rw[Qd8]at l;refine⟨_,_,_,_,l,.of (W.Qm7 (W.mloop n fs1 hr1 (by rw[evc,hxv]) hg hn hl (fun q B=>q=[]/\B.h=h1.set K (.dead 0)/\∀j,lk B.T j=lk (up T1 it (.ptr K 0 0)) j) ?_ ?_ ?_ ?_)) (by simp[FCode.slim])⟩;·rintro q B⟨rfl,H,Y⟩;refine⟨by rw[Y,lk_up,if_pos rfl],[],by simp_all,rfl⟩
        ·simp_all
        ·simp_all
        rintro q B⟨rfl,H,Y⟩_;exact⟨rfl,H,.of_eq fun i=>(QcA (QcA Y) i).symm⟩
       ·rename_i kk vv;rw[Qd8,Qd8]at l;obtain⟨T2,T20,L,z,fs2,O,e2,hr2⟩:=Qei hA hc hrn rest 0 _ (up (up (up (up T1 it (.ptr K 0 0)) Q .any) ok (.bool true)) en (.tup [kk,vv])) _ _ (fun _=>rfl) l;obtain⟨e,T3,F,n3,s,hw3,_⟩:=I N _ _ _ _ _ O;have walk:∀(Qb:SX->St->Prop)(BT:Tmps),(∀j,lk BT j=lk (up T1 it (.ptr K 0 0)) j)->Qb e ⟨T3,F⟩->∃bs fs C,RunF P bs 0 (rest.map FOp.o) fs ⟨up (up (up BT Q .any) ok (.bool true)) en (.tup [kk,vv]),h1.set K (.dead 0)⟩ C/\W P N body.slim Qb C:=by
         intro Qb BT hBT hq;obtain⟨D,hD,d1,d2⟩:=hr2.congr (T':=up (up (up BT Q .any) ok (.bool true)) en (.tup [kk,vv])) (QcA (QcA (QcA fun j=>(hBT j).symm)));refine⟨_,fs2,D,hD,W.congr (hw3.mono ?_) ⟨fun j=>?_,fun b=>?_⟩⟩;·simp_all
         ·simp_all
         rw[d1]
        have main:∀(e0:SX)(T4:Tmps)(h4:Heap)(J:List Nat->St->Prop),(∀q B,J q B->q=[0]/\lk B.T it=.ptr K 0 0/\(∃V,B.h.get mb=some (.map g V)/\V.length=1))->ml1 e U b2 (J [0] ⟨T3,F⟩) (fun x=>x=e0/\F=h4/\Sub T4 T3)->(∀q B,J q B->SX.normal=e0/\B.h=h4/\Sub T4 (up (up B.T Q .any) ok (.bool false)))->W P N (FCode.mloop pre x it Q ok en U b2 rest body).slim (fun u B=>u=e0/\B=⟨T4,h4⟩) ⟨T,h⟩:=by
         intro e0 T4 h4 J hJ hround hdone;refine W.Qm7 (W.mloop n fs1 hr1 (by rw[evc,hxv]) hg hn hl (fun q B=>(q=[]/\B.h=h1.set K (.dead 0)/\∀j,lk B.T j=lk (up T1 it (.ptr K 0 0)) j)\/J q B) ?_ ?_ ?_ ?_)
         ·rintro q B(⟨rfl,H,Y⟩|H);·exact⟨by rw[Y,lk_up,if_pos rfl],_,by simp_all,rfl⟩
          grind
         ·simp_all
         ·rintro q B i k' v' V H hni hm' hi;have hi0:i=0:=by grind
          subst hi0;rcases H with⟨rfl,H,Y⟩|H;·rw[H,hmb]at hm';cases hm';simp only[Zbi,Zab,Zal]at hi;obtain⟨rfl,rfl⟩:=hi;rw[H];refine walk _ B.T Y ?_;grind[ml1]
          grind
         rintro q B(⟨rfl,H,Y⟩|H)hall;·simp_all
         grind
        have fin:A.holds (mlEnd A it Q ok K mb g T3 F fun T=>k .normal T F n3)->(∀(J:Prop)(X:SX->Prop),J->ml1 e U b2 J X)->∃e T' w E,A.holds (k e T' w E)/\WX P N (FCode.mloop pre x it Q ok en U b2 rest body).slim (fun u B=>u=e/\B=⟨T',w⟩) ⟨T,h⟩:=by
         intro hend hm;obtain⟨h5,⟨V,h6,h7⟩,h8⟩:=QoJ hA hend;refine⟨_,_,_,_,h8,.of (main .normal _ F (fun q B=>q=[0]/\B=⟨T3,F⟩) ?_ (hm _ _ ⟨rfl,rfl⟩) ?_) (by simp[FCode.slim])⟩;·simp_all
         rintro q B⟨rfl,rfl⟩;exact⟨rfl,rfl,.of_eq fun _=>rfl⟩
        cases e with|normal=>exact fin s (fun J X hJ=>hJ)|ret=>exact⟨_,_,_,_,s,.of (main .ret T3 F (fun _ _=>False) (fun _ _ h=>h.elim) ⟨rfl,rfl,.of_eq fun _=>rfl⟩ (fun _ _ h=>h.elim)) (by simp[FCode.slim])⟩|exit j=>
         simp only[QaL]at s;split at s
         ·rename_i S;have S:j=b2:=by simpa using S
          exact fin s (fun J X hJ=>by show(if j=b2 then J else _);simp_all)
         rename_i S;have S:j≠b2:=by simp_all
         split at s
         ·rename_i G;have G:j=U:=by simpa using G
          exact⟨_,_,_,_,s,.of (main .normal T3 F (fun _ _=>False) (fun _ _ h=>h.elim) (by show(if j=b2 then _ else if j=U then _ else _);rw[if_neg S,if_pos G];exact⟨rfl,rfl,.of_eq fun _=>rfl⟩) (fun _ _ h=>h.elim)) (by simp[FCode.slim])⟩
         rename_i G;have G:j≠U:=by simp_all
         exact⟨_,_,_,_,s,.of (main (.exit j) T3 F (fun _ _=>False) (fun _ _ h=>h.elim) (by show(if j=b2 then _ else if j=U then _ else _);rw[if_neg S,if_neg G];exact⟨rfl,rfl,.of_eq fun _=>rfl⟩) (fun _ _ h=>h.elim)) (by simp[FCode.slim])⟩
       exact absurd l hA.bad
      exact absurd l hA.bad
     exact absurd l hA.bad
    exact absurd l hA.bad
   exact absurd l hA.bad
  exact absurd l hA.bad|loop b=>
  have key:∃e T' w E,A.holds (k e T' w E)/\WL P N b.slim (fun u B=>u=e/\B=⟨T',w⟩) ⟨T,h⟩:=by obtain⟨e,T',w,E,l,hw,_⟩:=I N _ _ _ _ _ m;cases e with|normal=>obtain⟨e2,T2,L,z,O,_,hw2⟩:=I N _ _ _ _ _ l;refine⟨e2,T2,L,z,O,WL.round (hw.mono ?_)⟩;rintro u B⟨rfl,rfl⟩;exact hw2 _ rfl|exit j=>refine⟨_,_,_,_,l,WL.round (hw.mono ?_)⟩;rintro u B⟨rfl,rfl⟩;exact⟨rfl,rfl⟩|ret=>refine⟨_,_,_,_,l,WL.round (hw.mono ?_)⟩;rintro u B⟨rfl,rfl⟩;exact⟨rfl,rfl⟩
  obtain⟨e,T',w,E,l,hw⟩:=key;exact⟨e,T',w,E,l,hw.loop,fun b' e=>by cases e;exact hw⟩
end
inductive FT2 where|z|l(k:Nat)(s:FFn)|n(k:Nat)(a b:FT2)
def FT2.get(t:FT2)(i:Nat):Option FFn:=@FT2.rec (fun _=>Option FFn) none (fun k s=>ifB (Nat.beq i k) (some s) none) (fun k _ _ a b=>ifB (Nat.ble (Nat.succ i) k) a b) t
def FT2.OK(P:Program):FT2->Prop|.z=>True|.l k s=>okFn P k s.slim=true|.n _ a b=>a.OK P/\b.OK P
theorem FT2.ok:∀{t:FT2},t.OK P->∀f sf,t.get f=some sf->okFn P f sf.slim=true
 |.z,_,f,sf,h=>by cases h|.l k s,ho,f,sf,h=>by
  have c:ifB (Nat.beq f k) (some s) none=some sf:=h;rw[QaL]at c;split at c
  ·rename_i e;have e:f=k:=by simpa using e
   have d:s=sf:=by simpa using c
   rw[e,<-d];exact ho
  cases c|.n k a b,ho,f,sf,h=>by
  have h:ifB (Nat.ble (Nat.succ f) k) (a.get f) (b.get f)=some sf:=h;rw[QaL]at h;split at h;·exact FT2.ok ho.1 f sf h
  exact FT2.ok ho.2 f sf h
def noOrc:Orc:=fun _=>none
theorem QdK:OrcOK P noOrc:=fun f a v h=>by cases h
theorem Qb6{t:FT2}(a:t.OK P){orc}(ho:OrcOK P orc){d}(k:AV->Bool)(b:∀u,k u=true->u=v)(c:callR ansB orc t.get (exR ansB orc t.get d) (.c .pure) f args .e 64 (fun u _ _=>k u)=true):PSpec P f args v:=by obtain⟨u,g,i,h1,_,h⟩:=QhX Qpg ho (FT2.ok a) (Qrw Qpg ho (FT2.ok a) d) _ _ _ _ _ _ c;have:=b _ h1;simp_all
end
end Go.AM
namespace Go.AM
variable{P:Program}
end Go.AM
namespace Go.AM
abbrev Za(a:List Nat)(n:Nat):List Nat:=a++List.range n
abbrev Zz(d:Nat)(o:SOp)(a:List Nat):SOper:=⟨some d,o,a,none⟩
abbrev Zm(d x:Nat)(a:List Nat):SOper:=⟨some d,.mov (.t x),a,none⟩
abbrev Zl(d x:Nat)(a:List Nat):SOper:=⟨some d,.load none (.t x),a,none⟩
abbrev Zw(d n x:Nat)(a:List Nat):SOper:=⟨some d,.load (some n) (.t x),a,none⟩
abbrev Zf(d k x:Nat)(a:List Nat):SOper:=⟨some d,.faddr k (.t x),a,none⟩
abbrev Zv(d x:Nat)(a:List Nat):SOper:=⟨some d,.len 1 (.t x),a,none⟩
abbrev Zs(n x y:Nat)(a:List Nat):SOper:=⟨none,.store n (.t x) (.t y),a,none⟩
abbrev Zi(d n x y:Nat)(a:List Nat):SOper:=⟨some d,.iaddr none n (.t x) (.t y),a,none⟩
abbrev Zb(d:Nat)(o:BinOp)(x y:Nat)(a:List Nat):SOper:=⟨some d,.bin o (.t x) (.t y),a,none⟩
end Go.AM
namespace Go.AM.YA
open Go
def bt(d:Nat):Nat:=Nat.shiftLeft 1 d
def mn(a b:Nat):Nat:=Nat.xor a (Nat.land a b)
def msk(l:List Nat):Nat:=l.foldl (fun m d=>Nat.lor m (bt d)) 0
def om{α β:Type}(f:α->Option β):List α->Option (List β)|[]=>some []|x::r=>match f x,om f r with|some y,some a=>some (y::a)|_,_=>none
def omap{α β:Type}(f:α->Option β):Option α->Option (Option β)|none=>some none|some x=>(f x).map some
@[irreducible]def u8(n:Nat):UInt8:=UInt8.ofNat n
theorem u8e(n):u8 n=UInt8.ofNat n:=by unfold u8;rfl
def avV:Nat->Value->Option AV|0,_=>none|n+1,v=>match v with|.bool b=>some (.bool b)|.int k n=>some (.int k n)|.string s=>some (.str (s.data.toList.map fun b=>u8 b.toNat))|.pointer none=>some .nilptr|.slice none 0 0=>some .nilsl|.map none=>some .nilmap|.nilFunc=>some .nilfn|.nilIface=>some .nilif|.agg cs=>(om (avV n) cs.toList).map .agg|.tuple cs=>(om (avV n) cs.toList).map .tup|_=>some .any
def opd:Operand->Option Opd|.tmp t=>some (.t t)|.const v=>(avV 5 v).map .c|.global g=>some (.g g)|.func f=>some (.f f)
def opds(l:Array Operand):Option (List Opd):=om opd l.toList
structure Cf where
 most:CallM:=.heap
 always:List (Nat×CallM):=[]modes:List (Nat×CallM):=[]value:CallM:=.heap
 eqn:Bool:=true
 lends:List Nat:=[]roomy:Bool:=false
section
variable(P:Program)(C:Cf)
def rowN(t:TypeId):Option (Option Nat):=match P.underlying t,P.info? t with|some (.struct _),some i=>some (some i.size)|some (.array _ _),some i=>some (some i.size)|some _,some _=>some none|_,_=>none
def zav(t:TypeId):Option AV:=(zeroOf P t).bind (avV 5)
def flk:Nat->TypeId->Option (List LK)|0,_=>none|d+1,t=>match P.underlying t with|some .bool=>some [.b]|some (.int _)=>some [.i]|some .string=>some [.s]|some (.struct fs)=>(om (fun f=>flk d f.type) fs.toList).map List.flatten|some (.array n e)=>(flk d e).map fun k=>(List.replicate n k).flatten|_=>none
def elemI(t:TypeId):Option (Nat×Nat×AV):=match P.underlying t with
 |some (.slice e)=>match P.info? e,zav P e with|some i,some z=>some (i.size,i.bytes,z)|_,_=>none
 |_=>none
def mapI(t:TypeId):Option (Bool×List LK×AV):=match P.underlying t with
 |some (.map a b)=>match flk P 9 a,zav P b with|some ks,some z=>some (rowB P a,ks,z)|_,_=>none
 |_=>none
def size(t:TypeId):Option Nat:=(P.info? t).map (·.size)
def eqo(t:TypeId)(neg:Bool)(x y:Operand)(a b:Opd):Option SOp:=let nl:=some (SOp.eq (.nil (kindT P t)) neg a b)
 match P.underlying t with
 |some (.int _)|some .string=>some (.bin (cond neg .neq .eql) a b)|some .bool=>some (.eq (.flat false [.b]) neg a b)|some (.struct _)|some (.array _ _)=>(flk P 9 t).map fun k=>.eq (.flat true k) neg a b|some (.slice _)=>match C.eqn,y with|true,.const _=>some (.eqn neg a)|_,_=>nl
 |some (.pointer _)=>match x,y with|.const _,_=>nl|_,.const _=>nl|_,_=>some (.eqp neg a b)
 |_=>nl
def bld(t:TypeId):Bool:=match P.underlying t with
 |some (.struct fs)=>match fs.toList with
  |[f,_]=>match P.underlying f.type with|some (.pointer u)=>u==t|_=>false
  |_=>false
 |_=>false
def ext(f:Operand):Option (Nat×Nat):=match f with
 |.func g=>(P.funcs[g]?).bind fun fn=>match fn.body with|none=>cond (fn.name== "math/bits.Add64") (some (0,g)) (cond (fn.name== "math/bits.Sub64") (some (1,g)) (cond (fn.name== "internal/abi.NoEscape") (some (2,g)) none))|_=>none
 |_=>none
def call(B:Bool)(c:Call):Option SOp:=match opds c.args with|none=>none|some b=>match c.callee,b,c.argTypes.toList with
 |.value f,_,_=>match ext P f with|some (k,g)=>some (.ext k g b)|none=>(opd f).map fun x=>.call .heap x b
 |.builtin .len,[y],[t]=>match P.underlying t with|some .string=>some (.len 0 y)|some (.slice _)=>some (.len 1 y)|some (.map _ _)=>some (.len 2 y)|_=>none
 |.builtin .append,[x,y],[t,d]=>match elemI P t,P.underlying d with
  |some (sz,a,z),some (.int _)=>some (.appendZ .dyn sz a z.cells x y)|some (sz,a,_),_=>match B,P.underlying t with|true,some (.slice e)=>some (.appendT e .dyn sz a x y)|_,_=>some (.append .dyn sz a x y)
  |_,_=>none
 |.builtin .copy,[x,y],t::_=>(elemI P t).map fun q=>.copy q.1 x y|.builtin .cap,[y],_=>some (.cap y)|.builtin .clear,[x],[t]=>(elemI P t).map fun(sz,a,z)=>.clear sz a z.cells x|.builtin .unsafeSliceData,[y],_=>some (.usd y)|.builtin .unsafeString,[x,n],[t,_]=>match P.underlying t with|some (.pointer e)=>some (.ustr e x n)|_=>none
 |.builtin .max,_,_=>some (.maxmin false b)|.builtin .min,_,_=>some (.maxmin true b)|_,_,_=>none
def rows(l:List (Nat×Operand))(f:Nat->Option (Nat×Nat)):Option (List (Nat×Nat×Opd)):=om (fun(i,x)=>match f i,opd x with|some (o,s),some y=>some (o,s,y)|_,_=>none) l
def op(B:Bool)(o:Op):Option SOp:=match o with
 |.move x|.assign x=>(opd x).map .mov|.pick c a b=>match opd c,opd a,opd b with|some c,some a,some b=>some (.pick c a b)|_,_,_=>none
 |.alloc t=>(zav P t).map fun z=>cond (bld P t) (.allocT t .dyn z) (.alloc .dyn z)|.box _ x=>(opd x).map (.box .dyn)|.build t parts=>match(zeroOf P t).bind (fun z=>om (avV 5) z.cells.toList),rows parts.toList (placeOf P t)with|some z,some p=>some (.build z p)|_,_=>none
 |.buildSlice t n parts=>match P.underlying t with
  |some (.slice e)=>(P.info? e).bind fun i=>i.zero.bind fun z=>match om (avV 5) z.cells.toList,rows parts.toList (fun k=>some (Nat.mul k i.size,i.size))with|some q,some p=>some (.bslice false .dyn i.size n (List.replicate n q).flatten p)|_,_=>none
  |_=>none
 |.load t x=>match rowN P t,opd x with|some n,some x=>some (.load n x)|_,_=>none
 |.store t x v=>match size P t,opd x,opd v with|some n,some x,some v=>some (.store n x v)|_,_,_=>none
 |.nilCheck x=>(opd x).map .nilchk|.binOp b t x y _=>match opd x,opd y with
  |some a,some c=>match b with|.eql=>eqo P C t false x y a c|.neq=>eqo P C t true x y a c|_=>some (.bin b a c)
  |_,_=>none
 |.unOp b _ x=>(opd x).map (.un b)|.convert s d x=>(opd x).bind fun x=>match P.underlying s,P.underlying d with
  |some (.int _),some (.int k)=>some (.conv k x)|some .string,some .string=>some (.convS x)|some (.int _),some .string=>some (.convS x)|some (.slice e),some .string=>match P.underlying e with|some (.int .u8)=>some (.convB x)|_=>none
  |some (.pointer t),some .unsafePointer=>(size P t).map fun n=>.convP t n x|some .unsafePointer,some (.pointer t)=>(size P t).map fun n=>.convP t n x|_,_=>none
 |.makeFunc (.func f) a b=>match opds a,opds b with|some a,some b=>some (.mkfn f a b)|_,_=>none
 |.makeMap _ none=>some (.mkmap .dyn)|.makeSlice t l c=>match elemI P t,opd l,opd c with|some (sz,g,z),some l,some c=>some (.mkslice .dyn sz g z.cells l c)|_,_,_=>none
 |.slice t x l h m=>match opd x,omap opd l,omap opd h,omap opd m,P.underlying t with
  |some x,some l,some h,some m,some (.slice e)=>(size P e).map fun n=>match C.roomy,h,m with|true,some _,none=>.sliceK n x l h|_,_,_=>.slice (some n) x l h m
  |some x,some l,some h,some m,some .string=>some (.slice none x l h m)|_,_,_,_,_=>none
 |.fieldAddr s x f=>match P.underlying s,opd x with|some (.struct fs),some x=>(fs[f]?).map fun d=>.faddr d.offset x|_,_=>none
 |.field s x f=>match P.underlying s,opd x with|some (.struct fs),some x=>(fs[f]?).bind fun d=>(rowN P d.type).map fun r=>.field r d.offset x|_,_=>none
 |.indexAddr t x i=>match P.underlying t,opd x,opd i with|some (.array n e),some x,some i=>(size P e).map fun s=>.iaddr (some n) s x i|some (.slice e),some x,some i=>(size P e).map fun s=>.iaddr none s x i|_,_,_=>none
 |.index t x i=>match P.underlying t,opd x,opd i with
  |some (.array n e),some x,some i=>match rowN P e,size P e with|some r,some s=>some (.index (some (n,s,r.isSome)) x i)|_,_=>none
  |some .string,some x,some i=>some (.index none x i)|_,_,_=>none
 |.lookup t x i ok=>match mapI P t,opd x,opd i with|some (r,ks,z),some x,some i=>some (.lookup r ks z ok x i)|_,_,_=>none
 |.mapUpdate t m k v|.insert t m k v=>match mapI P t,opd m,opd k,opd v with|some (r,ks,_),some m,some k,some v=>some (.mupd r ks m k v)|_,_,_,_=>none
 |.mapEntry t m k=>match mapI P t,opd m,opd k with|some (r,ks,z),some m,some k=>some (.ment r ks z m k)|_,_,_=>none
 |.entryStore _ m s v=>match opd m,opd s,opd v with|some m,some s,some v=>some (.estore m s v)|_,_,_=>none
 |.extract x i=>(opd x).map (.extract i)|.call c=>call P B c|_=>none
def oper(B:Bool)(ops:Array Oper)(o:Oper):SOper:=⟨o.dst,(op P C B o.op).getD .bad,(o.after.toList.filter fun e=>Region.binds .any e).map (·.on),match o.guard with|none=>none|some (j,w)=>((ops[j]?).bind (·.dst)).map fun s=>(s,w)⟩
def modeA(o:SOper):SOper:=match o with|⟨d,.call _ (.f g) b,a,u⟩=>⟨d,.call ((C.always.lookup g).getD C.most) (.f g) b,a,u⟩|⟨d,.call _ x b,a,u⟩=>⟨d,.call C.value x b,a,u⟩|_=>o
def modeB(o:SOper):SOper:=match o with|⟨d,.call _ (.f g) b,a,u⟩=>⟨d,.call (match(C.always.lookup g).getD C.most with|.heap=>(C.modes.lookup g).getD .heap|m=>m) (.f g) b,a,u⟩|_=>o
def unfree(s:List SOper):List (Nat×Nat):=let m:=masksFrom [] s
 (List.range s.length).flatMap fun j=>(List.range j).filterMap fun k=>cond ((m.getD j 0).testBit k||pairOK s [] k j) none (some (k,j))
def lent(s:List SOper)(a:List (Nat×Nat)):List (Nat×Nat):=(List.range s.length).filterMap fun k=>match(s[k]?).map SOper.op with|some (.call .heap (.f g) _)=>cond (C.lends.contains g&&a.any (fun p=>p.1==k||p.2==k)) (some (k,999999)) none|_=>none
def ops1(B:Bool)(ops:Array Oper):List SOper:=ops.toList.map fun o=>modeA C (oper P C B ops o)
def reg(B:Bool)(ops:Array Oper)(draw:Bool):SCode:=let s:=ops1 P C B ops
 match draw with|false=>.region s [] []|true=>match unfree s with|[]=>.region s [] []|_=>let s:=s.map (modeB C);let a:=unfree s;.region s (a++lent C s a) []
def mlH(B:Bool)(p:MLParts):Option (List SOper×Opd×Nat×Nat×Nat×Nat×List SOper):=match p.ops6.toList.getLast?,p.ops7.toList,p.ops8.toList with|some ⟨some it,.range _ y,_,_,_,_⟩,[⟨some b,.next _ false,_,_,_,_⟩,⟨some ok,_,_,_,_,_⟩],⟨some a,.entry _,_,_,_,_⟩::r=>(opd y).map fun x=>(p.ops6.toList.dropLast.map (oper P C B p.ops6),x,it,b,ok,a,r.map (oper P C B p.ops8))|_,_,_=>none
def code(rg:Array Oper->Bool->SCode)(B:Bool)(N:Nat):Nat->Code->SCode|0,_=>.bad|n+1,c=>match mlParts c with
 |some p=>match mlH P C B p with|some (pre,x,it,d,ok,f,rest)=>.mloop pre x it d ok f p.b p.b3 rest (code rg B N n p.body)|none=>.bad
 |none=>match c with
  |.skip=>.skip|.region _ ops draw=>rg ops draw|.seq a b=>.seq (code rg B N n a) (code rg B N n b)|.cond c a b=>match opd c with|some x=>.cond x (code rg B N n a) (code rg B N n b)|none=>.bad
  |.block i b=>.block i (code rg B N n b)|.loop b=>.loop (code rg B N n b)|.exit i=>.exit i|.ret=>.ret|.rangeFunc g h a b=>match opd g with|some x=>.rfunc x h.toList N (code rg B N n a) (code rg B N n b)|none=>.bad
  |_=>.bad
end
def it:Nat->(Nat->Nat)->Nat->Nat|0,_,l=>l|n+1,F,l=>match Nat.beq (mn (F l) l) 0 with|true=>l|false=>it n F (Nat.lor l (F l))
def back:List SOper->Nat->Nat|[],l=>l|o::r,l=>Nat.lor (match o.dst,o.guard with|some d,none=>mn (back r l) (bt d)|_,_=>back r l) (msk o.reads)
def exs(ex:List (Nat×Nat)):Nat:=ex.foldl (fun m p=>Nat.lor m p.2) 0
def live(ret:Nat):SCode->List (Nat×Nat)->Nat->Nat|.skip,_,out=>out|.region ops _ _,_,out=>back ops out|.seq a b,ex,out=>live ret a ex (live ret b ex out)|.cond x a b,ex,out=>Nat.lor (Nat.lor (msk x.slots) (live ret a ex out)) (live ret b ex out)|.block i b,ex,out=>live ret b ((i,out)::ex) out|.loop b,ex,_=>it 50 (live ret b ex) 0|.mloop pre x i c ok f d b2 rest body,ex,out=>back pre (Nat.lor (mn (it 50 (fun l=>Nat.lor (Nat.lor out (bt i)) (mn (back rest (live ret body ((d,out)::(b2,l)::ex) l)) (msk [f,ok,c]))) (bt i)) (bt i)) (msk x.slots))|.exit i,ex,_=>(ex.lookup i).getD 0|.ret,_,_=>ret|.rfunc g h _ a b,ex,out=>Nat.lor (Nat.lor (Nat.lor (msk g.slots) out) (mn (live ret a ex (live ret b ex 0)) (msk h))) (Nat.lor ret (exs ex))|.bad,_,_=>0
def dsts(ops:List SOper):Nat:=msk (ops.filterMap (·.dst))
def mark:List SOper->Nat->List FOp|[],_=>[]|s::r,p=>match s.dst with|some d=>⟨!p.testBit d,s⟩::mark r (Nat.lor p (bt d))|none=>⟨false,s⟩::mark r p
def ann(ret:Nat):SCode->List (Nat×Nat)->Nat->Nat->FCode×Nat
 |.region ops d _,_,out,p=>let all:=Nat.lor p (dsts ops)
  (.region (mark ops p) d (mn all out),Nat.land all out)|.seq a b,ex,out,p=>let x:=ann ret a ex (live ret b ex out) p
  let y:=ann ret b ex out x.2
  (.seq x.1 y.1,y.2)|.cond c a b,ex,out,p=>let x:=ann ret a ex out p
  let y:=ann ret b ex out p
  (.cond c x.1 y.1,Nat.lor x.2 y.2)|.block i b,ex,out,p=>let x:=ann ret b ((i,out)::ex) out p
  (.block i x.1,Nat.lor x.2 (Nat.land p out))|.loop b,ex,out,p=>let l:=live ret (.loop b) ex out
  (.loop (ann ret b ex l (Nat.lor p l)).1,Nat.lor p l)|.mloop pre x i k ok m f b2 rest body,ex,out,p=>let h:=it 50 (fun l=>Nat.lor (Nat.lor out (bt i)) (mn (back rest (live ret body ((f,out)::(b2,l)::ex) l)) (msk [m,ok,k]))) (bt i)
  let o:=Nat.lor p (dsts pre)
  let q:=Nat.lor o (msk [i,k,ok,m])
  let n:=Nat.lor q (dsts rest)
  let z:=ann ret body ((f,out)::(b2,h)::ex) h (Nat.lor n h)
  (.mloop (mark pre p) x i k ok m f b2 (mark rest q) z.1,Nat.lor n z.2)|.rfunc g d N a b,ex,out,p=>let x:=ann ret a ex (live ret b ex 0) (Nat.lor p (msk d))
  (.rfunc g d N x.1 (ann ret b ex 0 x.2).1,p)|.skip,_,_,p=>(.skip,p)|.exit i,_,_,p=>(.exit i,p)|.ret,_,_,p=>(.ret,p)|.bad,_,_,p=>(.bad,p)
def dd(C:Cf)(q:List (Nat×List (Nat×Nat))):SCode->List (List Nat)->SCode×List (List Nat)
 |.region ops _ _,d::r=>match q.lookup r.length with|some f=>(.region (ops.map (modeB C)) f d,r)|none=>(.region ops [] d,r)
 |.seq a b,l=>let x:=dd C q a l;let y:=dd C q b x.2;(.seq x.1 y.1,y.2)|.cond c a b,l=>let x:=dd C q a l;let y:=dd C q b x.2;(.cond c x.1 y.1,y.2)|.block i b,l=>let x:=dd C q b l;(.block i x.1,x.2)|.loop b,l=>let x:=dd C q b l;(.loop x.1,x.2)|.mloop pre x i h ok k m b2 rest b,l=>let z:=dd C q b l;(.mloop pre x i h ok k m b2 rest z.1,z.2)|.rfunc g f n a b,l=>let x:=dd C q a l;let y:=dd C q b x.2;(.rfunc g f n x.1 y.1,y.2)|c,l=>(c,l)
def resS(P:Program):ResultVar->SRes|.tmp t=>.tmp t|.cell a t=>.cell a ((rowN P t).getD none)
def SRes.slot:SRes->Nat|.tmp t=>t|.cell a _=>a
def ffn(P:Program)(C:Cf)(f:Nat):FFn:=match P.funcs[f]? with
 |some fn=>match fn.body with|some c=>let C:Cf:={C with roomy:= "slices.Delete[".isPrefixOf fn.name}
  let res:=fn.results.toList.map (resS P)
  let m:=msk (res.map SRes.slot)
  ⟨fn.ntmps,res,(ann m (let B:= "(*strings.Builder)".isPrefixOf fn.name;code P C (reg P C B) B fn.ntmps 1000 c) [] m (msk (List.range (fn.params.size+fn.nfree)))).1⟩|none=>⟨0,[],.bad⟩
 |none=>⟨0,[],.bad⟩
def sfn(P:Program)(C:Cf)(f:Nat)(l:List (List Nat))(q:List (Nat×List (Nat×Nat))):SFn:=match P.funcs[f]? with
 |some fn=>match fn.body with|some c=>⟨fn.ntmps,fn.results.toList.map (resS P),(dd C q (code P C (fun ops _=>.region (ops1 P C false ops) [] []) false fn.ntmps 1000 c) l).1⟩|none=>⟨0,[],.bad⟩
 |none=>⟨0,[],.bad⟩
theorem rr{a b:SFn}(h:a=b:=by conv=>lhs;reduce;simp only[Int.reduceOfNat,Int.reduceNegSucc,Go.AM.YA.u8e,UInt8.reduceOfNat]):a=b:=h
def Yt(P:Program)(C:Cf)(f:Nat)(l:List (List Nat))(q:List (Nat×List (Nat×Nat)):=[]):=∀s:SFn,sfn P C f l q=s->SFn
def tre(P:Program)(C:Cf):Nat->List Nat->FT2|0,_=>.z|k+1,l=>match l with|[]=>.z|[f]=>.l f (ffn P C f)|_=>let h:=l.length/2;.n (l.getD h 0) (tre P C k (l.take h)) (tre P C k (l.drop h))
def allOK(P:Program)(C:Cf):List Nat->Bool|[]=>true|f::r=>okFn P f (ffn P C f).slim&&allOK P C r
theorem QfR{P}{C}:∀{l:List Nat},allOK P C l=true->∀f∈l,okFn P f (ffn P C f).slim=true
 |[],_,_,h=>by cases h|g::r,h,f,hf=>by
  simp only[allOK,Zac]at h;rcases Zav.1 hf with rfl|hf;·exact h.1
  exact QfR h.2 f hf
theorem QgH{P}{C}:∀(k:Nat)(l:List Nat),(∀f∈l,okFn P f (ffn P C f).slim=true)->(tre P C k l).OK P|0,_,_=>trivial|k+1,[],_=>trivial|k+1,[f],h=>h f (by simp)|k+1,f::g::r,h=>⟨QgH k _ fun x a=>h x (ZaX a),QgH k _ fun x a=>h x (List.mem_of_mem_drop a)⟩
end Go.AM.YA
