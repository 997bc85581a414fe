/- A part of the proof of GuardsOfCardSaid: lemmas on the way (AmJ, AmK). Conditions: none of ours. -/
import Derived.Orders
import Derived.Test.YtikknocmfjfohaaGreatDoorAmO5
theorem Go.AM.bLctL{p:Prop}(h:p:=by
 rename_i s z;cases s<;>try(cases hc;done)
 refine key _ rfl fun v h1 hm=>?_;unfold aBox at hm⊢;split at hm;·simp_all[Qfe]
 grind[HM.run]):p:=h
theorem Go.AM.b1WW0{p:Prop}(h:p:=by
 simp only at f;show(if k=j then Q' .normal g l else Q' (.exit k) g l);split;·rename_i e;rw[if_pos e]at f;exact n .normal B m g l f S' E'
 rename_i e;rw[if_neg e]at f;exact n (.exit k) B m g l f S' E'):p:=h
set_option linter.unusedSectionVars false
set_option maxHeartbeats 32000000
set_option maxRecDepth 100000
set_option linter.unusedVariables false
set_option linter.unusedSimpArgs false
namespace Go.AM
variable{P:Program}
variable{v:AV}{K:Act->World->Prop}{listed:Array Bool}{ops:Array Oper}{a d m:Array Value}{c c0:Ctx (okc P)}{Q:Exit->Act->World->Prop}{h h1:Heap}{args xs:List AV}{B:List Nat}{sops:List SOper}{N b f g i n:Nat}{fpf:Nat->FP}{F0:Nat->Prop}{o:Oper}{s:SOper}{A C:St}{T:Tmps}{cv:Value}{w w' w0:World}
mutual theorem VRel.noRef{ok:Okc}{c c':Ctx ok}{w:World}(hF:∀k,c.F k->c'.F k):∀(x:AV)(v:Value),noRef x=true->VRel c w x v->VRel c' w x v
 |.any,_,_,_=>by simp[VRel]|.bool b,_,_,h=>by simpa[VRel]using h|.int k n,_,_,h=>by simpa[VRel]using h|.str s,_,_,h=>by simpa[VRel]using h|.agg cs,v,hn,h=>by simp only[VRel]at h⊢;simp only[AM.noRef]at hn;obtain⟨vs,rfl,h⟩:=h;exact⟨vs,rfl,VRels.noRef hF cs _ hn h⟩|.tup cs,v,hn,h=>by simp only[VRel]at h⊢;simp only[AM.noRef]at hn;obtain⟨vs,rfl,h⟩:=h;exact⟨vs,rfl,VRels.noRef hF cs _ hn h⟩|.nilptr,_,_,h=>by simpa[VRel]using h|.ptr b g off,v,hn,h=>by simp[AM.noRef]at hn|.fptr cs,v,hn,h=>by simp only[VRel]at h⊢;simp only[AM.noRef]at hn;obtain⟨cb,off,C,e,fr,h1,h2,h3,h4⟩:=h;exact⟨cb,off,C,e,fr,h1,hF _ h2,h3,VPre.noRef hF cs _ hn h4⟩|.nilsl,_,_,h=>by simpa[VRel]using h|.sl b g off len sz,v,hn,h=>by simp[AM.noRef]at hn|.fsl cs len sz,v,hn,h=>by
  simp only[VRel]at h⊢;simp only[AM.noRef]at hn;rcases h with h|⟨cb,off,cap,C,e,fr,h1,h2,h3,h4,h5,h6⟩;·exact .inl h
  ·exact .inr ⟨cb,off,cap,C,e,fr,h1,h2,h3,hF _ h4,h5,VPre.noRef hF cs _ hn h6⟩|.esl,_,_,h=>by simpa[VRel]using h|.nsl,_,_,h=>by simpa[VRel]using h|.nilmap,_,_,h=>by simpa[VRel]using h|.map b g,v,hn,h=>by simp[AM.noRef]at hn|.fmap ks vs,v,hn,h=>by simp only[VRel]at h⊢;simp only[AM.noRef,Zab]at hn;obtain⟨mb,es,clock,h1,h2,h3,h4,h5,h6,h7⟩:=h;exact⟨mb,es,clock,h1,hF _ h2,h3,h4,h5,VRels.noRef hF ks _ hn.1 h6,VRels.noRef hF vs _ hn.2 h7⟩|.nilfn,_,_,h=>by simpa[VRel]using h|.fn f x y,v,hn,h=>by simp only[VRel]at h⊢;simp only[AM.noRef,Zab]at hn;obtain⟨x',y',h1,h2,h3⟩:=h;exact⟨x',y',h1,VRels.noRef hF x _ hn.1 h2,VRels.noRef hF y _ hn.2 h3⟩|.nilif,_,_,h=>by simpa[VRel]using h|.yld b g,v,hn,h=>by simp[AM.noRef,AM.flatV]at hn|.typed _ _ _,v,hn,h=>by simp[AM.noRef,AM.flatV]at hn|.ifc t x,v,hn,h=>by simp only[VRel]at h⊢;simp only[AM.noRef]at hn;obtain⟨x',h1,h2⟩:=h;exact⟨x',h1,VRel.noRef hF x _ hn h2⟩theorem VRels.noRef{ok:Okc}{c c':Ctx ok}{w:World}(hF:∀k,c.F k->c'.F k):∀(x:List AV)(v:List Value),noRefs x=true->VRels c w x v->VRels c' w x v|[],_,_,h=>by simpa[VRels]using h|x::xs,v,hn,h=>by simp only[VRels]at h⊢;simp only[AM.noRefs,Zab]at hn;obtain⟨u,us,h1,h2,h3⟩:=h;exact⟨u,us,h1,VRel.noRef hF x _ hn.1 h2,VRels.noRef hF xs _ hn.2 h3⟩theorem VPre.noRef{ok:Okc}{c c':Ctx ok}{w:World}(hF:∀k,c.F k->c'.F k):∀(x:List AV)(v:List Value),noRefs x=true->VPre c w x v->VPre c' w x v|[],_,_,_=>by simp[VPre]|x::xs,v,hn,h=>by simp only[VPre]at h⊢;simp only[AM.noRefs,Zab]at hn;obtain⟨u,us,h1,h2,h3⟩:=h;exact⟨u,us,h1,VRel.noRef hF x _ hn.1 h2,VPre.noRef hF xs _ hn.2 h3⟩end
mutual theorem VRel.flat{ok:Okc}{c c':Ctx ok}{w w':World}:∀(x:AV)(v:Value),flatV x=true->VRel c w x v->VRel c' w' x v|.any,_,_,_=>by simp[VRel]|.bool b,_,_,h=>by simpa[VRel]using h|.int k n,_,_,h=>by simpa[VRel]using h|.str s,_,_,h=>by simpa[VRel]using h|.agg cs,v,hn,h=>by simp only[VRel]at h⊢;simp only[flatV]at hn;obtain⟨vs,rfl,h⟩:=h;exact⟨vs,rfl,VRels.flat cs _ hn h⟩|.tup cs,v,hn,h=>by simp only[VRel]at h⊢;simp only[flatV]at hn;obtain⟨vs,rfl,h⟩:=h;exact⟨vs,rfl,VRels.flat cs _ hn h⟩|.nilptr,_,_,h=>by simpa[VRel]using h|.ptr b g off,v,hn,h=>by simp[flatV]at hn|.fptr cs,v,hn,h=>by simp[flatV]at hn|.nilsl,_,_,h=>by simpa[VRel]using h|.sl b g off len sz,v,hn,h=>by simp[flatV]at hn|.fsl cs len sz,v,hn,h=>by simp[flatV]at hn|.esl,_,_,h=>by simpa[VRel]using h|.nsl,_,_,h=>by simpa[VRel]using h|.nilmap,_,_,h=>by simpa[VRel]using h|.map b g,v,hn,h=>by simp[flatV]at hn|.fmap ks vs,v,hn,h=>by simp[flatV]at hn|.nilfn,_,_,h=>by simpa[VRel]using h|.fn f x y,v,hn,h=>by simp only[VRel]at h⊢;simp only[flatV,Zab]at hn;obtain⟨x',y',h1,h2,h3⟩:=h;exact⟨x',y',h1,VRels.flat x _ hn.1 h2,VRels.flat y _ hn.2 h3⟩|.nilif,_,_,h=>by simpa[VRel]using h|.yld b g,v,hn,h=>by simp[AM.noRef,AM.flatV]at hn|.typed _ _ _,v,hn,h=>by simp[AM.noRef,AM.flatV]at hn|.ifc t x,v,hn,h=>by simp only[VRel]at h⊢;simp only[flatV]at hn;obtain⟨x',h1,h2⟩:=h;exact⟨x',h1,VRel.flat x _ hn h2⟩theorem VRels.flat{ok:Okc}{c c':Ctx ok}{w w':World}:∀(x:List AV)(v:List Value),flatVs x=true->VRels c w x v->VRels c' w' x v|[],_,_,h=>by simpa[VRels]using h|x::xs,v,hn,h=>by simp only[VRels]at h⊢;simp only[flatVs,Zab]at hn;obtain⟨u,us,h1,h2,h3⟩:=h;exact⟨u,us,h1,VRel.flat x _ hn.1 h2,VRels.flat xs _ hn.2 h3⟩end
def only{ok}(F:Nat->Prop)(n:Nat:=0):Ctx ok:={ρ:=fun _ _=>none,F:=F,O:=fun _=>False,base:=n}
theorem HRel.only{ok}{F:Nat->Prop}{n}{w:World}(d:∀k,F k->k<w.heap.size):HRel (only (ok:=ok) F n) .e w:=⟨fun _ _ _=>rfl,fun b x a=>by simp[Tr.get]at a,fun b x a=>by simp[Tr.get]at a,fun b g m f i base c l=>by obtain⟨x,a,_⟩:=l;simp[Tr.get]at a,fun _ _ h=>h,d,fun _ h=>h.elim⟩
theorem PSpec.pure(S:PSpec P f args v)(H:HRel c h w)(q:VRels c w args a.toList):Callable P f/\Calls P f a w (Rets P c w h v):=by
 obtain⟨p,m,r,hc,n⟩:=S;refine⟨hc,(n (only c.F) w a (HRel.only H.inF) (VRels.noRef (c:=c) (c':=only c.F) (fun _ h=>h) _ _ p q)).mono ?_⟩;rintro e i⟨o,d,rfl,E,H',V⟩;have b:∀k,k<w.heap.size->i.heap[k]?=w.heap[k]?:=fun k b=>E.keep k b (fun h=>h);obtain⟨E1,H1⟩:=H.grow E.os E.tape E.output E.size b;have g:∀k,d.F k->¬c.O k/\k<i.heap.size:=by
  intro k b;refine⟨fun l=>?_,H'.inF k b⟩;rcases E.frzNew k b with h|h|h;·exact H.disj k h l
  ·exact h
  have:=H.inO k l;omega
 refine⟨o,{c with F:=d.F},rfl,?_,H1.frozen d.F (fun k b=>E.frz k b) g,VRel.noRef (c:=d) (c':={c with F:=d.F}) (fun _ h=>h) _ _ m V⟩;refine⟨E1.os,E1.tape,E1.output,E1.size,E1.shape,E1.keep,E1.rho,fun k b=>E.frz k b,fun k b=>?_,E1.own,rfl⟩;rcases E.frzNew k b with h|h|h;·exact .inl h
 ·exact h.elim
 omega
theorem PSpec.borrow(S:PSpec P f args v)(m:flatV v=true)(H:HRel c h w)(g:VRels (lent c) w args a.toList):Callable P f/\Calls P f a w (Rets P c w h v):=by obtain⟨d,q,r,hc,n⟩:=S;have l:∀k,(c.F k\/c.O k)->k<w.heap.size:=fun k b=>b.elim (H.inF k) (H.inO k);refine⟨hc,(n (only fun k=>c.F k\/c.O k) w a (HRel.only l) (VRels.noRef (c:=lent c) (c':=only fun k=>c.F k\/c.O k) (fun _ h=>h) _ _ d g)).mono ?_⟩;rintro e i⟨o,p,rfl,E,H',V⟩;have b:∀k,k<w.heap.size->i.heap[k]?=w.heap[k]?:=fun k b=>E.keep k b (fun h=>h);obtain⟨E1,H1⟩:=H.grow E.os E.tape E.output E.size b;exact⟨o,c,rfl,E1,H1,VRel.flat _ _ m V⟩
theorem HSpec.heap{h'}(S:HSpec P f args h v h')(H:HRel c h w)(b:VRels c w args a.toList):Callable P f/\Calls P f a w (Rets P c w h' v):=⟨S.1,S.2 c w a H b⟩
theorem VPre.flat{ok}{c c':Ctx ok}:∀{xs:List AV}{vs:List Value},flatVs xs=true->VPre c w xs vs->VPre c' w' xs vs|[],_,_,_=>by simp[VPre]|x::xs,vs,hf,b=>by simp only[flatVs,Zab]at hf;simp only[VPre]at b⊢;obtain⟨v,a,rfl,d,f⟩:=b;exact⟨v,a,rfl,VRel.flat _ _ hf.1 d,VPre.flat hf.2 f⟩
theorem Qkm{ok}{c c1:Ctx ok}(h1:c1.ρ b g=c.ρ b g)(h2:∀k,c.F k->c1.F k):∀{args:List AV}{vs:List Value},own1 b g args=true->VRels c w args vs->VRels c1 w args vs
 |[],vs,_,hv=>by grind[VRels]|x::xs,vs,ho,hv=>by
  simp only[VRels]at hv⊢;obtain⟨v,vs',rfl,h3,h4⟩:=hv;have rest:own1 b g xs=true/\VRel c1 w x v:=by
   cases x<;>simp only[own1,Zab,beq_iff_eq]at ho<;>first|exact⟨ho.2,VRel.noRef h2 _ _ ho.1 h3⟩|skip
   obtain⟨⟨rfl,rfl⟩,ho⟩:=ho;simp_all[VRel]
  exact⟨v,vs',rfl,rest.2,Qkm h1 h2 rest.1 h4⟩
theorem GSpec.give(S:GSpec P f args b g xs v)(H:HRel c h w)(J:h.get b=some (.cells g xs))(X:VRels c w args d.toList):Callable P f/\Calls P f d w (Rets P c w (h.set b (.dead g)) v):=by
 obtain⟨hc,ho,hv,hx,t,hs⟩:=S;have A:∀{y:Blk}k,(one b y).get k=if k=b then some y else none:=fun{y}k=>QtA t k;have n:Live h b g:=⟨_,J,rfl,fun _=>by simp⟩;let z:Ctx (okc P):={ρ:=fun k y=>if k=b then c.ρ k y else none,F:=c.F,O:=fun k=>∃base,c.ρ b g=some (.loc k base),base:=c.base};have p:∀y,z.ρ b y=c.ρ b y:=fun y=>if_pos rfl;have q:∀k,z.O k->c.O k:=fun k⟨base,a⟩=>H.owned n a;have H1:HRel z (one b (.cells g xs)) w:=by
  refine⟨fun k a y=>?_,fun k x a y r=>?_,fun k x a=>?_,fun k y Q R o base i T N _ _=>?_,fun k F m=>H.disj k F (q k m),H.inF,fun k m=>H.inO k (q k m)⟩;·grind
  ·rw[A]at a;split at a;·rename_i e;subst e;cases a;rw[p];exact H.later k _ J y r
   cases a
  ·rw[A]at a;split at a
   ·rename_i e;subst e;cases a;rcases H.blk k _ J with⟨h1,O⟩|⟨o,base,C,e,fr,h1,O,h3,h4,Z,h6⟩;·exact .inl ⟨(p _).trans h1,O⟩
    exact .inr ⟨o,base,C,e,fr,(p _).trans h1,⟨base,h1⟩,h3,h4,Z,VPre.flat hx h6⟩
   cases a
  grind
 refine⟨hc,(hs z w d H1 (Qkm (p g) (fun _ h=>h) ho X)).mono ?_⟩;rintro e U⟨cv,u,rfl,E,L,V⟩;have s:∀k,u.F k\/u.O k->c.F k\/z.O k\/w.heap.size<=k:=fun k a=>a.elim (E.frzNew k) fun h=>.inr (E.own k h);let K:Ctx (okc P):={ρ:=c.ρ,F:=fun k=>u.F k\/u.O k,O:=fun k=>c.O k/\¬(u.F k\/u.O k),base:=c.base};have E2:Evo c w K U:=⟨E.os,E.tape,E.output,E.size,E.shape,fun k a m=>E.keep k a fun h=>m (q k h),fun _ _ _ h=>h,fun k a=>.inl (E.frz k a),fun k a=>(s k a).elim .inl fun h=>h.elim (fun h=>.inr (.inl (q k h))) fun h=>.inr (.inr h),fun k a=>.inl a.1,rfl⟩;refine⟨cv,K,rfl,E2,?_,VRel.noRef (c:=lent u) (c':=K) (fun _ h=>h) _ _ hv V⟩;have l:∀k,(h.set b (.dead g)).get k=if k=b then some (.dead g)else h.get k:=fun k=>Zcd _ t k _;have G:∀k y,Live (h.set b (.dead g)) k y->Live h k y:=by
  rintro k y⟨x,a,hg,I⟩;rw[l]at a;split at a;·grind
  exact⟨x,a,hg,I⟩
 refine⟨fun k a y=>?_,fun k x a y r=>?_,fun k x a=>?_,fun k y Q R o base i T N Y p2=>H.inj k y Q R o base i (G _ _ T) (G _ _ N) Y p2,fun k F m=>m.2 F,L,fun k m=>Za0 (H.inO k m.1) E.size⟩
 ·rw[l]at a;split at a;·cases a
  exact H.fresh k a y
 ·rw[l]at a;split at a;·rename_i e;subst e;cases a;exact H.later k _ J y r
  exact H.later k x a y r
 rw[l]at a;split at a;·cases a;trivial
 rename_i e;refine Zcg (E2.ext H.disj) (fun o base I hp=>?_) (H.blk k x a);have m:=H.owned ⟨x,a,rfl,I⟩ hp;have B:¬z.O o:=by rintro⟨i,M⟩;exact e (H.inj _ _ _ _ _ _ _ ⟨x,a,rfl,I⟩ n hp M)
 refine⟨⟨m,fun F=>?_⟩,E.keep o (H.inO _ m) B⟩;rcases s o F with h1|h1|h1;·exact H.disj o h1 m
 ·exact B h1
 have:=H.inO o m;omega
theorem GSpec.heap(S:GSpec P f args b g xs v)(a:h.get b=some (.cells g xs)):HSpec P f args h v (h.set b (.dead g)):=⟨S.1,fun _ _ _ H c=>(S.give H a c).2⟩
theorem NSpec.new{len sz}{K ys}(S:NSpec P f K ys len sz)(H:HRel c h w)(J:∀k,c.F k->F0 k)(hFO:∀k,F0 k->c.F k\/c.O k)(M:flatVs ys=true\/(noRefs ys=true/\∀k,F0 k->c.F k))(ha:VRels (only (ok:=okc P) F0) w K d.toList)(A:i<lim)(hi:h.get i=none):Calls P f d w (Rets P c w (h.set i (.cells 0 ys)) (.sl i 0 0 len sz)):=by
 obtain⟨_,_,b,g,off,cs,h',m,hoff,hb,_,hs⟩:=S;have hF0:∀k,F0 k->k<w.heap.size:=fun k a=>(hFO k a).elim (H.inF k) (H.inO k);refine(hs (only F0) w d (HRel.only hF0) ha).mono ?_;rintro e U⟨cv,N,rfl,E,H',V⟩;have l:∀k,k<w.heap.size->U.heap[k]?=w.heap[k]?:=fun k a=>E.keep k a (fun h=>h);have O:∀k,N.O k->w.heap.size<=k:=fun k r=>(E.own k r).elim (fun h=>h.elim) id;obtain⟨E1,H1⟩:=H.grow E.os E.tape E.output E.size l;let F2:Nat->Prop:=fun k=>N.F k/\(c.F k\/w.heap.size<=k);have F:∀k,c.F k->F2 k:=fun k a=>⟨E.frz k (J k a),.inl a⟩;have H2:HRel ({c with F:=F2}:Ctx (okc P)) h U:=H1.frozen F2 F fun k a=>⟨fun r=>a.2.elim (fun h=>H.disj k h r) fun h=>(by have:=H.inO k r;omega),H'.inF k a.1⟩;have E2:Evo c w ({c with F:=F2}:Ctx (okc P)) U:=⟨E1.os,E1.tape,E1.output,E1.size,E1.shape,E1.keep,E1.rho,F,fun k a=>a.2.elim .inl fun h=>.inr (.inr h),E1.own,rfl⟩;have R:∀y,c.ρ i y=none:=fun y=>H.fresh i hi y;rcases H'.blk b _ hb with⟨hp,rfl⟩|⟨q,base,C,ty,fr,hp,r,hC,Y,hbs,z⟩
 ·simp only[VRel]at V;rcases V with⟨_,rfl,rfl,rfl⟩|⟨q,base,o,cap,C,ty,fr,t,_⟩;·simp only[List.drop_nil]at m;subst m;have B:=H2.putNil (b:=i) (g:=0) A (fun y _=>R y) (.inl (R 0));exact⟨_,_,rfl,E2.trans B.1,B.2,by simp_all[VRel,Qa6]⟩
  simp_all
 simp only[VRel]at V;rcases V with⟨t,_⟩|⟨cb2,base2,o,cap,C2,ty2,fr2,t,rfl,hlc,Q,hcap⟩;·simp_all
 rw[show N.ρ b g=_ from hp]at t;cases t;rw[hC]at Q;cases Q;have hcn:=O q r;have hlen:=Qbn z;simp at hlen;have hy:=Qbj off z;rw[ZaT,m]at hy;have Z:¬N.F q:=fun h=>H'.disj q h r;have hcO:¬c.O q:=fun h=>by have:=H.inO q h;omega
 let v:Ctx (okc P):=({c with F:=F2}:Ctx (okc P)).with i 0 (.loc q (base+off)) (some q);have I:∀k y,k≠i->v.ρ k y=c.ρ k y:=fun k y hne=>by show(if k=i/\y=0 then _ else c.ρ k y)=_;simp_all
 have hr2:∀y,y≠0->v.ρ i y=none:=fun y hne=>by show(if i=i/\y=0 then _ else c.ρ i y)=_;simp_all
 have hr0:v.ρ i 0=some (.loc q (base+off)):=Qa6;have G:∀k,v.O k->c.O k\/k=q:=fun k a=>a.imp id fun h=>Option.some.inj h;have E3:Evo c w v U:=⟨E1.os,E1.tape,E1.output,E1.size,E1.shape,fun k h1 _=>l k h1,fun k y p hp=>by grind,F,fun k a=>a.2.elim .inl fun h=>.inr (.inr h),fun k a=>(G k a).elim .inl fun h=>.inr (by omega),rfl⟩;have n:∀k,(h.set i (.cells 0 ys)).get k=if k=i then some (.cells 0 ys)else h.get k:=fun k=>Zcd _ A k _;refine⟨_,v,rfl,E3,?_,?_⟩
 ·refine⟨fun k a y=>?_,fun k x a y hlt=>?_,fun k x a=>?_,fun k y k' y' u b1 b1' l1 l2 p1 p2=>?_,fun k J r=>?_,fun k J=>H'.inF k J.1,fun k r=>?_⟩
  ·rw[n]at a;split at a;·cases a
   rename_i e;rw[I k y e];exact H.fresh k a y
  ·rw[n]at a;split at a;·grind
   rename_i e;rw[I k y e];exact H.later k x a y hlt
  ·rw[n]at a;split at a
   ·rename_i e;subst e;cases a;refine .inr ⟨q,base+off,C,ty,fr,hr0,.inr rfl,hC,Y,by omega,?_⟩;rcases M with M|⟨M,hFc⟩;·exact VPre.flat M hy
    refine VPre.noRef (c:=N) (c':=v) (fun k T=>⟨T,?_⟩) _ _ M hy;rcases E.frzNew k T with h1|h1|h1;·exact .inl (hFc k h1)
    ·exact h1.elim
    omega
   rename_i e;refine Zcg (E3.ext H.disj) (fun cb' base' X s=>?_) (H.blk k x ‹_›);have L:=H.owned ⟨x,a,rfl,X⟩ s;exact⟨.inl L,l cb' (H.inO _ L)⟩
  ·have key:∀k y b,Live (h.set i (.cells 0 ys)) k y->v.ρ k y=some (.loc u b)->(k=i/\u=q)\/(k≠i/\Live h k y/\c.ρ k y=some (.loc u b)/\u<w.heap.size):=by
    rintro k y b⟨x,a,hg,X⟩s;rw[n]at a;split at a;·grind
    rename_i e;rw[I k y e]at s;exact .inr ⟨e,⟨x,a,hg,X⟩,s,H.inO _ (H.owned ⟨x,a,hg,X⟩ s)⟩
   rcases key k y b1 l1 p1 with⟨k1,k2⟩|⟨k1,k2,k3,k4⟩<;>rcases key k' y' b1' l2 p2 with⟨j1,j2⟩|⟨j1,j2,j3,j4⟩;·rw[k1,j1]
   ·omega
   ·omega
   exact H.inj _ _ _ _ _ _ _ k2 j2 k3 j3
  ·rcases G k r with h1|rfl;·exact J.2.elim (fun h2=>H.disj k h2 h1) fun h2=>by have:=H.inO k h1;omega
   exact Z J.1
  rcases G k r with h1|rfl;·exact Za0 (H.inO k h1) E.size
  grind
 simp only[VRel];grind
theorem NStep.calls{fp}(N:NStep P i f args h v h1 fp)(H:HRel c h w)(l:VRels c w args a.toList):Callable P f/\Calls P f a w (Rets P c w h1 v):=by
 obtain⟨g,R,n,o⟩:=N;have own:g=args->noRefs g=true->VRels (only (ok:=okc P) c.F) w g a.toList:=fun e p=>by subst e;exact VRels.noRef (c:=c) (c':=only c.F) (fun _ h=>h) _ _ p l
 have lend:(mapH (frzH 4) args).run h=some (g,h)->VRels (lent c) w g a.toList:=fun hm=>(Qdf (QeX H 4) _ _ _ _ l hm).2;rcases o with⟨r,len,sz,d,b,m,hi,rfl,rfl,_⟩|⟨d,b,rfl,_⟩
 ·refine⟨d.1,?_⟩;rcases n with⟨e,_⟩|⟨hm,_⟩;·exact d.new H (F0:=c.F) (fun _ h=>h) (fun _ h=>.inl h) (b.imp id fun h=>⟨h.1,fun _ h=>h⟩) (own e d.2.1) m hi
  rcases b with b|⟨b,q⟩;·exact d.new H (F0:=fun k=>c.F k\/c.O k) (fun _ h=>.inl h) (fun _ h=>h) (.inl b) (VRels.noRef (c:=lent c) (c':=only fun k=>c.F k\/c.O k) (fun _ h=>h) _ _ d.2.1 (lend hm)) m hi
  exact d.new H (F0:=c.F) (fun _ h=>h) (fun _ h=>.inl h) (.inr ⟨b,fun _ h=>h⟩) (own q d.2.1) m hi
 rcases n with⟨e,_⟩|⟨hm,_⟩;·subst e;exact d.pure H l
 rcases b with b|b;·exact d.borrow b H (lend hm)
 subst b;exact d.pure H l
theorem NStep.heap{fp}(N:NStep P i f args h v h1 fp):HSpec P f args h v h1:=by
 have hc:Callable P f:=by
  obtain⟨b,R,_,⟨_,_,_,a,_⟩|⟨a,_⟩⟩:=N;·exact a.1
  exact a.2.2.choose_spec.1
 exact⟨hc,fun _ _ _ H c=>(N.calls H c).2⟩
mutual theorem VRel.inB{ok:Okc}{B:List Nat}{c c':Ctx ok}{w:World}(hr:∀b∈B,∀g,c'.ρ b g=c.ρ b g)(hF:∀k,c.F k->c'.F k):∀(x:AV)(v:Value),AM.inB B x=true->VRel c w x v->VRel c' w x v
 |.any,_,_,_=>by simp[VRel]|.bool b,_,_,h=>by simpa[VRel]using h|.int k n,_,_,h=>by simpa[VRel]using h|.str s,_,_,h=>by simpa[VRel]using h|.agg cs,v,hn,h=>by simp only[VRel]at h⊢;simp only[AM.inB]at hn;obtain⟨vs,rfl,h⟩:=h;exact⟨vs,rfl,VRels.inB hr hF cs _ hn h⟩|.tup cs,v,hn,h=>by simp only[VRel]at h⊢;simp only[AM.inB]at hn;obtain⟨vs,rfl,h⟩:=h;exact⟨vs,rfl,VRels.inB hr hF cs _ hn h⟩|.nilptr,_,_,h=>by simpa[VRel]using h|.ptr b g off,v,hn,h=>by simp only[AM.inB,Qdz]at hn;simp only[VRel]at h⊢;rw[hr b hn];exact h|.fptr cs,v,hn,h=>by simp only[VRel]at h⊢;simp only[AM.inB]at hn;obtain⟨cb,off,C,e,fr,h1,h2,h3,h4⟩:=h;exact⟨cb,off,C,e,fr,h1,hF _ h2,h3,VPre.inB hr hF cs _ hn h4⟩|.nilsl,_,_,h=>by simpa[VRel]using h|.sl b g off len sz,v,hn,h=>by simp only[AM.inB,Qdz]at hn;simp only[VRel]at h⊢;rw[hr b hn];exact h|.fsl cs len sz,v,hn,h=>by
  simp only[VRel]at h⊢;simp only[AM.inB]at hn;rcases h with h|⟨cb,off,cap,C,e,fr,h1,h2,h3,h4,h5,h6⟩;·exact .inl h
  ·exact .inr ⟨cb,off,cap,C,e,fr,h1,h2,h3,hF _ h4,h5,VPre.inB hr hF cs _ hn h6⟩|.esl,_,_,h=>by simpa[VRel]using h|.nsl,_,_,h=>by simpa[VRel]using h|.nilmap,_,_,h=>by simpa[VRel]using h|.map b g,v,hn,h=>by simp only[AM.inB,Qdz]at hn;simp only[VRel]at h⊢;rw[hr b hn];exact h|.fmap ks vs,v,hn,h=>by simp only[VRel]at h⊢;simp only[AM.inB,Zab]at hn;obtain⟨mb,es,clock,h1,h2,h3,h4,h5,h6,h7⟩:=h;exact⟨mb,es,clock,h1,hF _ h2,h3,h4,h5,VRels.inB hr hF ks _ hn.1 h6,VRels.inB hr hF vs _ hn.2 h7⟩|.nilfn,_,_,h=>by simpa[VRel]using h|.fn f x y,v,hn,h=>by simp only[VRel]at h⊢;simp only[AM.inB,Zab]at hn;obtain⟨x',y',h1,h2,h3⟩:=h;exact⟨x',y',h1,VRels.inB hr hF x _ hn.1 h2,VRels.inB hr hF y _ hn.2 h3⟩|.nilif,_,_,h=>by simpa[VRel]using h|.yld b g,v,hn,h=>by simp only[AM.inB,Qdz]at hn;simp only[VRel]at h⊢;rw[hr b hn];exact h|.ifc t x,v,hn,h=>by simp only[VRel]at h⊢;simp only[AM.inB]at hn;obtain⟨x',h1,h2⟩:=h;exact⟨x',h1,VRel.inB hr hF x _ hn h2⟩|.typed t n x,v,hn,h=>by simp only[VRel]at h⊢;simp only[AM.inB]at hn;exact⟨h.1,VRel.inB hr hF x _ hn h.2⟩theorem VRels.inB{ok:Okc}{B:List Nat}{c c':Ctx ok}{w:World}(hr:∀b∈B,∀g,c'.ρ b g=c.ρ b g)(hF:∀k,c.F k->c'.F k):∀(x:List AV)(v:List Value),inBs B x=true->VRels c w x v->VRels c' w x v|[],_,_,h=>by simpa[VRels]using h|x::xs,v,hn,h=>by simp only[VRels]at h⊢;simp only[AM.inBs,Zab]at hn;obtain⟨u,us,h1,h2,h3⟩:=h;exact⟨u,us,h1,VRel.inB hr hF x _ hn.1 h2,VRels.inB hr hF xs _ hn.2 h3⟩theorem VPre.inB{ok:Okc}{B:List Nat}{c c':Ctx ok}{w:World}(hr:∀b∈B,∀g,c'.ρ b g=c.ρ b g)(hF:∀k,c.F k->c'.F k):∀(x:List AV)(v:List Value),inBs B x=true->VPre c w x v->VPre c' w x v|[],_,_,_=>by simp[VPre]|x::xs,v,hn,h=>by simp only[VPre]at h⊢;simp only[AM.inBs,Zab]at hn;obtain⟨u,us,h1,h2,h3⟩:=h;exact⟨u,us,h1,VRel.inB hr hF x _ hn.1 h2,VPre.inB hr hF xs _ hn.2 h3⟩end
theorem MRel.inB{ok}{c c':Ctx ok}(i:∀b∈B,∀g,c'.ρ b g=c.ρ b g)(d:∀k,c.F k->c'.F k):∀{x:List (AV×AV)}{es:List MapEntry}{clock:Nat},inBe B x=true->MRel c w x es clock->MRel c' w x es clock|[],_,_,_,h=>by simpa[MRel]using h|(k,x)::r,es,clock,a,h=>by simp only[MRel]at h⊢;simp only[inBe,Zab]at a;obtain⟨e,f,h1,p,n,o,l,m⟩:=h;exact⟨e,f,h1,VRel.inB i d k _ a.1.1 p,VRel.inB i d x _ a.1.2 n,o,l,MRel.inB i d a.2 m⟩
theorem FStep.calls{fp}(S:FStep P f args h v h1 fp)(H:HRel c h w)(ha:VRels c w args m.toList):Callable P f/\Calls P f m w (Rets P c w h1 v):=by
 obtain⟨B,D,W,Y,f1,f2,f3,f4,⟨hc,hs⟩,f6,f7,f8,f9,_,_,rfl,_⟩:=S;have hB:∀b∈B,b<lim:=fun b o=>QdW f1 o;have hD:∀b∈D,b<lim:=fun b o=>QdW f2 o;have G:=Qst (h:=h) hB (fun b o e=>by grind[blkIn]);have K:=QfC (k:=Y) (h:=h) hD f6;let O:Ctx (okc P):={ρ:=fun k y=>if k∈B then c.ρ k y else none,F:=c.F,O:=fun k=>∃b y base,b∈B/\Live h b y/\c.ρ b y=some (.loc k base),base:=c.base};have d:∀b∈B,∀y,O.ρ b y=c.ρ b y:=fun b o y=>if_pos o;have hrn:∀b,b∉B->∀y,O.ρ b y=none:=fun b o y=>if_neg o;have J:∀k,O.O k->c.O k:=fun k⟨b,y,base,_,U,a⟩=>H.owned U a;have hlB:∀k y,Live (pick h B) k y->k∈B/\Live h k y:=by
  rintro k y⟨x,a,hg,L⟩;rw[G]at a;split at a;·rename_i e;exact⟨e,x,a,hg,L⟩
  cases a
 have H1:HRel O (pick h B) w:=by
  refine⟨fun k a y=>?_,fun k x a y I=>?_,fun k x a=>?_,fun k y A T l base i r s F z=>?_,fun k X q=>H.disj k X (J k q),H.inF,fun k q=>H.inO k (J k q)⟩
  ·rw[G]at a;split at a;·rename_i e;rw[d k e];exact H.fresh k a y
   simp_all
  ·rw[G]at a;split at a;·rename_i e;rw[d k e];exact H.later k x a y I
   cases a
  ·rw[G]at a;split at a;·rename_i e;have n:=f4 k e;rw[a]at n;have o:=H.blk k x a;cases x with|dead g=>trivial|loop=>simp[blkIn]at n|cells g cs=>
   simp only[blkIn]at n;rcases o with⟨h1,h2⟩|⟨l,base,C,ty,fr,h1,h2,M,h4,h5,h6⟩;·exact .inl ⟨(d k e g).trans h1,h2⟩
   exact .inr ⟨l,base,C,ty,fr,(d k e g).trans h1,⟨k,g,base,e,⟨_,a,rfl,fun _=>by simp⟩,h1⟩,M,h4,h5,VPre.inB d (fun _ h=>h) _ _ n h6⟩|map g es=>simp only[blkIn]at n;obtain⟨l,es',clock,h1,h2,M,h4,h5⟩:=o;exact⟨l,es',clock,(d k e g).trans h1,⟨k,g,0,e,⟨_,a,rfl,fun _=>by simp⟩,h1⟩,M,MRel.inB d (fun _ h=>h) n h4,h5⟩
   cases a
  obtain⟨R,r⟩:=hlB _ _ r;obtain⟨Q,s⟩:=hlB _ _ s;rw[d k R]at F;rw[d A Q]at z;exact H.inj _ _ _ _ _ _ _ r s F z
 refine⟨hc,(hs O w m H1 (VRels.inB d (fun _ h=>h) _ _ f3 ha)).mono ?_⟩;rintro e w'⟨cv,Z,rfl,E,H',V⟩;have hdn:∀k,k∉D->Y.get k=none:=fun k a=>by grind
 let N:Ctx (okc P):={ρ:=fun k y=>if k∈D then Z.ρ k y else c.ρ k y,F:=Z.F,O:=fun k=>(c.O k/\¬O.O k)\/Z.O k,base:=c.base};have t:∀k∈D,∀y,N.ρ k y=Z.ρ k y:=fun k a y=>if_pos a;have u:∀k,k∉D->∀y,N.ρ k y=c.ρ k y:=fun k a y=>if_neg a;have X2:Ext Z w' N w':=by
  refine⟨fun k y p hp=>?_,fun _ h=>h,fun _ _ _ h=>h,fun _ C _ fr h=>⟨C,fr,h,rfl⟩⟩;by_cases a:k∈D;·simp_all
  rw[H'.fresh k (hdn k a) y]at hp;cases hp
 have E2:Evo c w N w':=by
  refine⟨E.os,E.tape,E.output,E.size,E.shape,fun k a q=>E.keep k a fun h=>q (J k h),fun k y p hp=>?_,fun k a=>E.frz k a,fun k a=>?_,fun k a=>?_,rfl⟩
  ·by_cases a:k∈D
   ·rw[t k a];by_cases hkB:k∈B;·exact E.rho k y p ((d k hkB y).trans hp)
    rw[H.fresh k (f9 k a hkB) y]at hp;cases hp
   simp_all
  ·rcases E.frzNew k a with h1|h1|h1;·exact .inl h1
   ·simp_all
   omega
  rcases a with a|a;·exact .inl a.1
  exact(E.own k a).imp (J k) id
 have hlv:∀k y,Live (over Y h D) k y->(k∈D/\Live Y k y)\/(k∉D/\Live h k y):=by
  rintro k y⟨x,a,hg,L⟩;rw[K]at a;split at a;·rename_i e;exact .inl ⟨e,x,a,hg,L⟩
  rename_i e;exact .inr ⟨e,x,a,hg,L⟩
 have hout:∀k y l base,k∉D->Live h k y->c.ρ k y=some (.loc l base)->¬O.O l:=by rintro k y l base a U hp⟨b,T,i,o,hl',hp'⟩;have:=H.inj _ _ _ _ _ _ _ U hl' hp hp';simp_all
 refine⟨cv,N,rfl,E2,?_,Zce X2 _ _ V⟩;refine⟨fun k a y=>?_,fun k x a y I=>?_,fun k x a=>?_,fun k y A T l base i r s F z=>?_,fun k X q=>?_,fun k X=>H'.inF k X,fun k q=>?_⟩
 ·rw[K]at a;split at a;·simp_all
  rename_i e;rw[u k e];exact H.fresh k a y
 ·rw[K]at a;split at a;·rename_i e;rw[t k e];exact H'.later k x a y I
  rename_i e;rw[u k e];exact H.later k x a y I
 ·rw[K]at a;split at a;·refine Zcg X2 (fun l base L hp=>?_) (H'.blk k x a);exact⟨.inr (H'.owned ⟨x,a,rfl,L⟩ hp),rfl⟩
  rename_i e;refine Zcg (E2.ext H.disj) (fun l base L hp=>?_) (H.blk k x a);have U:Live h k x.gen:=⟨x,a,rfl,L⟩;have q:=H.owned U hp;have hn:=hout k _ l base e U hp;exact⟨.inl ⟨q,hn⟩,E.keep l (H.inO _ q) hn⟩
 ·have cross:∀k y A T base i,k∈D->Live Y k y->N.ρ k y=some (.loc l base)->A∉D->Live h A T->N.ρ A T=some (.loc l i)->False:=by
   intro k y A T base i R r F Q s z;rw[t k R]at F;rw[u A Q]at z;rcases E.own l (H'.owned r F)with h1|h1;·grind
   have:=H.inO _ (H.owned s z);omega
  rcases hlv _ _ r with⟨R,r⟩|⟨R,r⟩<;>rcases hlv _ _ s with⟨Q,s⟩|⟨Q,s⟩;·rw[t k R]at F;rw[t A Q]at z;exact H'.inj _ _ _ _ _ _ _ r s F z
  ·grind
  ·grind
  rw[u k R]at F;rw[u A Q]at z;exact H.inj _ _ _ _ _ _ _ r s F z
 ·rcases q with⟨h1,h2⟩|h1
  ·rcases E.frzNew k X with M|M|M;·exact H.disj k M h1
   ·exact h2 M
   have:=H.inO k h1;omega
  exact H'.disj k X h1
 rcases q with⟨h1,_⟩|h1;·exact Za0 (H.inO k h1) E.size
 exact H'.inO k h1
theorem FStep.heap{fp}(S:FStep P f args h v h1 fp):HSpec P f args h v h1:=by
 have hc:Callable P f:=by obtain⟨_,_,_,_,_,_,_,_,b,_⟩:=S;exact b.1
 exact⟨hc,fun _ _ _ H a=>(S.calls H a).2⟩
def Marks{ok}(c:Ctx ok)(w:World):List Deferred->Prop|[]=>c.base<=w.heap.size|d::a=>(∃D,d={target:=.collected D,args:=#[]}/\c.base<=D/\¬c.O D/\¬c.F D/\w.heap[D]?=some (.deferred (some []))/\∀b∈a,b.target≠.collected D)/\Marks c w a
theorem Marks.mono{ok}{c c':Ctx ok}(E:Evo c w c' w'):∀{ds:List Deferred},Marks c w ds->Marks c' w' ds
 |[],h=>by have h:c.base<=w.heap.size:=h;have:=E.size;show c'.base<=w'.heap.size;rw[E.base];omega|d::ds,⟨⟨D,h1,l,a,g,f,i⟩,k⟩=>by
  have b:=Qbc f;refine⟨⟨D,h1,by rw[E.base];exact l,fun h=>?_,fun h=>?_,by rw[E.keep D b a];exact f,i⟩,Marks.mono E k⟩
  ·rcases E.own D h with h|h;·exact a h
   omega
  rcases E.frzNew D h with h|h|h;·exact g h
  ·exact a h
  omega
theorem Marks.low{ok}{c:Ctx ok}:∀{ds:List Deferred},Marks c w ds->c.base<=w.heap.size|[],h=>h|_::_,h=>h.2.low
structure SRel{ok:Okc}(N:Nat)(c:Ctx ok)(A:St)(a:Act)(w:World):Prop where
 heap:HRel c A.h w
 tmps:TRel c w A.T a
 size:a.tmps.size=N
 defers:Marks c w a.defers
theorem SRel.congr{ok}{c:Ctx ok}{B}{a}(S:SRel N c A a w)(e:SEq A B):SRel N c B a w:=⟨Qct e.2 S.heap,fun i=>by rw[<-e.1 i];exact S.tmps i,S.size,S.defers⟩
theorem SRel.put{ok}{c c':Ctx ok}{a}{dst}(S:SRel N c A a w)(E:Evo c w c' w')(H:HRel c' h1 w')(f:∀d,dst=some d->d<N)(V:VRel c' w' v cv):SRel N c' ⟨putD A.T dst v,h1⟩ (a.put dst cv) w':=by have b:TRel c' w' A.T a:=fun i=>Zce (E.ext S.heap.disj) _ _ (S.tmps i);cases dst with|none=>exact⟨H,b,S.size,S.defers.mono E⟩|some d=>
 refine⟨H,fun i=>?_,by simp[Act.put,S.size],by simpa[Act.put]using S.defers.mono E⟩;have g:d<a.tmps.size:=by rw[S.size];exact f d rfl
 simp only[QbG,Act.put,Zaa];by_cases e:d=i;·simp_all
 rw[if_neg e];simpa[Array.getElem?_setIfInBounds_ne e]using b i
theorem noDefer{s}(a:okOp P o.op s=true):(∀b,o.op≠.defer b)\/s=.bad:=by grind[okOp]
theorem Qho{ro}{fp}{a}(S:SRel N c A a w)(t:o.dst=s.dst)(I:∀d,s.dst=some d->d<N)(G:okOp P o.op s.op=true)(R:StepX P i s.op A.T A.h v h1 fp)(M:∀c' L w',SRel N c' ⟨putD A.T s.dst v,h1⟩ L w'->Evo c w c' w'->K L w'):o.wpIn (FW ro) 0 P a w K Q:=by
 obtain⟨out,h2,hm,m⟩:=R;have B:o.semAt ro a.eval=execOp a.eval o:=by grind[noDefer,Oper.semAt_eq,aop,HM.run]
 have n:=Qsr S.heap S.tmps G hm;refine⟨fun _ _=>trivial,?_⟩;show o.uponIn (FW ro) 0 P a K Q ((o.semAt ro a.eval).run P w);rw[B];have fin:∀e w',Rets P c w h1 v e w'->(match(motive:=Ending->World->Prop)e,w' with|.returned v,z=>K (a.put o.dst v) z|.panicked chain,z=>Q (.panic chain) a z|.outgrown,_=>LetsOut Q):=by rintro e w'⟨J,c',rfl,E,H',V⟩;exact M c' _ w' (by rw[t];exact S.put E H' I V) E
 have called:∀(f:Nat)(l:Array Value),(execOp a.eval o).run P w=.ok (.enter f l) w->Calls P f l w (Rets P c w h1 v)->o.uponIn (FW ro) 0 P a K Q ((execOp a.eval o).run P w):=by intro f l C k;rw[C,Oper.uponIn_enter];refine⟨fun h=>by simp[FW,Fence.wide]at h,callsFW (k.mono ?_)⟩;omega
 match out,hm,m,n with
 |.val u,hm,m,n=>
  obtain⟨rfl,rfl,_⟩:=m;obtain⟨nx,J,c',w',x,Z,E,H',V⟩:=n;rw[x];have y:=M c' (a.put o.dst J) w' (by rw[t];exact S.put E H' I V) E;rcases Z with rfl|⟨rfl,rfl⟩;·exact y
  ·exact y|.call .pure f args,hm,m,n=>obtain⟨r,rfl,_⟩:=m;obtain⟨rfl,l,x,p,_⟩:=n;obtain⟨hc,k⟩:=r.pure S.heap (p (by simp));exact called f l (x hc) k|.call .borrow f args,hm,m,n=>obtain⟨r,U,rfl,_⟩:=m;obtain⟨rfl,l,x,_,p⟩:=n;obtain⟨hc,k⟩:=r.borrow U S.heap (p rfl);exact called f l (x hc) k|.call .heap f args,hm,m,n=>
  obtain⟨rfl,l,x,p,_⟩:=n;rcases m with⟨r,_⟩|⟨b,g,xs,r,Y,rfl,_⟩|H|H;·obtain⟨hc,k⟩:=r.heap S.heap (p (by simp));simp_all
  ·obtain⟨hc,k⟩:=r.give S.heap Y (p (by simp));simp_all
  ·obtain⟨hc,k⟩:=H.calls S.heap (p (by simp));simp_all
  ·obtain⟨hc,k⟩:=H.calls S.heap (p (by simp));simp_all|.round b g args,hm,m,n=>obtain⟨r,_⟩:=m;obtain⟨rfl,O,l,F,p,x⟩:=n;obtain⟨fn,tmps,T,body,X,q⟩:=r c w l O S.heap p F;rw[x,X,Oper.uponIn_round];refine⟨fun h=>by simp[FW,Fence.wide]at h,trivial,fun fr cs _=>?_⟩;obtain⟨e,w',hR,hc⟩:=q.2 fr cs (room_wide _);refine⟨e,w',?_,hc⟩;have:=fin e w' hR;cases e<;>exact this
theorem QfE{ro}{bi}{fp}{a}(S:SRel N c A a w)(ho:ops[i]?=some o)(h:okOper P N ops o s=true)(g:StepV P bi s A.T A.h v h1 fp)(r:∀c' t w',SRel N c' ⟨putD A.T s.dst v,h1⟩ t w'->Evo c w c' w'->K t w'):wpOpIn (FW ro) 0 P ops Q i K a w:=by
 unfold okOper at h;simp only[Zab,beq_iff_eq]at h;obtain⟨⟨⟨⟨y,H⟩,B⟩,k⟩,E⟩:=h;have u:∀d,s.dst=some d->d<N:=by grind
 unfold wpOpIn;rw[ho];simp only;unfold StepV at g
 cases x:s.guard with|none=>
  rw[x]at g k;have f:o.guard=none:=by grind[okGuard]
  have:Region.wanted o (yielded ops a.tmps)=true:=by simp[Region.wanted,f]
  rw[this];exact Qho S y u B g r|some p=>obtain⟨slot,n⟩:=p;rw[x]at g k;simp only at g;obtain⟨b,l,g⟩:=g;cases f:o.guard with|none=>rw[f]at k;simp[okGuard]at k|some q=>
   obtain⟨j,m⟩:=q;rw[f]at k;simp only[okGuard,Zab,beq_iff_eq,decide_eq_true_eq]at k;obtain⟨⟨rfl,G⟩,C⟩:=k;have z:slot<a.tmps.size:=by rw[S.size];exact C
   have hw:Region.wanted o (yielded ops a.tmps)=b:=by
    have F:=S.tmps slot;unfold wantedA at l;split at l;·simp_all[VRel,yielded,Region.wanted]
    ·simp_all[VRel,VRels,yielded,Region.wanted]
    cases l
   rw[hw];split at g;·rename_i e;subst e;simp only[if_true];grind[Qho]
   rename_i e;obtain⟨rfl,rfl,_⟩:=g;have:b=false:=by simpa using e
   rw[this];simp only[Zar,if_false];refine⟨fun _ _=>trivial,r c _ w ?_ (.refl c w)⟩;rw[y];exact S.put (.refl c w) S.heap u (by simp[VRel,VRels,undef])
theorem QtB(o)(h):(lift o).fp h=([],[]):=by cases o<;>rfl
theorem Qoh{s}(hc:s.cls=0):(aop i T s).fp h=([],[]):=by cases s<;>simp only[SOp.cls,reduceCtorEq]at hc<;>first|exact QtB _ _|rfl|(rename_i m x xs;cases m<;>simp at hc;done)|(simp at hc;done)
theorem QtC{s}(hc:s.cls=1):(aop i T s).ro:=by
 cases s<;>simp only[SOp.cls,reduceCtorEq,Nat.reduceEqDiff]at hc;case convB x=>
  refine HM.Qb6 ?_ fun _=>trivial;have src:∀(y:AV),(aSrc 1 y fun ys n=>match bytesOf ys with|some s=>HM.ret (AV.str s)|none=>.fail).ro:=by
   intro y;unfold aSrc;have fin:∀ys:List AV,(match bytesOf ys with|some s=>HM.ret (AV.str s)|none=>HM.fail).ro:=by intro ys;split<;>trivial
   split
   ·split
    ·refine QfB fun cs=>?_;split;·exact fin _
     ·trivial
    ·trivial
   ·split;·exact fin _
    ·trivial
   ·exact fin []
   ·exact fin []
   ·exact fin []
   ·simp_all
   ·trivial
  unfold aConvB;split;·trivial
  ·exact src _
 case eqn neg x=>
  refine HM.Qb6 ?_ fun _=>trivial;unfold aEqN aNilS;split
  ·intro y;dsimp only;split
   ·rename_i g' _ _;generalize Nat.beq g' _=bb;cases bb;·trivial
    simp_all[QiC]
   ·trivial
  ·exact QiC _
 case load n x=>
  refine HM.Qb6 ?_ fun _=>trivial;unfold aLoad;split
  ·refine QfB fun cs=>?_;split;·exact QiC _
   ·split<;>trivial
  ·split;·exact QiC _
   ·split<;>trivial
  ·trivial
 case len k x=>
  refine HM.Qb6 ?_ fun _=>trivial;unfold aLenC;split
  ·unfold aLen;split<;>try trivial
   intro x;dsimp only;split;·rename_i g' es;generalize Nat.beq g' _=bb;cases bb<;>trivial
   ·trivial
  ·trivial
 case lookup row ks zero ok x k=>
  refine HM.Qb6 ?_ fun _=>trivial;unfold aLookup;split
  ·split;·trivial
   ·refine QpD fun es=>?_;split<;>trivial
   ·split<;>trivial
   ·trivial
  ·trivial
 case call m x args=>
  simp only[aop];unfold aCall;split
  ·split;·exact HM.Qb6 (Qc4 (Qey 4) _) fun _=>trivial
   ·trivial
  ·split<;>trivial
  ·trivial
theorem Ql3{s}{a}{out}(ho:out.whole=true)(hc:s.cls<=1)(hm:(aop i T s).run h=some (out,a)):False:=by
 have lf:∀(o:Option AV),(lift o).run h≠some (out,a):=by intro o e;obtain⟨v,_,k⟩:=QaV e;cases k;cases ho
 have hf:∀(m:HM AV),(hval m).run h≠some (out,a):=by intro m e;obtain⟨v,h1,_,k⟩:=QaS e;cases k;cases ho
 have d:∀(u:AV),(HM.ret (AOut.val u)).run h≠some (out,a):=by intro u e;simp only[HM.run,Zaa,Zal]at e;obtain⟨rfl,rfl⟩:=e;cases ho
 cases s<;>simp only[aop]at hm<;>first|exact absurd hm (lf _)|exact absurd hm (hf _)|exact absurd hm (d _)|(simp only[HM.run,reduceCtorEq]at hm;done)|skip
 rename_i m x xs
 cases m with|heap=>simp[SOp.cls]at hc|pure=>
  unfold aCall at hm;split at hm;·simp only[HM.run,Zaa,Zal]at hm;obtain⟨rfl,rfl⟩:=hm;cases ho
  ·simp[HM.run]at hm
  simp[HM.run]at hm|borrow=>
  unfold aCall at hm;split at hm;·simp only at hm;obtain⟨c,f,g,b⟩:=run_bind hm;simp only[HM.run,Zaa,Zal]at b;obtain⟨rfl,rfl⟩:=b;cases ho
  ·simp[HM.run]at hm
  simp[HM.run]at hm
theorem StepX.cls{s}{fp}(d:StepX P i s T h v h1 fp)(hc:s.cls<=1):fp.all=false/\fp.W=[]/\(s.cls=0->fp.R=[]):=by
 obtain⟨out,k,hm,a⟩:=d;have key:fp=fpOf ((aop i T s).fp h)->fp.all=false/\fp.W=[]/\(s.cls=0->fp.R=[]):=by intro e;subst e;refine⟨rfl,?_,fun c=>by simp[fpOf,Qoh c]⟩;grind[HM.ro_fp,QtC,fpOf,Qoh]
 match out,hm,a with|.val u,hm,a=>exact key a.2.2|.call .pure f args,hm,a=>exact key a.2.2|.call .borrow f args,hm,a=>exact key a.2.2.2|.call .heap f args,hm,a=>exact(Ql3 rfl hc hm).elim|.round b g args,hm,a=>exact(Ql3 rfl hc hm).elim
theorem StepV.cls{fp}(a:StepV P i s T h v h1 fp)(hc:s.op.cls<=1):fp.all=false/\fp.W=[]/\(s.op.cls=0->fp.R=[]):=by
 unfold StepV at a;split at a;·exact a.cls hc
 obtain⟨b,_,a⟩:=a;split at a;·exact a.cls hc
 simp_all
def StepI(P:Program)(base:Nat)(sops:List SOper)(fpf:Nat->FP)(i:Nat)(A B:St):Prop:=∃s v h1,sops[i]?=some s/\StepV P (base+i) s A.T A.h v h1 (fpf i)/\B=⟨putD A.T s.dst v,h1⟩
def RunL(P:Program)(base:Nat)(sops:List SOper)(fpf:Nat->FP):List Nat->St->St->Prop|[],A,C=>A=C|i::l,A,C=>∃B,StepI P base sops fpf i A B/\RunL P base sops fpf l B C
section
variable{base:Nat}{sops:List SOper}{fpf:Nat->FP}
theorem RunL.congr:∀{l:List Nat}{A B C:St},RunL P base sops fpf l A C->SEq A B->∃D,RunL P base sops fpf l B D/\SEq C D|[],A,B,C,a,e=>by cases a;exact⟨B,rfl,e⟩|i::l,A,B,C,a,e=>by obtain⟨A1,⟨s,v,h1,h,g,rfl⟩,a⟩:=a;obtain⟨b,k,f⟩:=g.congr e;obtain⟨D,c,d⟩:=a.congr f;exact⟨D,⟨_,⟨s,v,b,h,k,rfl⟩,c⟩,d⟩
def Apart(sops:List SOper)(fpf:Nat->FP)(k i:Nat):Prop:=∀s t,sops[k]?=some s->sops[i]?=some t->s.apart t=true/\(fpf k).apart (fpf i)=true
theorem RunL.front:∀{d c:List Nat}{i:Nat}{A C:St},RunL P base sops fpf (d++i::c) A C->(∀k∈d,Apart sops fpf k i)->∃B C',StepI P base sops fpf i A B/\RunL P base sops fpf (d++c) B C'/\SEq C' C|[],c,i,A,C,a,_=>by obtain⟨B,f,a⟩:=a;exact⟨B,C,f,a,.refl C⟩|k::d,c,i,A,C,a,b=>by obtain⟨A1,⟨s,v,h1,f,y,rfl⟩,a⟩:=a;obtain⟨B,C',⟨t,u,F,m,q,rfl⟩,h,e⟩:=RunL.front a (fun k r=>b k (by simp[r]));obtain⟨E,p⟩:=b k (by simp) s t f m;obtain⟨l,g,x,o,w⟩:=StepV.comm y q E p;obtain⟨D,z,n⟩:=h.congr w.symm;exact⟨_,D,⟨t,u,l,m,x,rfl⟩,⟨_,⟨s,v,g,f,o,rfl⟩,z⟩,n.symm.trans e⟩
inductive Bef(sops:List SOper):Nat->Nat->Prop|one{j k:Nat}{s:SOper}:sops[j]?=some s->k∈s.after->Bef sops k j|more{j k e:Nat}{s:SOper}:sops[j]?=some s->e∈s.after->Bef sops k e->Bef sops k j
end
structure Fits(P:Program)(N:Nat)(ops:Array Oper)(sops:List SOper):Prop where
 size:ops.size=sops.length
 ok:∀(i:Nat)(o:Oper),ops[i]?=some o->∃s,sops[i]?=some s/\okOper P N ops o s=true
theorem Fits.after(F:Fits P N ops sops)(ho:ops[i]?=some o)(d:sops[i]?=some s):∀k,k∈s.after↔∃e∈o.after,Region.binds .any e=true/\e.on=k:=by obtain⟨c,b,a⟩:=F.ok i o ho;grind[okOper,okAfter]
def rest(n:Nat)(a:Array Bool):List Nat:=(List.range n).filter fun i=>!a.getD i true
theorem Qez{a}:i∈rest n a↔i<n/\a.getD i true=false:=by simp[rest]
theorem Qgn:∀(l:List Nat)(p:Nat->Bool)(i:Nat),l.Pairwise (·<·)->i∈l->p i=true->∃a d,l.filter p=a++i::d/\l.filter (fun k=>p k&&k !=i)=a++d/\∀k∈a,k<i/\p k=true
 |[],p,i,_,hi,_=>by simp at hi|x::l,p,i,c,hi,hp=>by
  rw[ZaB]at c;by_cases e:x=i
  ·subst e;have f:l.filter (fun k=>p k&&k !=x)=l.filter p:=by
    apply ZbJ;intro k g;have:=c.1 k g;have:(k !=x)=true:=by simp;omega
    simp[this]
   refine⟨[],l.filter p,?_,?_,by simp⟩;·simp_all
   simp_all
  have b:i∈l:=by grind
  obtain⟨a,d,h1,h,m⟩:=Qgn l p i c.2 b hp;grind
theorem QpF(hi:i∈rest n listed):∃l1 l2,rest n listed=l1++i::l2/\rest n (listed.setIfInBounds i true)=l1++l2/\∀k∈l1,k<i/\k<n/\listed.getD k true=false:=by
 obtain⟨h1,h2⟩:=Qez.1 hi;obtain⟨l1,l2,k1,k2,k3⟩:=Qgn (List.range n) (fun k=>!listed.getD k true) i Zbz (by simpa using h1) (by simp[h2]);refine⟨l1,l2,k1,?_,?_⟩
 ·rw[<-k2];unfold rest;apply ZbJ;intro k _;by_cases e:k=i;·simp_all
  ·have e2:(k !=i)=true:=by simpa using e
   rw[getD_set_ne true (fun h=>e h.symm),e2,Zad]
 grind
structure Free(sops:List SOper)(fpf:Nat->FP):Prop where
 back:∀(j:Nat)(s:SOper),sops[j]?=some s->∀k∈s.after,k<j
 apart:∀(k i:Nat),k<i->i<sops.length->Bef sops k i\/Apart sops fpf k i
theorem Qqo{ro}{base}(F:Fits P N ops sops)(R:Free sops fpf)(hQ:∀c a w,SRel N c C a w->Evo c0 w0 c w->Q .normal a w):∀(fuel:Nat)(listed:Array Bool)(A C':St)(c:Ctx (okc P))(a:Act)(w:World),listed.size=ops.size->(rest sops.length listed).length<=fuel->(∀j,listed.getD j false=true->∀k,Bef sops k j->listed.getD k false=true)->RunL P base sops fpf (rest sops.length listed) A C'->SEq C' C->SRel N c A a w->Evo c0 w0 c w->wpAnyIn (FW ro) 0 P .any ops Q fuel listed a w:=by
 intro fuel;induction fuel with|zero=>
  intro listed A C' c a w hsz hf hcl hr he hS hE;have h0:rest sops.length listed=[]:=ZbW (by omega);refine⟨?_,?_⟩;·rw[List.eq_nil_iff_forall_not_mem];intro j hj;obtain⟨g1,o,g2,g3⟩:=mem_ready.1 hj;have:j<ops.size:=(Array.getElem?_eq_some_iff.1 g2).1;have:j∈rest sops.length listed:=Qez.2 ⟨by rw[<-F.size];exact this,g1⟩;simp_all
  ·rw[h0]at hr;cases hr;exact hQ c a w (hS.congr he) hE|succ fuel ih=>
  intro listed A C' c a w hsz hf hcl hr he hS hE;refine⟨?_,?_⟩
  ·intro hnil;have h0:rest sops.length listed=[]:=by cases hrr:rest sops.length listed with|nil=>rfl|cons i l=>
    exfalso;have hi:i∈rest sops.length listed:=by rw[hrr];simp
    obtain⟨h1,h2⟩:=Qez.1 hi;have hlt:i<ops.size:=by grind
    have hready:i∈Region.ready .any ops listed:=by
     rw[mem_ready];refine⟨h2,ops[i],Array.getElem?_eq_getElem hlt,fun e he hb=>?_⟩;obtain⟨s,hs,_⟩:=F.ok i _ (Array.getElem?_eq_getElem hlt);have hmem:=(F.after (Array.getElem?_eq_getElem hlt) hs e.on).2 ⟨e,he,hb,rfl⟩;have hback:=R.back i s hs e.on hmem;have hon:e.on<listed.size:=by omega
     cases hv:listed.getD e.on false with|true=>rfl|false=>
      exfalso;have hv2:listed.getD e.on true=false:=by simp_all
      have:e.on∈rest sops.length listed:=Qez.2 ⟨by omega,hv2⟩;rw[hrr]at this;have hsorted:(rest sops.length listed).Pairwise (·<·):=List.Pairwise.filter _ Zbz;rw[hrr,ZaB]at hsorted;rcases Zax.1 this with h|h;·omega
      ·grind
    rw[hnil]at hready;simp at hready
   rw[h0]at hr;cases hr;exact hQ c a w (hS.congr he) hE
  ·intro i hi;obtain⟨g1,o,ho,g3⟩:=mem_ready.1 hi;have hlt:i<ops.size:=(Array.getElem?_eq_some_iff.1 ho).1;have hmr:i∈rest sops.length listed:=Qez.2 ⟨by rw[<-F.size];exact hlt,g1⟩;obtain⟨s,hs,hok⟩:=F.ok i o ho;have hbefi:∀k,Bef sops k i->listed.getD k false=true:=by intro k hb;cases hb with|one h1 h2=>rw[hs]at h1;cases h1;obtain⟨e,e1,e2,e3⟩:=(F.after ho hs k).1 h2;rw[<-e3];exact g3 e e1 e2|more h1 h2 h3=>rw[hs]at h1;cases h1;rename_i e';obtain⟨e,e1,e2,e3⟩:=(F.after ho hs e').1 h2;exact hcl e' (by grind) k h3
   obtain⟨l1,l2,k1,k2,k3⟩:=QpF hmr;rw[k1]at hr;obtain⟨B,C'',⟨s',v,h1,hs',hv,rfl⟩,hr',he'⟩:=RunL.front hr (fun k hk=>by
    obtain⟨m1,m2,m3⟩:=k3 k hk;rcases R.apart k i m1 (by grind)with hb|hb;·grind
    ·exact hb);rw[hs]at hs';cases hs';refine QfE hS ho hok hv ?_;intro c' a' w' hS' hE';refine ih _ _ C'' c' a' w' (by simpa using hsz) ?_ ?_ (by simp_all) (he'.trans he) hS' (hE.trans hE');·grind
   ·intro j hj k hb;by_cases hji:j=i;·grind[getD_set_true]
    ·rw[getD_set_ne false (fun h=>hji h.symm)]at hj;grind[getD_set_true]
end Go.AM
theorem _root_.Go.AM.Zch:type_of%@Go.AM.VRel.noRef:=@Go.AM.VRel.noRef
theorem _root_.Go.AM.Zci:type_of%@Go.AM.VRels.noRef:=@Go.AM.VRels.noRef
namespace Go.AM
variable{P:Program}
variable{u v:AV}{ops:Array Oper}{draw:Bool}{Q:Exit->Act->World->Prop}{fs:FP}{h h1:Heap}{a b:List (Nat×Nat)}{dead:List Nat}{sops:List SOper}{N bi i:Nat}{x:Nat->Blk}{fpf:Nat->FP}{r:Nat->Nat->AV}{f y z:SCode}{s t:SOper}{Q':SX->St->Prop}{A B C:St}{T:Tmps}{α:Type}{w w0:World}{c c0:Ctx (okc P)}
theorem Qf8{ro}{base}(F:Fits P N ops sops)(hQ:∀c a w,SRel N c C a w->Evo c0 w0 c w->Q .normal a w):∀(l:List Nat)(A:St)(c:Ctx (okc P))(a:Act)(w:World),RunL P base sops fpf l A C->SRel N c A a w->Evo c0 w0 c w->wpOpsIn (FW ro) 0 P ops Q l a w
 |[],A,c,a,w,d,h,f=>by cases d;exact hQ c a w h f|i::l,A,c,a,w,d,h,f=>by
  obtain⟨B,⟨s,v,h1,n,r,rfl⟩,d⟩:=d
  rw[wpOpsIn_cons];cases ho:ops[i]? with|none=>
   exfalso;have h1:ops.size<=i:=by simp_all
   have x:i<sops.length:=(Zaj.1 n).1;have:=F.size;omega|some o=>obtain⟨u,b,k⟩:=F.ok i o ho;rw[n]at b;cases b;exact QfE h ho k r fun q p t g m=>Qf8 F hQ l _ q p t d g (f.trans m)
theorem Qgo(acc:List Nat):∀(l:List Nat)(m k:Nat),(l.foldl (fun m e=>m|||2^e|||acc.getD e 0) m).testBit k=true->m.testBit k=true\/∃e∈l,k=e\/(acc.getD e 0).testBit k=true
 |[],m,k,h=>.inl h|e::l,m,k,h=>by
  simp only[ZaR]at h;rcases Qgo acc l _ k h with h1|⟨b,a,h1⟩;·grind
  grind
theorem Qhp:∀(r pre:List SOper)(acc:List Nat),sops=pre++r->acc.length=pre.length->(∀j k,(acc.getD j 0).testBit k=true->Bef sops k j)->∀j k,((masksFrom acc r).getD j 0).testBit k=true->Bef sops k j
 |[],pre,acc,_,_,h=>h|s::r,pre,acc,g,f,h=>by
  refine Qhp r (pre++[s]) _ (by simp[g]) (by simp[f]) ?_;intro j k d;by_cases l:j<acc.length;·grind
  by_cases c:j=acc.length
  ·subst c;have e:(acc++[maskOf acc s]).getD acc.length 0=maskOf acc s:=by simp
   rw[e]at d;have a:sops[acc.length]?=some s:=by simp_all
   rcases Qgo acc s.after 0 k d with h1|⟨i,b,h1⟩;·simp at h1
   rcases h1 with rfl|h1;·exact .one a b
   exact .more a b (h i k h1)
  grind
theorem HM.Qsx(m:HM α):∀(h:Heap)(a:α)(h1:Heap),m.run h=some (a,h1)->∀b,h.get b≠none->h1.get b≠none:=by induction m with|ret x=>intro h a h1 hm b c;simp only[HM.run,Zaa,Zal]at hm;obtain⟨rfl,rfl⟩:=hm;exact c|fail=>intro h a h1 hm;simp[HM.run]at hm|look b k d=>intro h a h1 hm;exact d _ h a h1 hm|put b x k d=>
 intro h a h1 hm g c;obtain⟨f,hm⟩:=Qa2 hm;refine d _ a h1 hm g ?_;rw[Zcd _ f];split;·simp
 exact c
theorem QiE{s}{a}{out}(ho:out.whole=true)(hc:s.still=true)(hm:(aop i T s).run h=some (out,a)):False:=by
 have lf:∀(o:Option AV),(lift o).run h≠some (out,a):=by intro o e;obtain⟨v,_,k⟩:=QaV e;cases k;cases ho
 have hf:∀(m:HM AV),(hval m).run h≠some (out,a):=by intro m e;obtain⟨v,h1,_,k⟩:=QaS e;cases k;cases ho
 have d:∀(u:AV),(HM.ret (AOut.val u)).run h≠some (out,a):=by intro u e;simp only[HM.run,Zaa,Zal]at e;obtain⟨rfl,rfl⟩:=e;cases ho
 cases s<;>simp only[aop]at hm<;>first|exact lf _ hm|exact hf _ hm|exact d _ hm|(simp only[HM.run,reduceCtorEq]at hm;done)|skip
 rename_i m x xs
 cases m with|heap=>simp[SOp.still]at hc|pure=>
  unfold aCall at hm;split at hm;·simp only[HM.run,Zaa,Zal]at hm;obtain⟨rfl,rfl⟩:=hm;cases ho
  ·simp[HM.run]at hm
  simp[HM.run]at hm|borrow=>
  unfold aCall at hm;split at hm;·simp only at hm;obtain⟨b,g,f,c⟩:=run_bind hm;simp only[HM.run,Zaa,Zal]at c;obtain⟨rfl,rfl⟩:=c;cases ho
  ·simp[HM.run]at hm
  simp[HM.run]at hm
theorem StepX.mono{s}{fp}(d:StepX P i s T h v h1 fp)(hc:s.still=true){b}(c:h.get b≠none):h1.get b≠none:=by obtain⟨out,k,hm,ho⟩:=d;have a:=HM.Qsx _ h out k hm b c;match out,hm,ho with|.val u,hm,ho=>obtain⟨_,rfl,_⟩:=ho;exact a|.call .pure f args,hm,ho=>obtain⟨_,rfl,_⟩:=ho;exact a|.call .borrow f args,hm,ho=>obtain⟨_,_,rfl,_⟩:=ho;exact a|.call .heap f args,hm,ho=>exact(QiE rfl hc hm).elim|.round b g args,hm,ho=>exact(QiE rfl hc hm).elim
theorem StepV.mono{fp}(a:StepV P i s T h v h1 fp)(hc:s.op.still=true){b}(c:h.get b≠none):h1.get b≠none:=by
 unfold StepV at a;split at a;·exact a.mono hc c
 obtain⟨t,_,a⟩:=a;split at a;·grind[StepX.mono]
 simp_all
def newFP(i:Nat)(h h1:Heap)(fp:FP):Prop:=fp.all=false/\(∀b,b∈fp.R\/b∈fp.W->b=i/\h.get i=none/\h1.get i≠none)
theorem Qfe(hm:(HM.new .dyn i x fun b g=>.ret (r b g)).run h=some (v,h1)):newFP i h h1 (fpOf ((hval (HM.new .dyn i x fun b g=>.ret (r b g))).fp h)):=by unfold HM.new at hm⊢;simp only[HM.run]at hm;simp only[hval,HM.bind,HM.fp];cases a:h.get i with|some z=>rw[a]at hm;simp[HM.run]at hm|none=>rw[a]at hm;obtain⟨d,hm⟩:=Qa2 hm;simp only[HM.run,Zaa,Zal]at hm;obtain⟨rfl,rfl⟩:=hm;refine⟨rfl,fun b c=>?_⟩;simp only[fpOf,HM.bind,HM.fp,ZaS,or_self,Zax,Za1,or_false]at c;refine⟨c,a,?_⟩;rw[Zcd _ d];simp
theorem Qqp:newFP i h h1 (fpOf ([],[])):=⟨rfl,fun b a=>by simp[fpOf]at a⟩
theorem StepX.fresh{s}{fp}(a:StepX P i s T h v h1 fp)(hc:s.fresh=true):newFP i h h1 fp:=by
 obtain⟨out,d,hm,ho⟩:=a;have key:∀m:HM AV,aop i T s=hval m->(∀v h1,m.run h=some (v,h1)->newFP i h h1 (fpOf ((hval m).fp h)))->newFP i h h1 fp:=by intro m e f;rw[e]at hm;obtain⟨u,g,n,he⟩:=QaS hm;simp_all
 cases s<;>try(cases hc;done)
 ·exact bLctL
 ·exact bLctL
 ·rename_i fz s sz len z k;cases fz<;>try(cases hc;done)
  cases s<;>try(cases hc;done)
  refine key _ rfl fun v h1 hm=>?_;unfold aBuildSlice at hm⊢;split at hm
  ·rename_i cs hf;split at hm;·simp_all[Qfe]
   grind[HM.run]
  grind[HM.run]
 ·rename_i s;cases s<;>try(cases hc;done)
  refine key _ rfl fun v h1 hm=>?_;simp_all[aMakeMap,Qfe]
 rename_i s sz b z l c;cases s<;>try(cases hc;done)
 refine key _ rfl fun v h1 hm=>?_;unfold aMakeSlice at hm⊢;split at hm
 ·split at hm;·simp_all[Qfe]
  grind[HM.run]
 grind[HM.run]
theorem StepV.fresh{fp}(a:StepV P i s T h v h1 fp)(hc:s.op.fresh=true):newFP i h h1 fp:=by
 unfold StepV at a;split at a;·exact a.fresh hc
 obtain⟨t,_,a⟩:=a;split at a;·exact StepX.fresh a hc
 obtain⟨_,rfl,rfl⟩:=a;exact Qqp
def HM.seer{α}:HM α->Prop|.ret _=>True|.fail=>True|.look _ k=>k none=.fail/\∀x,(k x).seer|.put _ _ _=>False
variable{m:HM α}{k:List AV->HM α}
theorem HM.QtD(m:HM α):m.seer->∀h a h1,m.run h=some (a,h1)->(m.fp h).2=[]/\∀b∈(m.fp h).1,h.get b≠none:=by
 induction m with|ret a=>intro _ h a h1 _;exact⟨rfl,fun b hb=>by simp[HM.fp]at hb⟩|fail=>intro _ h a h1 hm;simp[HM.run]at hm|look b k ih=>
  rintro⟨hn,hr⟩h a h1 hm;simp only[HM.run]at hm;obtain⟨k1,k2⟩:=ih _ (hr _) h a h1 hm;refine⟨k1,fun b' hb'=>?_⟩;simp only[HM.fp,Zax]at hb';rcases hb' with rfl|hb';·grind[HM.run]
  exact k2 b' hb'|put b x k ih=>intro hr;exact hr.elim
theorem HM.Qqq{β}{f:α->HM β}(h1:m.seer)(d:∀a,(f a).seer):(m.bind f).seer:=by induction m with|ret a=>exact d a|fail=>trivial|look b k c=>exact⟨by simp only[h1.1];rfl,fun x=>c x (h1.2 x)⟩|put b x k c=>exact h1.elim
theorem HM.Ql4(o:Option α):(HM.opt o).seer:=by cases o<;>trivial
theorem HM.QpG{b g}(a:∀cs,(k cs).seer):(HM.cells b g k).seer:=by refine⟨rfl,fun x=>?_⟩;match x with
 |some (.cells c cs)=>simp only;cases Nat.beq c g<;>first|exact trivial|exact a cs
 |some (.map _ _)=>trivial|some (.dead _)=>trivial|some (.loop ..)=>trivial|none=>trivial
theorem Qqr(n)(x):(aLoad n x).seer:=by
 unfold aLoad;split
 ·refine HM.QpG fun cs=>?_;split;·exact HM.Ql4 _
  split<;>trivial
 ·split;·exact HM.Ql4 _
  split<;>trivial
 trivial
theorem Qsy(k)(x):(aLenC k x).seer:=by
 unfold aLenC;split
 ·unfold aLen;split<;>try trivial
  refine⟨rfl,fun y=>?_⟩;match y with|some (.map a es)=>simp only;rename_i b g _;cases Nat.beq a g<;>trivial|some (.cells _ _)=>trivial|some (.dead _)=>trivial|some (.loop ..)=>trivial|none=>trivial
 trivial
theorem StepV.sees{fp}(d:StepV P i s T h v h1 fp)(hc:s.op.sees=true):fp.all=false/\fp.W=[]/\∀b∈fp.R,h.get b≠none:=by
 have key:∀{s:SOp},s.sees=true->StepX P i s T h v h1 fp->fp.all=false/\fp.W=[]/\∀b∈fp.R,h.get b≠none:=by
  intro s hc d;obtain⟨out,l,hm,ho⟩:=d;have fin:∀m:HM AV,m.seer->aop i T s=hval m->fp.all=false/\fp.W=[]/\∀b∈fp.R,h.get b≠none:=by intro m a e;have c:(hval m).seer:=HM.Qqq a fun _=>trivial;rw[e]at hm;have f:=HM.QtD _ c h _ _ hm;obtain⟨u,g,k,he⟩:=QaS hm;cases he;obtain⟨rfl,rfl,rfl⟩:=ho;rw[e];exact⟨rfl,f.1,f.2⟩
  cases s<;>try(cases hc;done)
  ·exact fin _ (Qqr _ _) rfl
  exact fin _ (Qsy _ _) rfl
 unfold StepV at d;grind
theorem Qqs{l}{m}{ft}(f:StepV P bi s A.T A.h v h1 fs)(k:StepV P l t B.T B.h u m ft)(hc:s.op.sees=true\/s.op.fresh=true)(hf:t.op.fresh=true)(d:s.op.still=true)(hm:∀b,h1.get b≠none->B.h.get b≠none):fs.apart ft=true:=by
 obtain⟨q,r⟩:=k.fresh hf;have key:fs.all=false/\∀b,b∈fs.R\/b∈fs.W->B.h.get b≠none:=by
  rcases hc with h|h;·obtain⟨g,i,n⟩:=f.sees h;refine⟨g,fun b w=>hm b (f.mono d ?_)⟩;simp_all
  obtain⟨g,i⟩:=f.fresh h;grind
 obtain⟨g,i⟩:=key;have p:∀xs a:List Nat,(∀b∈xs,∀c∈a,b≠c)->disj xs a=true:=by intro xs a o;unfold disj;grind
 unfold FP.apart;grind
theorem Qgp{g}{ft}(d:StepV P bi s A.T A.h v h1 fs)(c:StepV P i t B.T B.h u g ft)(hc:s.op.cls=0\/t.op.cls=0\/(s.op.cls<=1/\t.op.cls<=1)):fs.apart ft=true:=by
 rcases hc with h|h|⟨h,f⟩;·obtain⟨a,b,k⟩:=d.cls (by omega);grind[FP.apart,disj]
 ·obtain⟨a,b,k⟩:=c.cls (by omega);grind[FP.apart,disj]
 obtain⟨a,b,_⟩:=d.cls h;obtain⟨l,b2,_⟩:=c.cls f;simp_all[FP.apart,disj]
theorem RunL.each{base}:∀{l:List Nat}{A C:St},RunL P base sops fpf l A C->∀i∈l,∃(s:SOper)(B:St)(v:AV)(h1:Heap),sops[i]?=some s/\StepV P (base+i) s B.T B.h v h1 (fpf i)
 |[],A,C,_,i,hi=>by simp at hi|j::l,A,C,a,i,hi=>by
  obtain⟨B,⟨s,v,h1,b,c,rfl⟩,a⟩:=a;rcases Zax.1 hi with h|h;·grind
  exact a.each i h
theorem RunL.grow{base}(a:(sops.all fun s=>s.op.still)=true):∀{l:List Nat}{A C:St},RunL P base sops fpf l A C->∀i∈l,∃(s:SOper)(B:St)(v:AV)(h1:Heap),sops[i]?=some s/\StepV P (base+i) s B.T B.h v h1 (fpf i)/\∀b,A.h.get b≠none->B.h.get b≠none
 |[],A,C,_,i,hi=>by simp at hi|j::l,A,C,c,i,hi=>by
  obtain⟨B,⟨s,v,h1,g,d,rfl⟩,c⟩:=c;rcases Zax.1 hi with h|h;·grind
  obtain⟨t,D,u,k,e,f,hm⟩:=c.grow a i h;exact⟨t,D,u,k,e,f,fun b m=>hm b (d.mono (ZaH.1 a s (Zac g)) m)⟩
theorem RunL.two{base}(c:(sops.all fun s=>s.op.still)=true):∀{g d:List Nat}{A C:St}{k:Nat},RunL P base sops fpf (g++k::d) A C->∀i∈d,∃(s t:SOper)(B D:St)(v u:AV)(h1 f:Heap),sops[k]?=some s/\sops[i]?=some t/\StepV P (base+k) s B.T B.h v h1 (fpf k)/\StepV P (base+i) t D.T D.h u f (fpf i)/\∀b,h1.get b≠none->D.h.get b≠none|[],d,A,C,k,a,i,hi=>by obtain⟨B,⟨s,v,h1,l,h,rfl⟩,a⟩:=a;obtain⟨t,D,u,f,e,m,hm⟩:=a.grow c i hi;exact⟨s,t,A,D,v,u,h1,f,l,e,h,m,hm⟩|_::g,d,A,C,k,a,i,hi=>by obtain⟨B,_,a⟩:=a;exact RunL.two c a i hi
theorem Ql5{n k}(a:k<n):List.range n=List.range k++k::List.range' (k+1) (n-k-1):=by
 have h1:n=k+(1+(n-k-1)):=by omega
 conv=>lhs;rw[h1,ZbR]
 rw[<-List.range'_append_1,ZbR];grind[Zb9]
theorem QtE{base}(n:freeB sops a=true)(f:RunL P base sops fpf (List.range sops.length) A C)(hp:∀p∈a,(fpf p.1).apart (fpf p.2)=true):Free sops fpf:=by
 unfold freeB at n;simp only[ZaH,Zat,Zab,Zbh]at n;refine⟨?_,?_⟩;·intro j s d k H;have w:j<sops.length:=(Zaj.1 d).1;simp_all
 intro k i l hi;rcases(n i hi).2 k l with h|h;·exact .inl (Qhp (sops:=sops) sops [] [] (by simp) rfl (by simp) i k h)
 right;intro s t d q;unfold pairOK at h;rw[d,q]at h;simp only[Zab,Zbh]at h;refine⟨h.1,?_⟩;obtain⟨v,B1,v1,h1,m,b⟩:=f.each k (by simp;omega);obtain⟨r,B2,v2,F,g,c⟩:=f.each i (by simp;omega);rw[d]at m;cases m;rw[q]at g;cases g;rcases h.2 with(((h|h)|h)|h)|h;·exact Qgp b c (.inl (by simpa using h))
 ·exact Qgp b c (.inr (.inl (by simpa using h)))
 ·grind[Qgp,Zaw]
 ·simp_all
 obtain⟨⟨z,x⟩,u⟩:=h;have o:(sops.all fun s=>s.op.still)=true:=u;rw[Ql5 (show k<sops.length by omega)]at f;obtain⟨v,r,B1,B2,E,B,G,y,m,g,q1,q2,hm⟩:=f.two o i (by grind);grind[Qqs]
theorem QdS:∀{os:List Oper}{a:List SOper},okOpers P N ops os a=true->os.length=a.length/\∀(i:Nat)(o:Oper),os[i]?=some o->∃s,a[i]?=some s/\okOper P N ops o s=true|[],[],_=>⟨rfl,fun i o h=>by simp at h⟩|[],_::_,h=>by simp[okOpers]at h|_::_,[],h=>by simp[okOpers]at h|o::os,s::a,h=>by simp only[okOpers,Zab]at h;obtain⟨h1,b⟩:=QdS h.2;grind
theorem QtF(h:okOpers P N ops ops.toList sops=true):Fits P N ops sops:=by obtain⟨h1,a⟩:=QdS h;exact⟨by simpa using h1,fun i o ho=>a i o (by simp_all)⟩
theorem Qff(n j)(d):(Array.replicate n false).getD j d=if j<n then false else d:=by
 by_cases h:j<n;·simp[h]
 simp[h]
theorem Ql6(n m)(h:n<=m):rest n (Array.replicate m false)=List.range n:=by unfold rest;apply ZbK.2;intro i hi;rw[Qff,if_pos (by grind)];rfl
theorem Qgq{ro}{base id}{a}(d:okRegion P N ops draw sops b=true)(f:RunL P base sops fpf (List.range sops.length) A C)(hp:∀p∈b,(fpf p.1).apart (fpf p.2)=true)(S:SRel N c A a w)(hQ:∀c' g w',SRel N c' C g w'->Evo c w c' w'->Q .normal g w'):(Code.region id ops draw).wpIn (FW ro) 0 P Q a w:=by unfold okRegion at d;simp only[Zab,Zbh,Zbq]at d;obtain⟨h1,h⟩:=d;have F:=QtF h1;cases draw with|false=>refine wpIn_region ?_;rw[F.size];exact Qf8 F hQ _ A c a w f S (.refl c w)|true=>
 obtain⟨hm,hf⟩:=h.resolve_left (by simp);refine wpIn_region_any hm ?_;have R:=QtE hf f hp;obtain⟨E1,H1⟩:=S.heap.drew;have S1:SRel N c A a w.drew:=⟨H1,fun i=>Zce (E1.ext S.heap.disj) _ _ (S.tmps i),S.size,S.defers.mono E1⟩;refine Qqo (base:=base) F R hQ ops.size _ A C c a w.drew (by simp) ?_ ?_ ?_ (.refl C) S1 E1;·rw[Ql6 _ _ (by rw[F.size];omega)];simp[F.size]
 ·intro j k;rw[Qff]at k;simp_all
 rw[Ql6 _ _ (by rw[F.size];omega)];exact f
def W(P:Program)(N:Nat)(d:SCode)(Q:SX->St->Prop)(A:St):Prop:=∀code,okCode P N code d=true->∀(c:Ctx (okc P))(a:Act)(w:World),SRel N c A a w->∀(ro:Option Nat),(d.rf=true->ro=none)->∀(Q':Exit->Act->World->Prop),(∀e B f g b,Q e B->SRel N f B g b->Evo c w f b->Q' e.toExit g b)->code.wpIn (FW ro) 0 P Q' a w
section rules
variable{N:Nat}{Q:SX->St->Prop}{A:St}
theorem W.mono(h:W P N f Q A)(k:∀e B,Q e B->Q' e B):W P N f Q' A:=fun code b c a w S ro d R m=>h code b c a w S ro d R fun e B g i l n S' E'=>m e B g i l (k e B n) S' E'
theorem W.congr(h:W P N f Q A)(e:SEq B A):W P N f Q B:=fun code b c a w S ro d R g=>h code b c a w (S.congr e) ro d R g
theorem W.skip(h:Q .normal A):W P N .skip Q A:=by intro code b c a w S ro d Q' f;cases code<;>simp only[okCode,Zar]at b;exact wpIn_skip (f .normal A c a w h S (.refl c w))
theorem W.ret(h:Q .ret A):W P N .ret Q A:=by intro code b c a w S ro d Q' f;cases code<;>simp only[okCode,Zar]at b;exact wpIn_ret (f .ret A c a w h S (.refl c w))
theorem W.exit(h:Q (.exit i) A):W P N (.exit i) Q A:=by intro code b c a w S ro d Q' f;cases code<;>simp only[okCode,Zar,beq_iff_eq]at b;subst b;exact wpIn_exit (f (.exit _) A c a w h S (.refl c w))
theorem W.seq{x:SCode}(h:W P N x (fun e B=>match e with|.normal=>W P N y Q B|e=>Q e B) A):W P N (.seq x y) Q A:=by intro code b c a w S ro d Q' l;cases code<;>simp only[okCode,Zar,Zab]at b;rename_i n cy;refine wpIn_seq (h n b.1 c a w S ro (fun e=>d (by simp[SCode.rf,e])) _ ?_);intro e B g m k f S' E';cases e with|normal=>exact f cy b.2 g m k S' ro (fun e=>d (by simp[SCode.rf,e])) Q' fun q B2 s o r p S2 E2=>l q B2 s o r p S2 (E'.trans E2)|exit i=>exact l (.exit i) B g m k f S' E'|ret=>exact l .ret B g m k f S' E'
theorem W.cond{x}{t}(h:ev A.T x=.bool t)(h1:t=true->W P N y Q A)(k:t=false->W P N z Q A):W P N (.cond x y z) Q A:=by intro code b c a w S ro d Q' g;cases code<;>simp only[okCode,Zar,Zab]at b;rename_i o cy i;have f:=Qat S.tmps b.1.1;rw[h]at f;simp only[VRel]at f;refine wpIn_cond f ?_;cases t with|true=>exact h1 rfl cy b.1.2 c a w S ro (fun e=>d (by simp[SCode.rf,e])) Q' g|false=>exact k rfl i b.2 c a w S ro (fun e=>d (by simp[SCode.rf,e])) Q' g
theorem W.block{b:SCode}(h:W P N b (fun e B=>match e with|.exit j=>if j=i then Q .normal B else Q (.exit j) B|e=>Q e B) A):W P N (.block i b) Q A:=by intro code d c a w S ro o Q' n;cases code<;>simp only[okCode,Zar,Zab,beq_iff_eq]at d;rename_i j p;obtain⟨rfl,d⟩:=d;refine wpIn_block (h p d c a w S ro (fun e=>o (by simp[SCode.rf,e])) _ ?_);intro e B m g l f S' E';cases e with|normal=>exact n .normal B m g l f S' E'|ret=>exact n .ret B m g l f S' E'|exit k=>
 exact b1WW0
theorem lk_rm(T)(l)(i):lk (rm T l) i=if l.any (Nat.beq i)then .any else lk T i:=by induction T with|nil=>simp[rm,lk]|cons p T b=>obtain⟨j,u⟩:=p;simp only[rm];cases c:l.any (Nat.beq j)with
 |true=>
  simp only[cond_true,b,lk];by_cases e:j=i;·simp_all
  have a:Nat.beq j i=false:=by simp_all[ZaJ]
  rw[a];simp|false=>
  simp only[cond_false,lk,b];by_cases e:j=i;·grind
  have a:Nat.beq j i=false:=by simp_all[ZaJ]
  rw[a];simp
theorem SRel.forget{a}(S:SRel N c ⟨T,h⟩ a w)(l):SRel N c ⟨rm T l,h⟩ a w:=⟨S.heap,fun i=>by rw[lk_rm];split<;>first|exact S.tmps i|simp[VRel],S.size,S.defers⟩
theorem W.region(base)(fpf)(k:RunL P base sops fpf (List.range sops.length) A C)(hp:∀p∈b,(fpf p.1).apart (fpf p.2)=true)(hQ:Q .normal ⟨rm C.T dead,C.h⟩):W P N (.region sops b dead) Q A:=by intro code d c a w S ro i Q' f;cases code<;>simp only[okCode,Zar]at d;exact Qgq d k hp S fun l h g S' E'=>f .normal _ l h g hQ (S'.forget dead) E'
end rules
end Go.AM
