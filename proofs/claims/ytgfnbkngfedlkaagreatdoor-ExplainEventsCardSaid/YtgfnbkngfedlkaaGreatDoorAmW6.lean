/- Lemmas on the way to ExplainEventsCardSaid. Conditions: none of ours. -/
import Derived.Orders
import Derived.Test.YtgfnbkngfedlkaaGreatDoorAmW5
set_option linter.unusedSectionVars false
set_option maxHeartbeats 32000000
set_option maxRecDepth 100000
set_option linter.unusedVariables false
set_option linter.unusedSimpArgs false
namespace Go.AM
variable{P:Program}
mutual theorem VRel.noRef{ok:Okc}{c c':Ctx ok}{w:World}(hF:∀k,c.F k->c'.F k):∀(x:AV)(v:Value),noRef x=true->VRel c w x v->VRel c' w x v
 |.any,_,_,_=>by simp[VRel]|.bool b,_,_,h=>by simpa[VRel]using h|.int k n,_,_,h=>by simpa[VRel]using h|.str s,_,_,h=>by simpa[VRel]using h|.agg cs,v,hn,h=>by simp only[VRel]at h⊢;simp only[AM.noRef]at hn;obtain⟨vs,rfl,h⟩:=h;exact⟨vs,rfl,VRels.noRef hF cs _ hn h⟩|.tup cs,v,hn,h=>by simp only[VRel]at h⊢;simp only[AM.noRef]at hn;obtain⟨vs,rfl,h⟩:=h;exact⟨vs,rfl,VRels.noRef hF cs _ hn h⟩|.nilptr,_,_,h=>by simpa[VRel]using h|.ptr b g off,v,hn,h=>by simp[AM.noRef]at hn|.fptr cs,v,hn,h=>by simp only[VRel]at h⊢;simp only[AM.noRef]at hn;obtain⟨cb,off,C,e,fr,h1,h2,h3,h4⟩:=h;exact⟨cb,off,C,e,fr,h1,hF _ h2,h3,VPre.noRef hF cs _ hn h4⟩|.nilsl,_,_,h=>by simpa[VRel]using h|.sl b g off len sz,v,hn,h=>by simp[AM.noRef]at hn|.fsl cs len sz,v,hn,h=>by
  simp only[VRel]at h⊢;simp only[AM.noRef]at hn;rcases h with h|⟨cb,off,cap,C,e,fr,h1,h2,h3,h4,h5,h6⟩;·exact .inl h
  ·exact .inr ⟨cb,off,cap,C,e,fr,h1,h2,h3,hF _ h4,h5,VPre.noRef hF cs _ hn h6⟩|.esl,_,_,h=>by simpa[VRel]using h|.nsl,_,_,h=>by simpa[VRel]using h|.nilmap,_,_,h=>by simpa[VRel]using h|.map b g,v,hn,h=>by simp[AM.noRef]at hn|.fmap ks vs,v,hn,h=>by simp only[VRel]at h⊢;simp only[AM.noRef,Zaa]at hn;obtain⟨mb,es,clock,h1,h2,h3,h4,h5,h6,h7⟩:=h;exact⟨mb,es,clock,h1,hF _ h2,h3,h4,h5,VRels.noRef hF ks _ hn.1 h6,VRels.noRef hF vs _ hn.2 h7⟩|.nilfn,_,_,h=>by simpa[VRel]using h|.fn f x y,v,hn,h=>by simp only[VRel]at h⊢;simp only[AM.noRef,Zaa]at hn;obtain⟨x',y',h1,h2,h3⟩:=h;exact⟨x',y',h1,VRels.noRef hF x _ hn.1 h2,VRels.noRef hF y _ hn.2 h3⟩|.nilif,_,_,h=>by simpa[VRel]using h|.yld b g,v,hn,h=>by simp[AM.noRef,AM.flatV]at hn|.typed _ _ _,v,hn,h=>by simp[AM.noRef,AM.flatV]at hn|.ifc t x,v,hn,h=>by simp only[VRel]at h⊢;simp only[AM.noRef]at hn;obtain⟨x',h1,h2⟩:=h;exact⟨x',h1,VRel.noRef hF x _ hn h2⟩theorem VRels.noRef{ok:Okc}{c c':Ctx ok}{w:World}(hF:∀k,c.F k->c'.F k):∀(x:List AV)(v:List Value),noRefs x=true->VRels c w x v->VRels c' w x v|[],_,_,h=>by simpa[VRels]using h|x::xs,v,hn,h=>by simp only[VRels]at h⊢;simp only[AM.noRefs,Zaa]at hn;obtain⟨u,us,h1,h2,h3⟩:=h;exact⟨u,us,h1,VRel.noRef hF x _ hn.1 h2,VRels.noRef hF xs _ hn.2 h3⟩theorem VPre.noRef{ok:Okc}{c c':Ctx ok}{w:World}(hF:∀k,c.F k->c'.F k):∀(x:List AV)(v:List Value),noRefs x=true->VPre c w x v->VPre c' w x v|[],_,_,_=>by simp[VPre]|x::xs,v,hn,h=>by simp only[VPre]at h⊢;simp only[AM.noRefs,Zaa]at hn;obtain⟨u,us,h1,h2,h3⟩:=h;exact⟨u,us,h1,VRel.noRef hF x _ hn.1 h2,VPre.noRef hF xs _ hn.2 h3⟩end
mutual theorem VRel.flat{ok:Okc}{c c':Ctx ok}{w w':World}:∀(x:AV)(v:Value),flatV x=true->VRel c w x v->VRel c' w' x v|.any,_,_,_=>by simp[VRel]|.bool b,_,_,h=>by simpa[VRel]using h|.int k n,_,_,h=>by simpa[VRel]using h|.str s,_,_,h=>by simpa[VRel]using h|.agg cs,v,hn,h=>by simp only[VRel]at h⊢;simp only[flatV]at hn;obtain⟨vs,rfl,h⟩:=h;exact⟨vs,rfl,VRels.flat cs _ hn h⟩|.tup cs,v,hn,h=>by simp only[VRel]at h⊢;simp only[flatV]at hn;obtain⟨vs,rfl,h⟩:=h;exact⟨vs,rfl,VRels.flat cs _ hn h⟩|.nilptr,_,_,h=>by simpa[VRel]using h|.ptr b g off,v,hn,h=>by simp[flatV]at hn|.fptr cs,v,hn,h=>by simp[flatV]at hn|.nilsl,_,_,h=>by simpa[VRel]using h|.sl b g off len sz,v,hn,h=>by simp[flatV]at hn|.fsl cs len sz,v,hn,h=>by simp[flatV]at hn|.esl,_,_,h=>by simpa[VRel]using h|.nsl,_,_,h=>by simpa[VRel]using h|.nilmap,_,_,h=>by simpa[VRel]using h|.map b g,v,hn,h=>by simp[flatV]at hn|.fmap ks vs,v,hn,h=>by simp[flatV]at hn|.nilfn,_,_,h=>by simpa[VRel]using h|.fn f x y,v,hn,h=>by simp only[VRel]at h⊢;simp only[flatV,Zaa]at hn;obtain⟨x',y',h1,h2,h3⟩:=h;exact⟨x',y',h1,VRels.flat x _ hn.1 h2,VRels.flat y _ hn.2 h3⟩|.nilif,_,_,h=>by simpa[VRel]using h|.yld b g,v,hn,h=>by simp[AM.noRef,AM.flatV]at hn|.typed _ _ _,v,hn,h=>by simp[AM.noRef,AM.flatV]at hn|.ifc t x,v,hn,h=>by simp only[VRel]at h⊢;simp only[flatV]at hn;obtain⟨x',h1,h2⟩:=h;exact⟨x',h1,VRel.flat x _ hn h2⟩theorem VRels.flat{ok:Okc}{c c':Ctx ok}{w w':World}:∀(x:List AV)(v:List Value),flatVs x=true->VRels c w x v->VRels c' w' x v|[],_,_,h=>by simpa[VRels]using h|x::xs,v,hn,h=>by simp only[VRels]at h⊢;simp only[flatVs,Zaa]at hn;obtain⟨u,us,h1,h2,h3⟩:=h;exact⟨u,us,h1,VRel.flat x _ hn.1 h2,VRels.flat xs _ hn.2 h3⟩end
def only{ok:Okc}(F:Nat->Prop)(n:Nat:=0):Ctx ok:={ρ:=fun _ _=>none,F:=F,O:=fun _=>False,base:=n}
theorem HRel.only{ok:Okc}{F:Nat->Prop}{n:Nat}{w:World}(d:∀k,F k->k<w.heap.size):HRel (only (ok:=ok) F n) .e w:=⟨fun _ _ _=>rfl,fun b x a=>by simp[Tr.get]at a,fun b x a=>by simp[Tr.get]at a,fun b g m f i base c l=>by obtain⟨x,a,_⟩:=l;simp[Tr.get]at a,fun _ _ h=>h,d,fun _ h=>h.elim⟩
theorem PSpec.pure{f:Nat}{args:List AV}{v:AV}{c:Ctx (okc P)}{h:Heap}{w:World}{a:Array Value}(S:PSpec P f args v)(H:HRel c h w)(r:VRels c w args a.toList):Callable P f/\Calls P f a w (Rets P c w h v):=by
 obtain⟨q,m,s,hc,o⟩:=S;refine⟨hc,(o (only c.F) w a (HRel.only H.inF) (VRels.noRef (c:=c) (c':=only c.F) (fun _ h=>h) _ _ q r)).mono ?_⟩;rintro e i⟨p,d,rfl,E,H',V⟩;have b:∀k,k<w.heap.size->i.heap[k]?=w.heap[k]?:=fun k b=>E.keep k b (fun h=>h);obtain⟨E1,H1⟩:=H.grow E.os E.tape E.output E.size b;have g:∀k,d.F k->¬c.O k/\k<i.heap.size:=by
  intro k b;refine⟨fun l=>?_,H'.inF k b⟩;rcases E.frzNew k b with h|h|h;·exact H.disj k h l
  ·exact h
  have:=H.inO k l;omega
 refine⟨p,{c with F:=d.F},rfl,?_,H1.frozen d.F (fun k b=>E.frz k b) g,VRel.noRef (c:=d) (c':={c with F:=d.F}) (fun _ h=>h) _ _ m V⟩;refine⟨E1.os,E1.tape,E1.output,E1.size,E1.shape,E1.keep,E1.rho,fun k b=>E.frz k b,fun k b=>?_,E1.own,rfl⟩;rcases E.frzNew k b with h|h|h;·exact .inl h
 ·exact h.elim
 omega
theorem PSpec.borrow{f:Nat}{args:List AV}{v:AV}{c:Ctx (okc P)}{h:Heap}{w:World}{a:Array Value}(S:PSpec P f args v)(m:flatV v=true)(H:HRel c h w)(g:VRels (lent c) w args a.toList):Callable P f/\Calls P f a w (Rets P c w h v):=by obtain⟨d,r,s,hc,o⟩:=S;have l:∀k,(c.F k\/c.O k)->k<w.heap.size:=fun k b=>b.elim (H.inF k) (H.inO k);refine⟨hc,(o (only fun k=>c.F k\/c.O k) w a (HRel.only l) (VRels.noRef (c:=lent c) (c':=only fun k=>c.F k\/c.O k) (fun _ h=>h) _ _ d g)).mono ?_⟩;rintro e i⟨p,q,rfl,E,H',V⟩;have b:∀k,k<w.heap.size->i.heap[k]?=w.heap[k]?:=fun k b=>E.keep k b (fun h=>h);obtain⟨E1,H1⟩:=H.grow E.os E.tape E.output E.size b;exact⟨p,c,rfl,E1,H1,VRel.flat _ _ m V⟩
theorem HSpec.heap{f:Nat}{args:List AV}{v:AV}{c:Ctx (okc P)}{h h':Heap}{w:World}{a:Array Value}(S:HSpec P f args h v h')(H:HRel c h w)(b:VRels c w args a.toList):Callable P f/\Calls P f a w (Rets P c w h' v):=⟨S.1,S.2 c w a H b⟩
theorem VPre.flat{ok:Okc}{c c':Ctx ok}{w w':World}:∀{xs:List AV}{vs:List Value},flatVs xs=true->VPre c w xs vs->VPre c' w' xs vs|[],_,_,_=>by simp[VPre]|x::xs,vs,hf,b=>by simp only[flatVs,Zaa]at hf;simp only[VPre]at b⊢;obtain⟨v,a,rfl,d,f⟩:=b;exact⟨v,a,rfl,VRel.flat _ _ hf.1 d,VPre.flat hf.2 f⟩
theorem Qkc{ok:Okc}{b g:Nat}{c c1:Ctx ok}{w:World}(h1:c1.ρ b g=c.ρ b g)(f:∀k,c.F k->c1.F k):∀{args:List AV}{vs:List Value},own1 b g args=true->VRels c w args vs->VRels c1 w args vs
 |[],vs,_,d=>by grind[VRels]|x::xs,vs,ho,d=>by
  simp only[VRels]at d⊢;obtain⟨v,a,rfl,h,i⟩:=d;have rest:own1 b g xs=true/\VRel c1 w x v:=by
   cases x<;>simp only[own1,Zaa,beq_iff_eq]at ho<;>first|exact⟨ho.2,VRel.noRef f _ _ ho.1 h⟩|skip
   obtain⟨⟨rfl,rfl⟩,ho⟩:=ho;simp_all[VRel]
  exact⟨v,a,rfl,rest.2,Qkc h1 f rest.1 i⟩
theorem GSpec.give{f b g:Nat}{args xs:List AV}{v:AV}{c:Ctx (okc P)}{h:Heap}{w:World}{d:Array Value}(S:GSpec P f args b g xs v)(H:HRel c h w)(J:h.get b=some (.cells g xs))(Z:VRels c w args d.toList):Callable P f/\Calls P f d w (Rets P c w (h.set b (.dead g)) v):=by
 obtain⟨hc,ho,hv,hx,t,hs⟩:=S;have G:∀{y:Blk}k,(one b y).get k=if k=b then some y else none:=fun{y}k=>QsZ t k;have o:Live h b g:=⟨_,J,rfl,fun _=>by simp⟩;let c1:Ctx (okc P):={ρ:=fun k y=>if k=b then c.ρ k y else none,F:=c.F,O:=fun k=>∃base,c.ρ b g=some (.loc k base),base:=c.base};have s:∀y,c1.ρ b y=c.ρ b y:=fun y=>if_pos rfl;have r:∀k,c1.O k->c.O k:=fun k⟨base,a⟩=>H.owned o a;have H1:HRel c1 (one b (.cells g xs)) w:=by
  refine⟨fun k a y=>?_,fun k x a y q=>?_,fun k x a=>?_,fun k y R T p base i U N _ _=>?_,fun k A m=>H.disj k A (r k m),H.inF,fun k m=>H.inO k (r k m)⟩;·grind
  ·rw[G]at a;split at a;·rename_i e;subst e;cases a;rw[s];exact H.later k _ J y q
   cases a
  ·rw[G]at a;split at a
   ·rename_i e;subst e;cases a;rcases H.blk k _ J with⟨h1,Q⟩|⟨p,base,C,e,fr,h1,Q,h3,X,h5,h6⟩;·exact .inl ⟨(s _).trans h1,Q⟩
    exact .inr ⟨p,base,C,e,fr,(s _).trans h1,⟨base,h1⟩,h3,X,h5,VPre.flat hx h6⟩
   cases a
  grind
 refine⟨hc,(hs c1 w d H1 (Qkc (s g) (fun _ h=>h) ho Z)).mono ?_⟩;rintro e Y⟨cv,z,rfl,E,M,V⟩;have u:∀k,z.F k\/z.O k->c.F k\/c1.O k\/w.heap.size<=k:=fun k a=>a.elim (E.frzNew k) fun h=>.inr (E.own k h);let c2:Ctx (okc P):={ρ:=c.ρ,F:=fun k=>z.F k\/z.O k,O:=fun k=>c.O k/\¬(z.F k\/z.O k),base:=c.base};have E2:Evo c w c2 Y:=⟨E.os,E.tape,E.output,E.size,E.shape,fun k a m=>E.keep k a fun h=>m (r k h),fun _ _ _ h=>h,fun k a=>.inl (E.frz k a),fun k a=>(u k a).elim .inl fun h=>h.elim (fun h=>.inr (.inl (r k h))) fun h=>.inr (.inr h),fun k a=>.inl a.1,rfl⟩;refine⟨cv,c2,rfl,E2,?_,VRel.noRef (c:=lent z) (c':=c2) (fun _ h=>h) _ _ hv V⟩;have l:∀k,(h.set b (.dead g)).get k=if k=b then some (.dead g)else h.get k:=fun k=>Zck _ t k _;have I:∀k y,Live (h.set b (.dead g)) k y->Live h k y:=by
  rintro k y⟨x,a,hg,K⟩;rw[l]at a;split at a;·grind
  exact⟨x,a,hg,K⟩
 refine⟨fun k a y=>?_,fun k x a y q=>?_,fun k x a=>?_,fun k y R T p base i U N p1 p2=>H.inj k y R T p base i (I _ _ U) (I _ _ N) p1 p2,fun k A m=>m.2 A,M,fun k m=>ZaU (H.inO k m.1) E.size⟩
 ·rw[l]at a;split at a;·cases a
  exact H.fresh k a y
 ·rw[l]at a;split at a;·rename_i e;subst e;cases a;exact H.later k _ J y q
  exact H.later k x a y q
 rw[l]at a;split at a;·cases a;trivial
 rename_i e;refine Zcn (E2.ext H.disj) (fun p base K hp=>?_) (H.blk k x a);have m:=H.owned ⟨x,a,rfl,K⟩ hp;have B:¬c1.O p:=by rintro⟨i,L⟩;exact e (H.inj _ _ _ _ _ _ _ ⟨x,a,rfl,K⟩ o hp L)
 refine⟨⟨m,fun A=>?_⟩,E.keep p (H.inO _ m) B⟩;rcases u p A with h1|h1|h1;·exact H.disj p h1 m
 ·exact B h1
 have:=H.inO p m;omega
theorem GSpec.heap{f b g:Nat}{args xs:List AV}{v:AV}{h:Heap}(S:GSpec P f args b g xs v)(a:h.get b=some (.cells g xs)):HSpec P f args h v (h.set b (.dead g)):=⟨S.1,fun _ _ _ H c=>(S.give H a c).2⟩
theorem NSpec.new{f i len sz:Nat}{U ys:List AV}{c:Ctx (okc P)}{h:Heap}{w:World}{m:Array Value}{F0:Nat->Prop}(S:NSpec P f U ys len sz)(H:HRel c h w)(K:∀k,c.F k->F0 k)(hFO:∀k,F0 k->c.F k\/c.O k)(N:flatVs ys=true\/(noRefs ys=true/\∀k,F0 k->c.F k))(ha:VRels (only (ok:=okc P) F0) w U m.toList)(A:i<lim)(hi:h.get i=none):Calls P f m w (Rets P c w (h.set i (.cells 0 ys)) (.sl i 0 0 len sz)):=by
 obtain⟨_,_,b,g,off,cs,h',d,hoff,hb,_,hs⟩:=S;have hF0:∀k,F0 k->k<w.heap.size:=fun k a=>(hFO k a).elim (H.inF k) (H.inO k);refine(hs (only F0) w m (HRel.only hF0) ha).mono ?_;rintro e Y⟨cv,X,rfl,E,H',V⟩;have l:∀k,k<w.heap.size->Y.heap[k]?=w.heap[k]?:=fun k a=>E.keep k a (fun h=>h);have Q:∀k,X.O k->w.heap.size<=k:=fun k s=>(E.own k s).elim (fun h=>h.elim) id;obtain⟨E1,H1⟩:=H.grow E.os E.tape E.output E.size l;let F2:Nat->Prop:=fun k=>X.F k/\(c.F k\/w.heap.size<=k);have I:∀k,c.F k->F2 k:=fun k a=>⟨E.frz k (K k a),.inl a⟩;have H2:HRel ({c with F:=F2}:Ctx (okc P)) h Y:=H1.frozen F2 I fun k a=>⟨fun s=>a.2.elim (fun h=>H.disj k h s) fun h=>(by have:=H.inO k s;omega),H'.inF k a.1⟩;have E2:Evo c w ({c with F:=F2}:Ctx (okc P)) Y:=⟨E1.os,E1.tape,E1.output,E1.size,E1.shape,E1.keep,E1.rho,I,fun k a=>a.2.elim .inl fun h=>.inr (.inr h),E1.own,rfl⟩;have R:∀y,c.ρ i y=none:=fun y=>H.fresh i hi y;rcases H'.blk b _ hb with⟨hp,rfl⟩|⟨r,base,C,ty,fr,hp,s,hC,hun,hbs,z⟩
 ·simp only[VRel]at V;rcases V with⟨_,rfl,rfl,rfl⟩|⟨r,base,o,cap,C,ty,fr,u,_⟩;·simp only[List.drop_nil]at d;subst d;have B:=H2.putNil (b:=i) (g:=0) A (fun y _=>R y) (.inl (R 0));exact⟨_,_,rfl,E2.trans B.1,B.2,by simp_all[VRel,QaX]⟩
  simp_all
 simp only[VRel]at V;rcases V with⟨u,_⟩|⟨cb2,base2,o,cap,C2,ty2,fr2,u,rfl,hlc,T,hcap⟩;·simp_all
 rw[show X.ρ b g=_ from hp]at u;cases u;rw[hC]at T;cases T;have hcn:=Q r s;have hlen:=Qbe z;simp at hlen;have hy:=Qba off z;rw[ZaW,d]at hy;have hcF:¬X.F r:=fun h=>H'.disj r h s;have hcO:¬c.O r:=fun h=>by have:=H.inO r h;omega
 let c2:Ctx (okc P):=({c with F:=F2}:Ctx (okc P)).with i 0 (.loc r (base+off)) (some r);have G:∀k y,k≠i->c2.ρ k y=c.ρ k y:=fun k y hne=>by show(if k=i/\y=0 then _ else c.ρ k y)=_;simp_all
 have hr2:∀y,y≠0->c2.ρ i y=none:=fun y hne=>by show(if i=i/\y=0 then _ else c.ρ i y)=_;simp_all
 have hr0:c2.ρ i 0=some (.loc r (base+off)):=QaX;have J:∀k,c2.O k->c.O k\/k=r:=fun k a=>a.imp id fun h=>Option.some.inj h;have E3:Evo c w c2 Y:=⟨E1.os,E1.tape,E1.output,E1.size,E1.shape,fun k h1 _=>l k h1,fun k y p hp=>by grind,I,fun k a=>a.2.elim .inl fun h=>.inr (.inr h),fun k a=>(J k a).elim .inl fun h=>.inr (by omega),rfl⟩;have q:∀k,(h.set i (.cells 0 ys)).get k=if k=i then some (.cells 0 ys)else h.get k:=fun k=>Zck _ A k _;refine⟨_,c2,rfl,E3,?_,?_⟩
 ·refine⟨fun k a y=>?_,fun k x a y hlt=>?_,fun k x a=>?_,fun k y k' y' v b1 b1' l1 l2 p1 p2=>?_,fun k K s=>?_,fun k K=>H'.inF k K.1,fun k s=>?_⟩
  ·rw[q]at a;split at a;·cases a
   rename_i e;rw[G k y e];exact H.fresh k a y
  ·rw[q]at a;split at a;·grind
   rename_i e;rw[G k y e];exact H.later k x a y hlt
  ·rw[q]at a;split at a
   ·rename_i e;subst e;cases a;refine .inr ⟨r,base+off,C,ty,fr,hr0,.inr rfl,hC,hun,by omega,?_⟩;rcases N with N|⟨N,hFc⟩;·exact VPre.flat N hy
    refine VPre.noRef (c:=X) (c':=c2) (fun k L=>⟨L,?_⟩) _ _ N hy;rcases E.frzNew k L with h1|h1|h1;·exact .inl (hFc k h1)
    ·exact h1.elim
    omega
   rename_i e;refine Zcn (E3.ext H.disj) (fun cb' base' Z t=>?_) (H.blk k x ‹_›);have M:=H.owned ⟨x,a,rfl,Z⟩ t;exact⟨.inl M,l cb' (H.inO _ M)⟩
  ·have key:∀k y b,Live (h.set i (.cells 0 ys)) k y->c2.ρ k y=some (.loc v b)->(k=i/\v=r)\/(k≠i/\Live h k y/\c.ρ k y=some (.loc v b)/\v<w.heap.size):=by
    rintro k y b⟨x,a,hg,Z⟩t;rw[q]at a;split at a;·grind
    rename_i e;rw[G k y e]at t;exact .inr ⟨e,⟨x,a,hg,Z⟩,t,H.inO _ (H.owned ⟨x,a,hg,Z⟩ t)⟩
   rcases key k y b1 l1 p1 with⟨k1,k2⟩|⟨k1,k2,k3,k4⟩<;>rcases key k' y' b1' l2 p2 with⟨j1,j2⟩|⟨j1,j2,j3,j4⟩;·rw[k1,j1]
   ·omega
   ·omega
   exact H.inj _ _ _ _ _ _ _ k2 j2 k3 j3
  ·rcases J k s with h1|rfl;·exact K.2.elim (fun h2=>H.disj k h2 h1) fun h2=>by have:=H.inO k h1;omega
   exact hcF K.1
  rcases J k s with h1|rfl;·exact ZaU (H.inO k h1) E.size
  grind
 simp only[VRel];grind
theorem NStep.calls{i f:Nat}{args:List AV}{v:AV}{c:Ctx (okc P)}{h h1:Heap}{fp:FP}{w:World}{a:Array Value}(N:NStep P i f args h v h1 fp)(H:HRel c h w)(l:VRels c w args a.toList):Callable P f/\Calls P f a w (Rets P c w h1 v):=by
 obtain⟨g,R,o,p⟩:=N;have own:g=args->noRefs g=true->VRels (only (ok:=okc P) c.F) w g a.toList:=fun e q=>by subst e;exact VRels.noRef (c:=c) (c':=only c.F) (fun _ h=>h) _ _ q l
 have lend:(mapH (frzH 4) args).run h=some (g,h)->VRels (lent c) w g a.toList:=fun hm=>(Qc5 (QeP H 4) _ _ _ _ l hm).2;rcases p with⟨s,len,sz,d,b,m,hi,rfl,rfl,_⟩|⟨d,b,rfl,_⟩
 ·refine⟨d.1,?_⟩;rcases o with⟨e,_⟩|⟨hm,_⟩;·exact d.new H (F0:=c.F) (fun _ h=>h) (fun _ h=>.inl h) (b.imp id fun h=>⟨h.1,fun _ h=>h⟩) (own e d.2.1) m hi
  rcases b with b|⟨b,r⟩;·exact d.new H (F0:=fun k=>c.F k\/c.O k) (fun _ h=>.inl h) (fun _ h=>h) (.inl b) (VRels.noRef (c:=lent c) (c':=only fun k=>c.F k\/c.O k) (fun _ h=>h) _ _ d.2.1 (lend hm)) m hi
  exact d.new H (F0:=c.F) (fun _ h=>h) (fun _ h=>.inl h) (.inr ⟨b,fun _ h=>h⟩) (own r d.2.1) m hi
 rcases o with⟨e,_⟩|⟨hm,_⟩;·subst e;exact d.pure H l
 rcases b with b|b;·exact d.borrow b H (lend hm)
 subst b;exact d.pure H l
theorem NStep.heap{i f:Nat}{args:List AV}{v:AV}{h h1:Heap}{fp:FP}(N:NStep P i f args h v h1 fp):HSpec P f args h v h1:=by
 have hc:Callable P f:=by
  obtain⟨b,R,_,⟨_,_,_,a,_⟩|⟨a,_⟩⟩:=N;·exact a.1
  exact a.2.2.choose_spec.1
 exact⟨hc,fun _ _ _ H c=>(N.calls H c).2⟩
mutual theorem VRel.inB{ok:Okc}{B:List Nat}{c c':Ctx ok}{w:World}(hr:∀b∈B,∀g,c'.ρ b g=c.ρ b g)(hF:∀k,c.F k->c'.F k):∀(x:AV)(v:Value),AM.inB B x=true->VRel c w x v->VRel c' w x v
 |.any,_,_,_=>by simp[VRel]|.bool b,_,_,h=>by simpa[VRel]using h|.int k n,_,_,h=>by simpa[VRel]using h|.str s,_,_,h=>by simpa[VRel]using h|.agg cs,v,hn,h=>by simp only[VRel]at h⊢;simp only[AM.inB]at hn;obtain⟨vs,rfl,h⟩:=h;exact⟨vs,rfl,VRels.inB hr hF cs _ hn h⟩|.tup cs,v,hn,h=>by simp only[VRel]at h⊢;simp only[AM.inB]at hn;obtain⟨vs,rfl,h⟩:=h;exact⟨vs,rfl,VRels.inB hr hF cs _ hn h⟩|.nilptr,_,_,h=>by simpa[VRel]using h|.ptr b g off,v,hn,h=>by simp only[AM.inB,Qdm]at hn;simp only[VRel]at h⊢;rw[hr b hn];exact h|.fptr cs,v,hn,h=>by simp only[VRel]at h⊢;simp only[AM.inB]at hn;obtain⟨cb,off,C,e,fr,h1,h2,h3,h4⟩:=h;exact⟨cb,off,C,e,fr,h1,hF _ h2,h3,VPre.inB hr hF cs _ hn h4⟩|.nilsl,_,_,h=>by simpa[VRel]using h|.sl b g off len sz,v,hn,h=>by simp only[AM.inB,Qdm]at hn;simp only[VRel]at h⊢;rw[hr b hn];exact h|.fsl cs len sz,v,hn,h=>by
  simp only[VRel]at h⊢;simp only[AM.inB]at hn;rcases h with h|⟨cb,off,cap,C,e,fr,h1,h2,h3,h4,h5,h6⟩;·exact .inl h
  ·exact .inr ⟨cb,off,cap,C,e,fr,h1,h2,h3,hF _ h4,h5,VPre.inB hr hF cs _ hn h6⟩|.esl,_,_,h=>by simpa[VRel]using h|.nsl,_,_,h=>by simpa[VRel]using h|.nilmap,_,_,h=>by simpa[VRel]using h|.map b g,v,hn,h=>by simp only[AM.inB,Qdm]at hn;simp only[VRel]at h⊢;rw[hr b hn];exact h|.fmap ks vs,v,hn,h=>by simp only[VRel]at h⊢;simp only[AM.inB,Zaa]at hn;obtain⟨mb,es,clock,h1,h2,h3,h4,h5,h6,h7⟩:=h;exact⟨mb,es,clock,h1,hF _ h2,h3,h4,h5,VRels.inB hr hF ks _ hn.1 h6,VRels.inB hr hF vs _ hn.2 h7⟩|.nilfn,_,_,h=>by simpa[VRel]using h|.fn f x y,v,hn,h=>by simp only[VRel]at h⊢;simp only[AM.inB,Zaa]at hn;obtain⟨x',y',h1,h2,h3⟩:=h;exact⟨x',y',h1,VRels.inB hr hF x _ hn.1 h2,VRels.inB hr hF y _ hn.2 h3⟩|.nilif,_,_,h=>by simpa[VRel]using h|.yld b g,v,hn,h=>by simp only[AM.inB,Qdm]at hn;simp only[VRel]at h⊢;rw[hr b hn];exact h|.ifc t x,v,hn,h=>by simp only[VRel]at h⊢;simp only[AM.inB]at hn;obtain⟨x',h1,h2⟩:=h;exact⟨x',h1,VRel.inB hr hF x _ hn h2⟩|.typed t n x,v,hn,h=>by simp only[VRel]at h⊢;simp only[AM.inB]at hn;exact⟨h.1,VRel.inB hr hF x _ hn h.2⟩theorem VRels.inB{ok:Okc}{B:List Nat}{c c':Ctx ok}{w:World}(hr:∀b∈B,∀g,c'.ρ b g=c.ρ b g)(hF:∀k,c.F k->c'.F k):∀(x:List AV)(v:List Value),inBs B x=true->VRels c w x v->VRels c' w x v|[],_,_,h=>by simpa[VRels]using h|x::xs,v,hn,h=>by simp only[VRels]at h⊢;simp only[AM.inBs,Zaa]at hn;obtain⟨u,us,h1,h2,h3⟩:=h;exact⟨u,us,h1,VRel.inB hr hF x _ hn.1 h2,VRels.inB hr hF xs _ hn.2 h3⟩theorem VPre.inB{ok:Okc}{B:List Nat}{c c':Ctx ok}{w:World}(hr:∀b∈B,∀g,c'.ρ b g=c.ρ b g)(hF:∀k,c.F k->c'.F k):∀(x:List AV)(v:List Value),inBs B x=true->VPre c w x v->VPre c' w x v|[],_,_,_=>by simp[VPre]|x::xs,v,hn,h=>by simp only[VPre]at h⊢;simp only[AM.inBs,Zaa]at hn;obtain⟨u,us,h1,h2,h3⟩:=h;exact⟨u,us,h1,VRel.inB hr hF x _ hn.1 h2,VPre.inB hr hF xs _ hn.2 h3⟩end
theorem MRel.inB{ok:Okc}{B:List Nat}{c c':Ctx ok}{w:World}(i:∀b∈B,∀g,c'.ρ b g=c.ρ b g)(d:∀k,c.F k->c'.F k):∀{x:List (AV×AV)}{es:List MapEntry}{clock:Nat},inBe B x=true->MRel c w x es clock->MRel c' w x es clock|[],_,_,_,h=>by simpa[MRel]using h|(k,x)::r,es,clock,a,h=>by simp only[MRel]at h⊢;simp only[inBe,Zaa]at a;obtain⟨e,f,h1,q,o,p,l,m⟩:=h;exact⟨e,f,h1,VRel.inB i d k _ a.1.1 q,VRel.inB i d x _ a.1.2 o,p,l,MRel.inB i d a.2 m⟩
theorem FStep.calls{f:Nat}{args:List AV}{v:AV}{c:Ctx (okc P)}{h h1:Heap}{fp:FP}{w:World}{m:Array Value}(S:FStep P f args h v h1 fp)(H:HRel c h w)(ha:VRels c w args m.toList):Callable P f/\Calls P f m w (Rets P c w h1 v):=by
 obtain⟨B,D,W,k1,f1,f2,f3,f4,⟨hc,hs⟩,f6,f7,f8,f9,_,_,rfl,_⟩:=S;have hB:∀b∈B,b<lim:=fun b q=>QdM f1 q;have hD:∀b∈D,b<lim:=fun b q=>QdM f2 q;have K:=QrS (h:=h) hB (fun b q e=>by grind[blkIn]);have L:=QfD (k:=k1) (h:=h) hD f6;let c1:Ctx (okc P):={ρ:=fun k y=>if k∈B then c.ρ k y else none,F:=c.F,O:=fun k=>∃b y base,b∈B/\Live h b y/\c.ρ b y=some (.loc k base),base:=c.base};have d:∀b∈B,∀y,c1.ρ b y=c.ρ b y:=fun b q y=>if_pos q;have hrn:∀b,b∉B->∀y,c1.ρ b y=none:=fun b q y=>if_neg q;have M:∀k,c1.O k->c.O k:=fun k⟨b,y,base,_,Y,a⟩=>H.owned Y a;have hlB:∀k y,Live (pick h B) k y->k∈B/\Live h k y:=by
  rintro k y⟨x,a,hg,Q⟩;rw[K]at a;split at a;·rename_i e;exact⟨e,x,a,hg,Q⟩
  cases a
 have H1:HRel c1 (pick h B) w:=by
  refine⟨fun k a y=>?_,fun k x a y J=>?_,fun k x a=>?_,fun k y A X l base i u s I G=>?_,fun k U r=>H.disj k U (M k r),H.inF,fun k r=>H.inO k (M k r)⟩
  ·rw[K]at a;split at a;·rename_i e;rw[d k e];exact H.fresh k a y
   simp_all
  ·rw[K]at a;split at a;·rename_i e;rw[d k e];exact H.later k x a y J
   cases a
  ·rw[K]at a;split at a;·rename_i e;have o:=f4 k e;rw[a]at o;have q:=H.blk k x a;cases x with|dead g=>trivial|loop=>simp[blkIn]at o|cells g cs=>
   simp only[blkIn]at o;rcases q with⟨h1,h2⟩|⟨l,base,C,ty,fr,h1,h2,N,h4,h5,h6⟩;·exact .inl ⟨(d k e g).trans h1,h2⟩
   exact .inr ⟨l,base,C,ty,fr,(d k e g).trans h1,⟨k,g,base,e,⟨_,a,rfl,fun _=>by simp⟩,h1⟩,N,h4,h5,VPre.inB d (fun _ h=>h) _ _ o h6⟩|map g es=>simp only[blkIn]at o;obtain⟨l,es',clock,h1,h2,N,h4,h5⟩:=q;exact⟨l,es',clock,(d k e g).trans h1,⟨k,g,0,e,⟨_,a,rfl,fun _=>by simp⟩,h1⟩,N,MRel.inB d (fun _ h=>h) o h4,h5⟩
   cases a
  obtain⟨T,u⟩:=hlB _ _ u;obtain⟨R,s⟩:=hlB _ _ s;rw[d k T]at I;rw[d A R]at G;exact H.inj _ _ _ _ _ _ _ u s I G
 refine⟨hc,(hs c1 w m H1 (VRels.inB d (fun _ h=>h) _ _ f3 ha)).mono ?_⟩;rintro e w'⟨cv,c',rfl,E,H',V⟩;have hdn:∀k,k∉D->k1.get k=none:=fun k a=>by grind
 let c2:Ctx (okc P):={ρ:=fun k y=>if k∈D then c'.ρ k y else c.ρ k y,F:=c'.F,O:=fun k=>(c.O k/\¬c1.O k)\/c'.O k,base:=c.base};have t:∀k∈D,∀y,c2.ρ k y=c'.ρ k y:=fun k a y=>if_pos a;have z:∀k,k∉D->∀y,c2.ρ k y=c.ρ k y:=fun k a y=>if_neg a;have X2:Ext c' w' c2 w':=by
  refine⟨fun k y p hp=>?_,fun _ h=>h,fun _ _ _ h=>h,fun _ C _ fr h=>⟨C,fr,h,rfl⟩⟩;by_cases a:k∈D;·simp_all
  rw[H'.fresh k (hdn k a) y]at hp;cases hp
 have E2:Evo c w c2 w':=by
  refine⟨E.os,E.tape,E.output,E.size,E.shape,fun k a r=>E.keep k a fun h=>r (M k h),fun k y p hp=>?_,fun k a=>E.frz k a,fun k a=>?_,fun k a=>?_,rfl⟩
  ·by_cases a:k∈D
   ·rw[t k a];by_cases Z:k∈B;·exact E.rho k y p ((d k Z y).trans hp)
    rw[H.fresh k (f9 k a Z) y]at hp;cases hp
   simp_all
  ·rcases E.frzNew k a with h1|h1|h1;·exact .inl h1
   ·simp_all
   omega
  rcases a with a|a;·exact .inl a.1
  exact(E.own k a).imp (M k) id
 have hlv:∀k y,Live (over k1 h D) k y->(k∈D/\Live k1 k y)\/(k∉D/\Live h k y):=by
  rintro k y⟨x,a,hg,Q⟩;rw[L]at a;split at a;·rename_i e;exact .inl ⟨e,x,a,hg,Q⟩
  rename_i e;exact .inr ⟨e,x,a,hg,Q⟩
 have hout:∀k y l base,k∉D->Live h k y->c.ρ k y=some (.loc l base)->¬c1.O l:=by rintro k y l base a Y hp⟨b,X,i,q,hl',hp'⟩;have:=H.inj _ _ _ _ _ _ _ Y hl' hp hp';simp_all
 refine⟨cv,c2,rfl,E2,?_,Zcl X2 _ _ V⟩;refine⟨fun k a y=>?_,fun k x a y J=>?_,fun k x a=>?_,fun k y A X l base i u s I G=>?_,fun k U r=>?_,fun k U=>H'.inF k U,fun k r=>?_⟩
 ·rw[L]at a;split at a;·simp_all
  rename_i e;rw[z k e];exact H.fresh k a y
 ·rw[L]at a;split at a;·rename_i e;rw[t k e];exact H'.later k x a y J
  rename_i e;rw[z k e];exact H.later k x a y J
 ·rw[L]at a;split at a;·refine Zcn X2 (fun l base Q hp=>?_) (H'.blk k x a);exact⟨.inr (H'.owned ⟨x,a,rfl,Q⟩ hp),rfl⟩
  rename_i e;refine Zcn (E2.ext H.disj) (fun l base Q hp=>?_) (H.blk k x a);have Y:Live h k x.gen:=⟨x,a,rfl,Q⟩;have r:=H.owned Y hp;have hn:=hout k _ l base e Y hp;exact⟨.inl ⟨r,hn⟩,E.keep l (H.inO _ r) hn⟩
 ·have cross:∀k y A X base i,k∈D->Live k1 k y->c2.ρ k y=some (.loc l base)->A∉D->Live h A X->c2.ρ A X=some (.loc l i)->False:=by
   intro k y A X base i T u I R s G;rw[t k T]at I;rw[z A R]at G;rcases E.own l (H'.owned u I)with h1|h1;·grind
   have:=H.inO _ (H.owned s G);omega
  rcases hlv _ _ u with⟨T,u⟩|⟨T,u⟩<;>rcases hlv _ _ s with⟨R,s⟩|⟨R,s⟩;·rw[t k T]at I;rw[t A R]at G;exact H'.inj _ _ _ _ _ _ _ u s I G
  ·grind
  ·grind
  rw[z k T]at I;rw[z A R]at G;exact H.inj _ _ _ _ _ _ _ u s I G
 ·rcases r with⟨h1,h2⟩|h1
  ·rcases E.frzNew k U with N|N|N;·exact H.disj k N h1
   ·exact h2 N
   have:=H.inO k h1;omega
  exact H'.disj k U h1
 rcases r with⟨h1,_⟩|h1;·exact ZaU (H.inO k h1) E.size
 exact H'.inO k h1
theorem FStep.heap{f:Nat}{args:List AV}{v:AV}{h h1:Heap}{fp:FP}(S:FStep P f args h v h1 fp):HSpec P f args h v h1:=by
 have hc:Callable P f:=by obtain⟨_,_,_,_,_,_,_,_,b,_⟩:=S;exact b.1
 exact⟨hc,fun _ _ _ H a=>(S.calls H a).2⟩
def Marks{ok:Okc}(c:Ctx ok)(w:World):List Deferred->Prop|[]=>c.base<=w.heap.size|d::a=>(∃D,d={target:=.collected D,args:=#[]}/\c.base<=D/\¬c.O D/\¬c.F D/\w.heap[D]?=some (.deferred (some []))/\∀b∈a,b.target≠.collected D)/\Marks c w a
theorem Marks.mono{ok:Okc}{c c':Ctx ok}{w w':World}(E:Evo c w c' w'):∀{ds:List Deferred},Marks c w ds->Marks c' w' ds
 |[],h=>by have h:c.base<=w.heap.size:=h;have:=E.size;show c'.base<=w'.heap.size;rw[E.base];omega|d::ds,⟨⟨D,h1,l,a,g,f,i⟩,k⟩=>by
  have b:=QaY f;refine⟨⟨D,h1,by rw[E.base];exact l,fun h=>?_,fun h=>?_,by rw[E.keep D b a];exact f,i⟩,Marks.mono E k⟩
  ·rcases E.own D h with h|h;·exact a h
   omega
  rcases E.frzNew D h with h|h|h;·exact g h
  ·exact a h
  omega
theorem Marks.low{ok:Okc}{c:Ctx ok}{w:World}:∀{ds:List Deferred},Marks c w ds->c.base<=w.heap.size|[],h=>h|_::_,h=>h.2.low
structure SRel{ok:Okc}(N:Nat)(c:Ctx ok)(A:St)(a:Act)(w:World):Prop where
 heap:HRel c A.h w
 tmps:TRel c w A.T a
 size:a.tmps.size=N
 defers:Marks c w a.defers
theorem SRel.congr{ok:Okc}{N:Nat}{c:Ctx ok}{A B:St}{a:Act}{w:World}(S:SRel N c A a w)(e:SEq A B):SRel N c B a w:=⟨QbS e.2 S.heap,fun i=>by rw[<-e.1 i];exact S.tmps i,S.size,S.defers⟩
theorem SRel.put{ok:Okc}{N:Nat}{c c':Ctx ok}{A:St}{a:Act}{w w':World}{dst:Option Nat}{v:AV}{cv:Value}{h1:Heap}(S:SRel N c A a w)(E:Evo c w c' w')(H:HRel c' h1 w')(f:∀d,dst=some d->d<N)(V:VRel c' w' v cv):SRel N c' ⟨putD A.T dst v,h1⟩ (a.put dst cv) w':=by have b:TRel c' w' A.T a:=fun i=>Zcl (E.ext S.heap.disj) _ _ (S.tmps i);cases dst with|none=>exact⟨H,b,S.size,S.defers.mono E⟩|some d=>
 refine⟨H,fun i=>?_,by simp[Act.put,S.size],by simpa[Act.put]using S.defers.mono E⟩;have g:d<a.tmps.size:=by rw[S.size];exact f d rfl
 simp only[QbC,Act.put,Zab];by_cases e:d=i;·simp_all
 rw[if_neg e];simpa[Array.getElem?_setIfInBounds_ne e]using b i
theorem noDefer{o:Oper}{s:SOp}(a:okOp P o.op s=true):(∀b,o.op≠.defer b)\/s=.bad:=by grind[okOp]
theorem Qhz{ro:Option Nat}{N i:Nat}{o:Oper}{s:SOper}{A:St}{v:AV}{h1:Heap}{fp:FP}{c:Ctx (okc P)}{a:Act}{w:World}{K:Act->World->Prop}{Q:Exit->Act->World->Prop}(S:SRel N c A a w)(x:o.dst=s.dst)(L:∀d,s.dst=some d->d<N)(I:okOp P o.op s.op=true)(X:StepX P i s.op A.T A.h v h1 fp)(T:∀c' R w',SRel N c' ⟨putD A.T s.dst v,h1⟩ R w'->Evo c w c' w'->K R w'):o.wpIn (FW ro) 0 P a w K Q:=by
 obtain⟨out,h2,hm,m⟩:=X;have C:o.semAt ro a.eval=execOp a.eval o:=by grind[noDefer,Oper.semAt_eq,aop,HM.run]
 have p:=QrQ S.heap S.tmps I hm;refine⟨fun _ _=>trivial,?_⟩;show o.uponIn (FW ro) 0 P a K Q ((o.semAt ro a.eval).run P w);rw[C];have fin:∀e w',Rets P c w h1 v e w'->(match(motive:=Ending->World->Prop)e,w' with|.returned v,B=>K (a.put o.dst v) B|.panicked chain,B=>Q (.panic chain) a B|.outgrown,_=>LetsOut Q):=by rintro e w'⟨M,c',rfl,E,H',V⟩;exact T c' _ w' (by rw[x];exact S.put E H' L V) E
 have called:∀(f:Nat)(l:Array Value),(execOp a.eval o).run P w=.ok (.enter f l) w->Calls P f l w (Rets P c w h1 v)->o.uponIn (FW ro) 0 P a K Q ((execOp a.eval o).run P w):=by intro f l G k;rw[G,Oper.uponIn_enter];refine⟨fun h=>by simp[FW,Fence.wide]at h,callsFW (k.mono ?_)⟩;omega
 match out,hm,m,p with
 |.val u,hm,m,p=>
  obtain⟨rfl,rfl,_⟩:=m;obtain⟨nx,M,c',w',y,hn,E,H',V⟩:=p;rw[y];have z:=T c' (a.put o.dst M) w' (by rw[x];exact S.put E H' L V) E;rcases hn with rfl|⟨rfl,rfl⟩;·exact z
  ·exact z|.call .pure f args,hm,m,p=>obtain⟨t,rfl,_⟩:=m;obtain⟨rfl,l,y,q,_⟩:=p;obtain⟨hc,k⟩:=t.pure S.heap (q (by simp));exact called f l (y hc) k|.call .borrow f args,hm,m,p=>obtain⟨t,Z,rfl,_⟩:=m;obtain⟨rfl,l,y,_,q⟩:=p;obtain⟨hc,k⟩:=t.borrow Z S.heap (q rfl);exact called f l (y hc) k|.call .heap f args,hm,m,p=>
  obtain⟨rfl,l,y,q,_⟩:=p;rcases m with⟨t,_⟩|⟨b,g,xs,t,hb,rfl,_⟩|J|J;·obtain⟨hc,k⟩:=t.heap S.heap (q (by simp));simp_all
  ·obtain⟨hc,k⟩:=t.give S.heap hb (q (by simp));simp_all
  ·obtain⟨hc,k⟩:=J.calls S.heap (q (by simp));simp_all
  ·obtain⟨hc,k⟩:=J.calls S.heap (q (by simp));simp_all|.round b g args,hm,m,p=>obtain⟨t,_⟩:=m;obtain⟨rfl,U,l,H,q,y⟩:=p;obtain⟨fn,tmps,Y,body,hy,r⟩:=t c w l U S.heap q H;rw[y,hy,Oper.uponIn_round];refine⟨fun h=>by simp[FW,Fence.wide]at h,trivial,fun fr cs _=>?_⟩;obtain⟨e,w',hR,hc⟩:=r.2 fr cs (room_wide _);refine⟨e,w',?_,hc⟩;have:=fin e w' hR;cases e<;>exact this
theorem QfF{ro:Option Nat}{N i bi:Nat}{ops:Array Oper}{o:Oper}{s:SOper}{A:St}{v:AV}{h1:Heap}{fp:FP}{c:Ctx (okc P)}{a:Act}{w:World}{K:Act->World->Prop}{Q:Exit->Act->World->Prop}(S:SRel N c A a w)(ho:ops[i]?=some o)(h:okOper P N ops o s=true)(g:StepV P bi s A.T A.h v h1 fp)(t:∀c' u w',SRel N c' ⟨putD A.T s.dst v,h1⟩ u w'->Evo c w c' w'->K u w'):wpOpIn (FW ro) 0 P ops Q i K a w:=by
 unfold okOper at h;simp only[Zaa,beq_iff_eq]at h;obtain⟨⟨⟨⟨z,J⟩,C⟩,k⟩,G⟩:=h;have x:∀d,s.dst=some d->d<N:=by grind
 unfold wpOpIn;rw[ho];simp only;unfold StepV at g
 cases y:s.guard with|none=>
  rw[y]at g k;have f:o.guard=none:=by grind[okGuard]
  have:Region.wanted o (yielded ops a.tmps)=true:=by simp[Region.wanted,f]
  rw[this];exact Qhz S z x C g t|some p=>obtain⟨slot,r⟩:=p;rw[y]at g k;simp only at g;obtain⟨b,l,g⟩:=g;cases f:o.guard with|none=>rw[f]at k;simp[okGuard]at k|some q=>
   obtain⟨j,m⟩:=q;rw[f]at k;simp only[okGuard,Zaa,beq_iff_eq,decide_eq_true_eq]at k;obtain⟨⟨rfl,I⟩,E⟩:=k;have B:slot<a.tmps.size:=by rw[S.size];exact E
   have hw:Region.wanted o (yielded ops a.tmps)=b:=by
    have H:=S.tmps slot;unfold wantedA at l;split at l;·simp_all[VRel,yielded,Region.wanted]
    ·simp_all[VRel,VRels,yielded,Region.wanted]
    cases l
   rw[hw];split at g;·rename_i e;subst e;simp only[if_true];grind[Qhz]
   rename_i e;obtain⟨rfl,rfl,_⟩:=g;have:b=false:=by simpa using e
   rw[this];simp only[Zao,if_false];refine⟨fun _ _=>trivial,t c _ w ?_ (.refl c w)⟩;rw[z];exact S.put (.refl c w) S.heap x (by simp[VRel,VRels,undef])
theorem Qs0(o:Option AV)(h:Heap):(lift o).fp h=([],[]):=by cases o<;>rfl
theorem QnZ{i:Nat}{T:Tmps}{s:SOp}{h:Heap}(hc:s.cls=0):(aop i T s).fp h=([],[]):=by cases s<;>simp only[SOp.cls,reduceCtorEq]at hc<;>first|exact Qs0 _ _|rfl|(rename_i m x xs;cases m<;>simp at hc;done)|(simp at hc;done)
theorem Qs1{i:Nat}{T:Tmps}{s:SOp}(hc:s.cls=1):(aop i T s).ro:=by
 cases s<;>simp only[SOp.cls,reduceCtorEq,Nat.reduceEqDiff]at hc;case convB x=>
  refine HM.QbP ?_ fun _=>trivial;have src:∀(y:AV),(aSrc 1 y fun ys n=>match bytesOf ys with|some s=>HM.ret (AV.str s)|none=>.fail).ro:=by
   intro y;unfold aSrc;have fin:∀ys:List AV,(match bytesOf ys with|some s=>HM.ret (AV.str s)|none=>HM.fail).ro:=by intro ys;split<;>trivial
   split
   ·split
    ·refine QfC fun cs=>?_;split;·exact fin _
     ·trivial
    ·trivial
   ·split;·exact fin _
    ·trivial
   ·exact fin []
   ·exact fin []
   ·exact fin []
   ·simp_all
   ·trivial
  unfold aConvB;split;·trivial
  ·exact src _
 case eqn neg x=>
  refine HM.QbP ?_ fun _=>trivial;unfold aEqN aNilS;split
  ·intro y;dsimp only;split
   ·rename_i g' _ _;generalize Nat.beq g' _=bb;cases bb;·trivial
    simp_all[QiK]
   ·trivial
  ·exact QiK _
 case load n x=>
  refine HM.QbP ?_ fun _=>trivial;unfold aLoad;split
  ·refine QfC fun cs=>?_;split;·exact QiK _
   ·split<;>trivial
  ·split;·exact QiK _
   ·split<;>trivial
  ·trivial
 case len k x=>
  refine HM.QbP ?_ fun _=>trivial;unfold aLenC;split
  ·unfold aLen;split<;>try trivial
   intro x;dsimp only;split;·rename_i g' es;generalize Nat.beq g' _=bb;cases bb<;>trivial
   ·trivial
  ·trivial
 case lookup row ks zero ok x k=>
  refine HM.QbP ?_ fun _=>trivial;unfold aLookup;split
  ·split;·trivial
   ·refine Qpe fun es=>?_;split<;>trivial
   ·split<;>trivial
   ·trivial
  ·trivial
 case call m x args=>
  simp only[aop];unfold aCall;split
  ·split;·exact HM.QbP (QcT (Qes 4) _) fun _=>trivial
   ·trivial
  ·split<;>trivial
  ·trivial
theorem QlR{i:Nat}{T:Tmps}{s:SOp}{h a:Heap}{out:AOut}(ho:out.whole=true)(hc:s.cls<=1)(hm:(aop i T s).run h=some (out,a)):False:=by
 have lf:∀(o:Option AV),(lift o).run h≠some (out,a):=by intro o e;obtain⟨v,_,k⟩:=QaN e;cases k;cases ho
 have hf:∀(m:HM AV),(hval m).run h≠some (out,a):=by intro m e;obtain⟨v,h1,_,k⟩:=QaK e;cases k;cases ho
 have c:∀(u:AV),(HM.ret (AOut.val u)).run h≠some (out,a):=by intro u e;simp only[HM.run,Zab,Zaj]at e;obtain⟨rfl,rfl⟩:=e;cases ho
 cases s<;>simp only[aop]at hm<;>first|exact absurd hm (lf _)|exact absurd hm (hf _)|exact absurd hm (c _)|(simp only[HM.run,reduceCtorEq]at hm;done)|skip
 rename_i m x xs
 cases m with|heap=>simp[SOp.cls]at hc|pure=>
  unfold aCall at hm;split at hm;·simp only[HM.run,Zab,Zaj]at hm;obtain⟨rfl,rfl⟩:=hm;cases ho
  ·simp[HM.run]at hm
  simp[HM.run]at hm|borrow=>
  unfold aCall at hm;split at hm;·simp only at hm;obtain⟨b,d,k1,k2⟩:=run_bind hm;simp only[HM.run,Zab,Zaj]at k2;obtain⟨rfl,rfl⟩:=k2;cases ho
  ·simp[HM.run]at hm
  simp[HM.run]at hm
theorem StepX.cls{i:Nat}{s:SOp}{T:Tmps}{h:Heap}{v:AV}{h1:Heap}{fp:FP}(d:StepX P i s T h v h1 fp)(hc:s.cls<=1):fp.all=false/\fp.W=[]/\(s.cls=0->fp.R=[]):=by
 obtain⟨out,k,hm,a⟩:=d;have key:fp=fpOf ((aop i T s).fp h)->fp.all=false/\fp.W=[]/\(s.cls=0->fp.R=[]):=by intro e;subst e;refine⟨rfl,?_,fun c=>by simp[fpOf,QnZ c]⟩;grind[HM.ro_fp,Qs1,fpOf,QnZ]
 match out,hm,a with|.val u,hm,a=>exact key a.2.2|.call .pure f args,hm,a=>exact key a.2.2|.call .borrow f args,hm,a=>exact key a.2.2.2|.call .heap f args,hm,a=>exact(QlR rfl hc hm).elim|.round b g args,hm,a=>exact(QlR rfl hc hm).elim
theorem StepV.cls{i:Nat}{s:SOper}{T:Tmps}{h:Heap}{v:AV}{h1:Heap}{fp:FP}(a:StepV P i s T h v h1 fp)(hc:s.op.cls<=1):fp.all=false/\fp.W=[]/\(s.op.cls=0->fp.R=[]):=by
 unfold StepV at a;split at a;·exact a.cls hc
 obtain⟨b,_,a⟩:=a;split at a;·exact a.cls hc
 simp_all
def StepI(P:Program)(base:Nat)(sops:List SOper)(fpf:Nat->FP)(i:Nat)(A B:St):Prop:=∃s v h1,sops[i]?=some s/\StepV P (base+i) s A.T A.h v h1 (fpf i)/\B=⟨putD A.T s.dst v,h1⟩
def RunL(P:Program)(base:Nat)(sops:List SOper)(fpf:Nat->FP):List Nat->St->St->Prop|[],A,C=>A=C|i::l,A,C=>∃B,StepI P base sops fpf i A B/\RunL P base sops fpf l B C
section
variable{base:Nat}{sops:List SOper}{fpf:Nat->FP}
theorem RunL.congr:∀{l:List Nat}{A B C:St},RunL P base sops fpf l A C->SEq A B->∃D,RunL P base sops fpf l B D/\SEq C D|[],A,B,C,a,e=>by cases a;exact⟨B,rfl,e⟩|i::l,A,B,C,a,e=>by obtain⟨A1,⟨s,v,h1,g,d,rfl⟩,a⟩:=a;obtain⟨b,k1,k2⟩:=d.congr e;obtain⟨D,c,f⟩:=a.congr k2;exact⟨D,⟨_,⟨s,v,b,g,k1,rfl⟩,c⟩,f⟩
def Apart(sops:List SOper)(fpf:Nat->FP)(k i:Nat):Prop:=∀s t,sops[k]?=some s->sops[i]?=some t->s.apart t=true/\(fpf k).apart (fpf i)=true
theorem RunL.front:∀{d c:List Nat}{i:Nat}{A C:St},RunL P base sops fpf (d++i::c) A C->(∀k∈d,Apart sops fpf k i)->∃B C',StepI P base sops fpf i A B/\RunL P base sops fpf (d++c) B C'/\SEq C' C|[],c,i,A,C,a,_=>by obtain⟨B,f,a⟩:=a;exact⟨B,C,f,a,.refl C⟩|k::d,c,i,A,C,a,b=>by obtain⟨A1,⟨s,v,h1,f,o,rfl⟩,a⟩:=a;obtain⟨B,C',⟨t,u,z,m,p,rfl⟩,g,e⟩:=RunL.front a (fun k q=>b k (by simp[q]));obtain⟨y,w⟩:=b k (by simp) s t f m;obtain⟨h,l,k1,k2,k3⟩:=StepV.comm o p y w;obtain⟨D,x,r⟩:=g.congr k3.symm;exact⟨_,D,⟨t,u,h,m,k1,rfl⟩,⟨_,⟨s,v,l,f,k2,rfl⟩,x⟩,r.symm.trans e⟩
inductive Bef(sops:List SOper):Nat->Nat->Prop|one{j k:Nat}{s:SOper}:sops[j]?=some s->k∈s.after->Bef sops k j|more{j k e:Nat}{s:SOper}:sops[j]?=some s->e∈s.after->Bef sops k e->Bef sops k j
end
structure Fits(P:Program)(N:Nat)(ops:Array Oper)(sops:List SOper):Prop where
 size:ops.size=sops.length
 ok:∀(i:Nat)(o:Oper),ops[i]?=some o->∃s,sops[i]?=some s/\okOper P N ops o s=true
theorem Fits.after{N:Nat}{ops:Array Oper}{sops:List SOper}(F:Fits P N ops sops){i:Nat}{o:Oper}{s:SOper}(ho:ops[i]?=some o)(d:sops[i]?=some s):∀k,k∈s.after↔∃e∈o.after,Region.binds .any e=true/\e.on=k:=by obtain⟨c,b,a⟩:=F.ok i o ho;grind[okOper,okAfter]
def rest(n:Nat)(a:Array Bool):List Nat:=(List.range n).filter fun i=>!a.getD i true
theorem Qet{n:Nat}{a:Array Bool}{i:Nat}:i∈rest n a↔i<n/\a.getD i true=false:=by simp[rest]
theorem Qgs:∀(l:List Nat)(p:Nat->Bool)(i:Nat),l.Pairwise (·<·)->i∈l->p i=true->∃a d,l.filter p=a++i::d/\l.filter (fun k=>p k&&k !=i)=a++d/\∀k∈a,k<i/\p k=true
 |[],p,i,_,hi,_=>by simp at hi|x::l,p,i,c,hi,hp=>by
  rw[Zax]at c;by_cases e:x=i
  ·subst e;have f:l.filter (fun k=>p k&&k !=x)=l.filter p:=by
    apply ZbF;intro k g;have:=c.1 k g;have:(k !=x)=true:=by simp;omega
    simp[this]
   refine⟨[],l.filter p,?_,?_,by simp⟩;·simp_all
   simp_all
  have b:i∈l:=by grind
  obtain⟨a,d,h1,h,m⟩:=Qgs l p i c.2 b hp;grind
theorem Qpg{n:Nat}{a:Array Bool}{i:Nat}(hi:i∈rest n a):∃b c,rest n a=b++i::c/\rest n (a.setIfInBounds i true)=b++c/\∀k∈b,k<i/\k<n/\a.getD k true=false:=by
 obtain⟨h1,d⟩:=Qet.1 hi;obtain⟨b,c,k1,k2,k3⟩:=Qgs (List.range n) (fun k=>!a.getD k true) i Zb4 (by simpa using h1) (by simp[d]);refine⟨b,c,k1,?_,?_⟩
 ·rw[<-k2];unfold rest;apply ZbF;intro k _;by_cases e:k=i;·simp_all
  have f:(k !=i)=true:=by simpa using e
  rw[getD_set_ne true (fun h=>e h.symm),f,Zac]
 grind
structure Free(sops:List SOper)(fpf:Nat->FP):Prop where
 back:∀(j:Nat)(s:SOper),sops[j]?=some s->∀k∈s.after,k<j
 apart:∀(k i:Nat),k<i->i<sops.length->Bef sops k i\/Apart sops fpf k i
theorem QpZ{ro:Option Nat}{N base:Nat}{ops:Array Oper}{sops:List SOper}{fpf:Nat->FP}(F:Fits P N ops sops)(R:Free sops fpf){Q:Exit->Act->World->Prop}{C:St}{c0:Ctx (okc P)}{w0:World}(hQ:∀c a w,SRel N c C a w->Evo c0 w0 c w->Q .normal a w):∀(fuel:Nat)(b:Array Bool)(A C':St)(c:Ctx (okc P))(a:Act)(w:World),b.size=ops.size->(rest sops.length b).length<=fuel->(∀j,b.getD j false=true->∀k,Bef sops k j->b.getD k false=true)->RunL P base sops fpf (rest sops.length b) A C'->SEq C' C->SRel N c A a w->Evo c0 w0 c w->wpAnyIn (FW ro) 0 P .any ops Q fuel b a w:=by
 intro fuel;induction fuel with|zero=>
  intro b A C' c a w z hf x p he H G;have J:rest sops.length b=[]:=Zbj (by omega);refine⟨?_,?_⟩;·rw[List.eq_nil_iff_forall_not_mem];intro j S;obtain⟨I,o,g2,g3⟩:=mem_ready.1 S;have:j<ops.size:=(Array.getElem?_eq_some_iff.1 g2).1;have:j∈rest sops.length b:=Qet.2 ⟨by rw[<-F.size];exact this,I⟩;simp_all
  rw[J]at p;cases p;exact hQ c a w (H.congr he) G|succ fuel ih=>
  intro b A C' c a w z hf x p he H G;refine⟨?_,?_⟩
  ·intro t;have J:rest sops.length b=[]:=by cases q:rest sops.length b with|nil=>rfl|cons i l=>
    exfalso;have hi:i∈rest sops.length b:=by rw[q];simp
    obtain⟨h1,y⟩:=Qet.1 hi;have g:i<ops.size:=by grind
    have d:i∈Region.ready .any ops b:=by
     rw[mem_ready];refine⟨y,ops[i],Array.getElem?_eq_getElem g,fun e he r=>?_⟩;obtain⟨s,m,_⟩:=F.ok i _ (Array.getElem?_eq_getElem g);have E:=(F.after (Array.getElem?_eq_getElem g) m e.on).2 ⟨e,he,r,rfl⟩;have V:=R.back i s m e.on E;have hon:e.on<b.size:=by omega
     cases hv:b.getD e.on false with|true=>rfl|false=>
      exfalso;have Y:b.getD e.on true=false:=by simp_all
      have:e.on∈rest sops.length b:=Qet.2 ⟨by omega,Y⟩;rw[q]at this;have f:(rest sops.length b).Pairwise (·<·):=List.Pairwise.filter _ Zb4;rw[q,Zax]at f;rcases Zau.1 this with h|h;·omega
      grind
    rw[t]at d;simp at d
   rw[J]at p;cases p;exact hQ c a w (H.congr he) G
  intro i hi;obtain⟨I,o,ho,g3⟩:=mem_ready.1 hi;have g:i<ops.size:=(Array.getElem?_eq_some_iff.1 ho).1;have T:i∈rest sops.length b:=Qet.2 ⟨by rw[<-F.size];exact g,I⟩;obtain⟨s,m,L⟩:=F.ok i o ho;have X:∀k,Bef sops k i->b.getD k false=true:=by intro k r;cases r with|one h1 y=>rw[m]at h1;cases h1;obtain⟨e,e1,e2,e3⟩:=(F.after ho m k).1 y;rw[<-e3];exact g3 e e1 e2|more h1 y h3=>rw[m]at h1;cases h1;rename_i e';obtain⟨e,e1,e2,e3⟩:=(F.after ho m e').1 y;exact x e' (by grind) k h3
  obtain⟨l1,l2,k1,k2,k3⟩:=Qpg T;rw[k1]at p;obtain⟨B,C'',⟨s',v,h1,u,hv,rfl⟩,hr',K⟩:=RunL.front p (fun k hk=>by
   obtain⟨m1,m2,m3⟩:=k3 k hk;rcases R.apart k i m1 (by grind)with r|r;·grind
   exact r);rw[m]at u;cases u;refine QfF H ho L hv ?_;intro c' a' w' M U;refine ih _ _ C'' c' a' w' (by simpa using z) ?_ ?_ (by simp_all) (K.trans he) M (G.trans U);·grind
  intro j S k r;by_cases Z:j=i;·grind[getD_set_true]
  rw[getD_set_ne false (fun h=>Z h.symm)]at S;grind[getD_set_true]
end Go.AM
theorem _root_.Go.AM.Zco:type_of%@Go.AM.VRel.noRef:=@Go.AM.VRel.noRef
theorem _root_.Go.AM.Zcp:type_of%@Go.AM.VRels.noRef:=@Go.AM.VRels.noRef
namespace Go.AM
variable{P:Program}
theorem Qgf{ro:Option Nat}{N base:Nat}{ops:Array Oper}{sops:List SOper}{fpf:Nat->FP}(F:Fits P N ops sops){Q:Exit->Act->World->Prop}{C:St}{c0:Ctx (okc P)}{w0:World}(hQ:∀c a w,SRel N c C a w->Evo c0 w0 c w->Q .normal a w):∀(l:List Nat)(A:St)(c:Ctx (okc P))(a:Act)(w:World),RunL P base sops fpf l A C->SRel N c A a w->Evo c0 w0 c w->wpOpsIn (FW ro) 0 P ops Q l a w
 |[],A,c,a,w,d,h,f=>by cases d;exact hQ c a w h f|i::l,A,c,a,w,d,h,f=>by
  obtain⟨B,⟨s,v,h1,p,t,rfl⟩,d⟩:=d
  rw[wpOpsIn_cons];cases ho:ops[i]? with|none=>
   exfalso;have h1:ops.size<=i:=by simp_all
   have y:i<sops.length:=(Zag.1 p).1;have:=F.size;omega|some o=>obtain⟨x,b,k⟩:=F.ok i o ho;rw[p]at b;cases b;exact QfF h ho k t fun r q u g m=>Qgf F hQ l _ r q u d g (f.trans m)
theorem Qgt(acc:List Nat):∀(l:List Nat)(m k:Nat),(l.foldl (fun m e=>m|||2^e|||acc.getD e 0) m).testBit k=true->m.testBit k=true\/∃e∈l,k=e\/(acc.getD e 0).testBit k=true
 |[],m,k,h=>.inl h|e::l,m,k,h=>by
  simp only[ZaP]at h;rcases Qgt acc l _ k h with h1|⟨b,a,h1⟩;·grind
  grind
theorem QhA{sops:List SOper}:∀(r pre:List SOper)(acc:List Nat),sops=pre++r->acc.length=pre.length->(∀j k,(acc.getD j 0).testBit k=true->Bef sops k j)->∀j k,((masksFrom acc r).getD j 0).testBit k=true->Bef sops k j
 |[],pre,acc,_,_,h=>h|s::r,pre,acc,g,f,h=>by
  refine QhA r (pre++[s]) _ (by simp[g]) (by simp[f]) ?_;intro j k d;by_cases l:j<acc.length;·grind
  by_cases c:j=acc.length
  ·subst c;have e:(acc++[maskOf acc s]).getD acc.length 0=maskOf acc s:=by simp
   rw[e]at d;have a:sops[acc.length]?=some s:=by simp_all
   rcases Qgt acc s.after 0 k d with h1|⟨i,b,h1⟩;·simp at h1
   rcases h1 with rfl|h1;·exact .one a b
   exact .more a b (h i k h1)
  grind
theorem HM.QrW{α:Type}(m:HM α):∀(h:Heap)(a:α)(h1:Heap),m.run h=some (a,h1)->∀b,h.get b≠none->h1.get b≠none:=by induction m with|ret x=>intro h a h1 hm b c;simp only[HM.run,Zab,Zaj]at hm;obtain⟨rfl,rfl⟩:=hm;exact c|fail=>intro h a h1 hm;simp[HM.run]at hm|look b k d=>intro h a h1 hm;exact d _ h a h1 hm|put b x k d=>
 intro h a h1 hm g c;obtain⟨f,hm⟩:=QaU hm;refine d _ a h1 hm g ?_;rw[Zck _ f];split;·simp
 exact c
theorem QiM{i:Nat}{T:Tmps}{s:SOp}{h a:Heap}{out:AOut}(ho:out.whole=true)(hc:s.still=true)(hm:(aop i T s).run h=some (out,a)):False:=by
 have lf:∀(o:Option AV),(lift o).run h≠some (out,a):=by intro o e;obtain⟨v,_,k⟩:=QaN e;cases k;cases ho
 have hf:∀(m:HM AV),(hval m).run h≠some (out,a):=by intro m e;obtain⟨v,h1,_,k⟩:=QaK e;cases k;cases ho
 have c:∀(u:AV),(HM.ret (AOut.val u)).run h≠some (out,a):=by intro u e;simp only[HM.run,Zab,Zaj]at e;obtain⟨rfl,rfl⟩:=e;cases ho
 cases s<;>simp only[aop]at hm<;>first|exact lf _ hm|exact hf _ hm|exact c _ hm|(simp only[HM.run,reduceCtorEq]at hm;done)|skip
 rename_i m x xs
 cases m with|heap=>simp[SOp.still]at hc|pure=>
  unfold aCall at hm;split at hm;·simp only[HM.run,Zab,Zaj]at hm;obtain⟨rfl,rfl⟩:=hm;cases ho
  ·simp[HM.run]at hm
  simp[HM.run]at hm|borrow=>
  unfold aCall at hm;split at hm;·simp only at hm;obtain⟨b,d,k1,k2⟩:=run_bind hm;simp only[HM.run,Zab,Zaj]at k2;obtain⟨rfl,rfl⟩:=k2;cases ho
  ·simp[HM.run]at hm
  simp[HM.run]at hm
theorem StepX.mono{P:Program}{i:Nat}{s:SOp}{T:Tmps}{h:Heap}{v:AV}{h1:Heap}{fp:FP}(d:StepX P i s T h v h1 fp)(hc:s.still=true){b:Nat}(c:h.get b≠none):h1.get b≠none:=by obtain⟨out,k,hm,ho⟩:=d;have a:=HM.QrW _ h out k hm b c;match out,hm,ho with|.val u,hm,ho=>obtain⟨_,rfl,_⟩:=ho;exact a|.call .pure f args,hm,ho=>obtain⟨_,rfl,_⟩:=ho;exact a|.call .borrow f args,hm,ho=>obtain⟨_,_,rfl,_⟩:=ho;exact a|.call .heap f args,hm,ho=>exact(QiM rfl hc hm).elim|.round b g args,hm,ho=>exact(QiM rfl hc hm).elim
theorem StepV.mono{P:Program}{i:Nat}{s:SOper}{T:Tmps}{h:Heap}{v:AV}{h1:Heap}{fp:FP}(a:StepV P i s T h v h1 fp)(hc:s.op.still=true){b:Nat}(c:h.get b≠none):h1.get b≠none:=by
 unfold StepV at a;split at a;·exact a.mono hc c
 obtain⟨t,_,a⟩:=a;split at a;·grind[StepX.mono]
 simp_all
def newFP(i:Nat)(h h1:Heap)(fp:FP):Prop:=fp.all=false/\(∀b,b∈fp.R\/b∈fp.W->b=i/\h.get i=none/\h1.get i≠none)
theorem Qfc{i:Nat}{x:Nat->Blk}{r:Nat->Nat->AV}{h:Heap}{v:AV}{h1:Heap}(hm:(HM.new .dyn i x fun b g=>.ret (r b g)).run h=some (v,h1)):newFP i h h1 (fpOf ((hval (HM.new .dyn i x fun b g=>.ret (r b g))).fp h)):=by unfold HM.new at hm⊢;simp only[HM.run]at hm;simp only[hval,HM.bind,HM.fp];cases a:h.get i with|some z=>rw[a]at hm;simp[HM.run]at hm|none=>rw[a]at hm;obtain⟨d,hm⟩:=QaU hm;simp only[HM.run,Zab,Zaj]at hm;obtain⟨rfl,rfl⟩:=hm;refine⟨rfl,fun b c=>?_⟩;simp only[fpOf,HM.bind,HM.fp,Zbd,or_self,Zau,ZbQ,or_false]at c;refine⟨c,a,?_⟩;rw[Zck _ d];simp
theorem Qp0{i:Nat}{h h1:Heap}:newFP i h h1 (fpOf ([],[])):=⟨rfl,fun b a=>by simp[fpOf]at a⟩
theorem StepX.fresh{P:Program}{i:Nat}{s:SOp}{T:Tmps}{h:Heap}{v:AV}{h1:Heap}{fp:FP}(a:StepX P i s T h v h1 fp)(hc:s.fresh=true):newFP i h h1 fp:=by
 obtain⟨out,d,hm,ho⟩:=a;have key:∀m:HM AV,aop i T s=hval m->(∀v h1,m.run h=some (v,h1)->newFP i h h1 (fpOf ((hval m).fp h)))->newFP i h h1 fp:=by intro m e f;rw[e]at hm;obtain⟨u,g,o,he⟩:=QaK hm;simp_all
 cases s<;>try(cases hc;done)
 ·rename_i s z;cases s<;>try(cases hc;done)
  refine key _ rfl fun v h1 hm=>?_;unfold aBox at hm⊢;split at hm;·simp_all[Qfc]
  grind[HM.run]
 ·rename_i s z;cases s<;>try(cases hc;done)
  refine key _ rfl fun v h1 hm=>?_;unfold aBox at hm⊢;split at hm;·simp_all[Qfc]
  grind[HM.run]
 ·rename_i fz s sz len z k;cases fz<;>try(cases hc;done)
  cases s<;>try(cases hc;done)
  refine key _ rfl fun v h1 hm=>?_;unfold aBuildSlice at hm⊢;split at hm
  ·rename_i cs hf;split at hm;·simp_all[Qfc]
   grind[HM.run]
  grind[HM.run]
 ·rename_i s;cases s<;>try(cases hc;done)
  refine key _ rfl fun v h1 hm=>?_;simp_all[aMakeMap,Qfc]
 rename_i s sz b z l c;cases s<;>try(cases hc;done)
 refine key _ rfl fun v h1 hm=>?_;unfold aMakeSlice at hm⊢;split at hm
 ·split at hm;·simp_all[Qfc]
  grind[HM.run]
 grind[HM.run]
theorem StepV.fresh{P:Program}{i:Nat}{s:SOper}{T:Tmps}{h:Heap}{v:AV}{h1:Heap}{fp:FP}(a:StepV P i s T h v h1 fp)(hc:s.op.fresh=true):newFP i h h1 fp:=by
 unfold StepV at a;split at a;·exact a.fresh hc
 obtain⟨t,_,a⟩:=a;split at a;·exact StepX.fresh a hc
 obtain⟨_,rfl,rfl⟩:=a;exact Qp0
def HM.seer{α:Type}:HM α->Prop|.ret _=>True|.fail=>True|.look _ k=>k none=.fail/\∀x,(k x).seer|.put _ _ _=>False
theorem HM.Qs2{α:Type}(m:HM α):m.seer->∀h a h1,m.run h=some (a,h1)->(m.fp h).2=[]/\∀b∈(m.fp h).1,h.get b≠none:=by
 induction m with|ret a=>intro _ h a h1 _;exact⟨rfl,fun b hb=>by simp[HM.fp]at hb⟩|fail=>intro _ h a h1 hm;simp[HM.run]at hm|look b k ih=>
  rintro⟨hn,hr⟩h a h1 hm;simp only[HM.run]at hm;obtain⟨k1,k2⟩:=ih _ (hr _) h a h1 hm;refine⟨k1,fun b' hb'=>?_⟩;simp only[HM.fp,Zau]at hb';rcases hb' with rfl|hb';·grind[HM.run]
  exact k2 b' hb'|put b x k ih=>intro hr;exact hr.elim
theorem HM.Qp1{α β:Type}{m:HM α}{f:α->HM β}(h1:m.seer)(d:∀a,(f a).seer):(m.bind f).seer:=by induction m with|ret a=>exact d a|fail=>trivial|look b k c=>exact⟨by simp only[h1.1];rfl,fun x=>c x (h1.2 x)⟩|put b x k c=>exact h1.elim
theorem HM.QlS{α:Type}(o:Option α):(HM.opt o).seer:=by cases o<;>trivial
theorem HM.Qph{α:Type}{b g:Nat}{k:List AV->HM α}(a:∀cs,(k cs).seer):(HM.cells b g k).seer:=by refine⟨rfl,fun x=>?_⟩;match x with
 |some (.cells c cs)=>simp only;cases Nat.beq c g<;>first|exact trivial|exact a cs
 |some (.map _ _)=>trivial|some (.dead _)=>trivial|some (.loop ..)=>trivial|none=>trivial
theorem Qp2(n:Option Nat)(x:AV):(aLoad n x).seer:=by
 unfold aLoad;split
 ·refine HM.Qph fun cs=>?_;split;·exact HM.QlS _
  split<;>trivial
 ·split;·exact HM.QlS _
  split<;>trivial
 trivial
theorem QrX(k:Nat)(x:AV):(aLenC k x).seer:=by
 unfold aLenC;split
 ·unfold aLen;split<;>try trivial
  refine⟨rfl,fun y=>?_⟩;match y with|some (.map a es)=>simp only;rename_i b g _;cases Nat.beq a g<;>trivial|some (.cells _ _)=>trivial|some (.dead _)=>trivial|some (.loop ..)=>trivial|none=>trivial
 trivial
theorem StepV.sees{P:Program}{i:Nat}{s:SOper}{T:Tmps}{h:Heap}{v:AV}{h1:Heap}{fp:FP}(d:StepV P i s T h v h1 fp)(hc:s.op.sees=true):fp.all=false/\fp.W=[]/\∀b∈fp.R,h.get b≠none:=by
 have key:∀{s:SOp},s.sees=true->StepX P i s T h v h1 fp->fp.all=false/\fp.W=[]/\∀b∈fp.R,h.get b≠none:=by
  intro s hc d;obtain⟨out,l,hm,ho⟩:=d;have fin:∀m:HM AV,m.seer->aop i T s=hval m->fp.all=false/\fp.W=[]/\∀b∈fp.R,h.get b≠none:=by intro m a e;have c:(hval m).seer:=HM.Qp1 a fun _=>trivial;rw[e]at hm;have f:=HM.Qs2 _ c h _ _ hm;obtain⟨u,g,k,he⟩:=QaK hm;cases he;obtain⟨rfl,rfl,rfl⟩:=ho;rw[e];exact⟨rfl,f.1,f.2⟩
  cases s<;>try(cases hc;done)
  ·exact fin _ (Qp2 _ _) rfl
  exact fin _ (QrX _ _) rfl
 unfold StepV at d;grind
theorem Qp3{P:Program}{bi k:Nat}{s t:SOper}{A B:St}{v u:AV}{h1 i:Heap}{fs ft:FP}(a:StepV P bi s A.T A.h v h1 fs)(g:StepV P k t B.T B.h u i ft)(hc:s.op.sees=true\/s.op.fresh=true)(hf:t.op.fresh=true)(f:s.op.still=true)(hm:∀b,h1.get b≠none->B.h.get b≠none):fs.apart ft=true:=by
 obtain⟨o,p⟩:=g.fresh hf;have key:fs.all=false/\∀b,b∈fs.R\/b∈fs.W->B.h.get b≠none:=by
  rcases hc with h|h;·obtain⟨k1,k2,k3⟩:=a.sees h;refine⟨k1,fun b q=>hm b (a.mono f ?_)⟩;simp_all
  obtain⟨k1,k2⟩:=a.fresh h;grind
 obtain⟨k1,k2⟩:=key;have m:∀xs d:List Nat,(∀b∈xs,∀c∈d,b≠c)->disj xs d=true:=by intro xs d l;unfold disj;grind
 unfold FP.apart;grind
theorem Qgu{P:Program}{bi i:Nat}{s t:SOper}{A B:St}{v u:AV}{h1 g:Heap}{fs ft:FP}(d:StepV P bi s A.T A.h v h1 fs)(c:StepV P i t B.T B.h u g ft)(hc:s.op.cls=0\/t.op.cls=0\/(s.op.cls<=1/\t.op.cls<=1)):fs.apart ft=true:=by
 rcases hc with h|h|⟨h,f⟩;·obtain⟨a,b,k⟩:=d.cls (by omega);grind[FP.apart,disj]
 ·obtain⟨a,b,k⟩:=c.cls (by omega);grind[FP.apart,disj]
 obtain⟨a,b,_⟩:=d.cls h;obtain⟨l,b2,_⟩:=c.cls f;simp_all[FP.apart,disj]
theorem RunL.each{base:Nat}{sops:List SOper}{fpf:Nat->FP}:∀{l:List Nat}{A C:St},RunL P base sops fpf l A C->∀i∈l,∃(s:SOper)(B:St)(v:AV)(h1:Heap),sops[i]?=some s/\StepV P (base+i) s B.T B.h v h1 (fpf i)
 |[],A,C,_,i,hi=>by simp at hi|j::l,A,C,a,i,hi=>by
  obtain⟨B,⟨s,v,h1,b,c,rfl⟩,a⟩:=a;rcases Zau.1 hi with h|h;·grind
  exact a.each i h
theorem RunL.grow{base:Nat}{sops:List SOper}{fpf:Nat->FP}(a:(sops.all fun s=>s.op.still)=true):∀{l:List Nat}{A C:St},RunL P base sops fpf l A C->∀i∈l,∃(s:SOper)(B:St)(v:AV)(h1:Heap),sops[i]?=some s/\StepV P (base+i) s B.T B.h v h1 (fpf i)/\∀b,A.h.get b≠none->B.h.get b≠none
 |[],A,C,_,i,hi=>by simp at hi|j::l,A,C,c,i,hi=>by
  obtain⟨B,⟨s,v,h1,g,d,rfl⟩,c⟩:=c;rcases Zau.1 hi with h|h;·grind
  obtain⟨t,D,u,k,e,f,hm⟩:=c.grow a i h;exact⟨t,D,u,k,e,f,fun b m=>hm b (d.mono (ZaH.1 a s (Zae g)) m)⟩
theorem RunL.two{base:Nat}{sops:List SOper}{fpf:Nat->FP}(c:(sops.all fun s=>s.op.still)=true):∀{g d:List Nat}{A C:St}{k:Nat},RunL P base sops fpf (g++k::d) A C->∀i∈d,∃(s t:SOper)(B D:St)(v u:AV)(h1 f:Heap),sops[k]?=some s/\sops[i]?=some t/\StepV P (base+k) s B.T B.h v h1 (fpf k)/\StepV P (base+i) t D.T D.h u f (fpf i)/\∀b,h1.get b≠none->D.h.get b≠none|[],d,A,C,k,a,i,hi=>by obtain⟨B,⟨s,v,h1,l,h,rfl⟩,a⟩:=a;obtain⟨t,D,u,f,e,m,hm⟩:=a.grow c i hi;exact⟨s,t,A,D,v,u,h1,f,l,e,h,m,hm⟩|_::g,d,A,C,k,a,i,hi=>by obtain⟨B,_,a⟩:=a;exact RunL.two c a i hi
theorem QlT{n k:Nat}(a:k<n):List.range n=List.range k++k::List.range' (k+1) (n-k-1):=by
 have h1:n=k+(1+(n-k-1)):=by omega
 conv=>lhs;rw[h1,ZbX]
 rw[<-List.range'_append_1,ZbX];grind[Zce]
theorem Qs3{base:Nat}{sops:List SOper}{a:List (Nat×Nat)}{fpf:Nat->FP}{A C:St}(l:freeB sops a=true)(d:RunL P base sops fpf (List.range sops.length) A C)(hp:∀p∈a,(fpf p.1).apart (fpf p.2)=true):Free sops fpf:=by
 unfold freeB at l;simp only[ZaH,Zat,Zaa,Zbq]at l;refine⟨?_,?_⟩;·intro j s f k y;have w:j<sops.length:=(Zag.1 f).1;simp_all
 intro k i q hi;rcases(l i hi).2 k q with h|h;·exact .inl (QhA (sops:=sops) sops [] [] (by simp) rfl (by simp) i k h)
 right;intro s t f r;unfold pairOK at h;rw[f,r]at h;simp only[Zaa,Zbq]at h;refine⟨h.1,?_⟩;obtain⟨u,B1,v1,h1,o,c⟩:=d.each k (by simp;omega);obtain⟨v,B2,v2,E,m,b⟩:=d.each i (by simp;omega);rw[f]at o;cases o;rw[r]at m;cases m;rcases h.2 with(((h|h)|h)|h)|h;·exact Qgu c b (.inl (by simpa using h))
 ·exact Qgu c b (.inr (.inl (by simpa using h)))
 ·grind[Qgu,Zas]
 ·simp_all
 obtain⟨⟨c1,c2⟩,c3⟩:=h;have g:(sops.all fun s=>s.op.still)=true:=c3;rw[QlT (show k<sops.length by omega)]at d;obtain⟨u,v,B1,B2,x,z,G,B,o,m,q1,q2,hm⟩:=d.two g i (by grind);grind[Qp3]
theorem QdG{N:Nat}{ops:Array Oper}:∀{os:List Oper}{a:List SOper},okOpers P N ops os a=true->os.length=a.length/\∀(i:Nat)(o:Oper),os[i]?=some o->∃s,a[i]?=some s/\okOper P N ops o s=true|[],[],_=>⟨rfl,fun i o h=>by simp at h⟩|[],_::_,h=>by simp[okOpers]at h|_::_,[],h=>by simp[okOpers]at h|o::os,s::a,h=>by simp only[okOpers,Zaa]at h;obtain⟨h1,b⟩:=QdG h.2;grind
theorem Qs4{N:Nat}{ops:Array Oper}{sops:List SOper}(h:okOpers P N ops ops.toList sops=true):Fits P N ops sops:=by obtain⟨h1,a⟩:=QdG h;exact⟨by simpa using h1,fun i o ho=>a i o (by simp_all)⟩
theorem Qfd(n j:Nat)(d:Bool):(Array.replicate n false).getD j d=if j<n then false else d:=by
 by_cases h:j<n;·simp[h]
 simp[h]
theorem QlU(n m:Nat)(h:n<=m):rest n (Array.replicate m false)=List.range n:=by unfold rest;apply ZbN.2;intro i hi;rw[Qfd,if_pos (by grind)];rfl
theorem Qgv{ro:Option Nat}{N base id:Nat}{ops:Array Oper}{draw:Bool}{sops:List SOper}{b:List (Nat×Nat)}{fpf:Nat->FP}{A C:St}{c:Ctx (okc P)}{a:Act}{w:World}{Q:Exit->Act->World->Prop}(d:okRegion P N ops draw sops b=true)(f:RunL P base sops fpf (List.range sops.length) A C)(hp:∀p∈b,(fpf p.1).apart (fpf p.2)=true)(S:SRel N c A a w)(hQ:∀c' g w',SRel N c' C g w'->Evo c w c' w'->Q .normal g w'):(Code.region id ops draw).wpIn (FW ro) 0 P Q a w:=by unfold okRegion at d;simp only[Zaa,Zbq,Zbx]at d;obtain⟨h1,h⟩:=d;have F:=Qs4 h1;cases draw with|false=>refine wpIn_region ?_;rw[F.size];exact Qgf F hQ _ A c a w f S (.refl c w)|true=>
 obtain⟨hm,hf⟩:=h.resolve_left (by simp);refine wpIn_region_any hm ?_;have R:=Qs3 hf f hp;obtain⟨E1,H1⟩:=S.heap.drew;have S1:SRel N c A a w.drew:=⟨H1,fun i=>Zcl (E1.ext S.heap.disj) _ _ (S.tmps i),S.size,S.defers.mono E1⟩;refine QpZ (base:=base) F R hQ ops.size _ A C c a w.drew (by simp) ?_ ?_ ?_ (.refl C) S1 E1;·rw[QlU _ _ (by rw[F.size];omega)];simp[F.size]
 ·intro j k;rw[Qfd]at k;simp_all
 rw[QlU _ _ (by rw[F.size];omega)];exact f
def W(P:Program)(N:Nat)(d:SCode)(Q:SX->St->Prop)(A:St):Prop:=∀code,okCode P N code d=true->∀(c:Ctx (okc P))(a:Act)(w:World),SRel N c A a w->∀(ro:Option Nat),(d.rf=true->ro=none)->∀(Q':Exit->Act->World->Prop),(∀e B f g b,Q e B->SRel N f B g b->Evo c w f b->Q' e.toExit g b)->code.wpIn (FW ro) 0 P Q' a w
section rules
variable{N:Nat}{Q:SX->St->Prop}{A:St}
theorem W.mono{f:SCode}{Q':SX->St->Prop}(h:W P N f Q A)(k:∀e B,Q e B->Q' e B):W P N f Q' A:=fun code b c a w S ro d R m=>h code b c a w S ro d R fun e B g i l o S' E'=>m e B g i l (k e B o) S' E'
theorem W.congr{f:SCode}{B:St}(h:W P N f Q A)(e:SEq B A):W P N f Q B:=fun code b c a w S ro d R g=>h code b c a w (S.congr e) ro d R g
theorem W.skip(h:Q .normal A):W P N .skip Q A:=by intro code b c a w S ro d Q' f;cases code<;>simp only[okCode,Zao]at b;exact wpIn_skip (f .normal A c a w h S (.refl c w))
theorem W.ret(h:Q .ret A):W P N .ret Q A:=by intro code b c a w S ro d Q' f;cases code<;>simp only[okCode,Zao]at b;exact wpIn_ret (f .ret A c a w h S (.refl c w))
theorem W.exit{i:Nat}(h:Q (.exit i) A):W P N (.exit i) Q A:=by intro code b c a w S ro d Q' f;cases code<;>simp only[okCode,Zao,beq_iff_eq]at b;subst b;exact wpIn_exit (f (.exit _) A c a w h S (.refl c w))
theorem W.seq{x y:SCode}(h:W P N x (fun e B=>match e with|.normal=>W P N y Q B|e=>Q e B) A):W P N (.seq x y) Q A:=by intro code b c a w S ro d Q' m;cases code<;>simp only[okCode,Zao,Zaa]at b;rename_i o cy;refine wpIn_seq (h o b.1 c a w S ro (fun e=>d (by simp[SCode.rf,e])) _ ?_);intro e B g f k l S' E';cases e with|normal=>exact l cy b.2 g f k S' ro (fun e=>d (by simp[SCode.rf,e])) Q' fun r B2 c2 p w2 q S2 E2=>m r B2 c2 p w2 q S2 (E'.trans E2)|exit i=>exact m (.exit i) B g f k l S' E'|ret=>exact m .ret B g f k l S' E'
theorem W.cond{x:Opd}{y z:SCode}{t:Bool}(h:ev A.T x=.bool t)(h1:t=true->W P N y Q A)(k:t=false->W P N z Q A):W P N (.cond x y z) Q A:=by intro code b c a w S ro d Q' g;cases code<;>simp only[okCode,Zao,Zaa]at b;rename_i o cy i;have f:=Qas S.tmps b.1.1;rw[h]at f;simp only[VRel]at f;refine wpIn_cond f ?_;cases t with|true=>exact h1 rfl cy b.1.2 c a w S ro (fun e=>d (by simp[SCode.rf,e])) Q' g|false=>exact k rfl i b.2 c a w S ro (fun e=>d (by simp[SCode.rf,e])) Q' g
theorem W.block{i:Nat}{b:SCode}(h:W P N b (fun e B=>match e with|.exit j=>if j=i then Q .normal B else Q (.exit j) B|e=>Q e B) A):W P N (.block i b) Q A:=by intro code d c a w S ro p Q' o;cases code<;>simp only[okCode,Zao,Zaa,beq_iff_eq]at d;rename_i j q;obtain⟨rfl,d⟩:=d;refine wpIn_block (h q d c a w S ro (fun e=>p (by simp[SCode.rf,e])) _ ?_);intro e B m g l f S' E';cases e with|normal=>exact o .normal B m g l f S' E'|ret=>exact o .ret B m g l f S' E'|exit k=>
 simp only at f;show(if k=j then Q' .normal g l else Q' (.exit k) g l);split;·rename_i e;rw[if_pos e]at f;exact o .normal B m g l f S' E'
 rename_i e;rw[if_neg e]at f;exact o (.exit k) B m g l f S' E'
theorem lk_rm(T:Tmps)(l:List Nat)(i:Nat):lk (rm T l) i=if l.any (Nat.beq i)then .any else lk T i:=by induction T with|nil=>simp[rm,lk]|cons p T b=>obtain⟨j,u⟩:=p;simp only[rm];cases c:l.any (Nat.beq j)with
 |true=>
  simp only[cond_true,b,lk];by_cases e:j=i;·simp_all
  have a:Nat.beq j i=false:=by simp_all[ZaA]
  rw[a];simp|false=>
  simp only[cond_false,lk,b];by_cases e:j=i;·grind
  have a:Nat.beq j i=false:=by simp_all[ZaA]
  rw[a];simp
theorem SRel.forget{c:Ctx (okc P)}{a:Act}{w:World}{T:Tmps}{h:Heap}(S:SRel N c ⟨T,h⟩ a w)(l:List Nat):SRel N c ⟨rm T l,h⟩ a w:=⟨S.heap,fun i=>by rw[lk_rm];split<;>first|exact S.tmps i|simp[VRel],S.size,S.defers⟩
theorem W.region{sops:List SOper}{b:List (Nat×Nat)}{dead:List Nat}(base:Nat)(fpf:Nat->FP){C:St}(k:RunL P base sops fpf (List.range sops.length) A C)(hp:∀p∈b,(fpf p.1).apart (fpf p.2)=true)(hQ:Q .normal ⟨rm C.T dead,C.h⟩):W P N (.region sops b dead) Q A:=by intro code d c a w S ro i Q' f;cases code<;>simp only[okCode,Zao]at d;exact Qgv d k hp S fun l h g S' E'=>f .normal _ l h g hQ (S'.forget dead) E'
end rules
end Go.AM
