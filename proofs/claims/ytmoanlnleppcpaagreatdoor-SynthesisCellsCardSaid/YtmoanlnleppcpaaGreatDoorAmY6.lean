/- A part of the proof of SynthesisCellsCardSaid: lemmas on the way (AmJ, AmK). Conditions: none of ours. -/
import Derived.Orders
import Derived.Test.YtmoanlnleppcpaaGreatDoorAmY5
set_option linter.unusedSectionVars false
set_option maxHeartbeats 32000000
set_option maxRecDepth 100000
set_option linter.unusedVariables false
set_option linter.unusedSimpArgs false
namespace Go.AM
variable{P:Program}
mutual theorem VRel.noRef{ok:Okc}{c c':Ctx ok}{w:World}(hF:∀k,c.F k->c'.F k):∀(x:AV)(v:Value),noRef x=true->VRel c w x v->VRel c' w x v
 |.any,_,_,_=>by simp[VRel]|.bool b,_,_,h=>by simpa[VRel]using h|.int k n,_,_,h=>by simpa[VRel]using h|.str s,_,_,h=>by simpa[VRel]using h|.agg cs,v,hn,h=>by simp only[VRel]at h⊢;simp only[AM.noRef]at hn;obtain⟨vs,rfl,h⟩:=h;exact⟨vs,rfl,VRels.noRef hF cs _ hn h⟩|.tup cs,v,hn,h=>by simp only[VRel]at h⊢;simp only[AM.noRef]at hn;obtain⟨vs,rfl,h⟩:=h;exact⟨vs,rfl,VRels.noRef hF cs _ hn h⟩|.nilptr,_,_,h=>by simpa[VRel]using h|.ptr b g off,v,hn,h=>by simp[AM.noRef]at hn|.fptr cs,v,hn,h=>by simp only[VRel]at h⊢;simp only[AM.noRef]at hn;obtain⟨cb,off,C,e,fr,h1,h2,h3,h4⟩:=h;exact⟨cb,off,C,e,fr,h1,hF _ h2,h3,VPre.noRef hF cs _ hn h4⟩|.nilsl,_,_,h=>by simpa[VRel]using h|.sl b g off len sz,v,hn,h=>by simp[AM.noRef]at hn|.fsl cs len sz,v,hn,h=>by
  simp only[VRel]at h⊢;simp only[AM.noRef]at hn;rcases h with h|⟨cb,off,cap,C,e,fr,h1,h2,h3,h4,h5,h6⟩;·exact .inl h
  ·exact .inr ⟨cb,off,cap,C,e,fr,h1,h2,h3,hF _ h4,h5,VPre.noRef hF cs _ hn h6⟩|.esl,_,_,h=>by simpa[VRel]using h|.nsl,_,_,h=>by simpa[VRel]using h|.nilmap,_,_,h=>by simpa[VRel]using h|.map b g,v,hn,h=>by simp[AM.noRef]at hn|.fmap ks vs,v,hn,h=>by simp only[VRel]at h⊢;simp only[AM.noRef,Zab]at hn;obtain⟨mb,es,clock,h1,h2,h3,h4,h5,h6,h7⟩:=h;exact⟨mb,es,clock,h1,hF _ h2,h3,h4,h5,VRels.noRef hF ks _ hn.1 h6,VRels.noRef hF vs _ hn.2 h7⟩|.nilfn,_,_,h=>by simpa[VRel]using h|.fn f x y,v,hn,h=>by simp only[VRel]at h⊢;simp only[AM.noRef,Zab]at hn;obtain⟨x',y',h1,h2,h3⟩:=h;exact⟨x',y',h1,VRels.noRef hF x _ hn.1 h2,VRels.noRef hF y _ hn.2 h3⟩|.nilif,_,_,h=>by simpa[VRel]using h|.yld b g,v,hn,h=>by simp[AM.noRef,AM.flatV]at hn|.typed _ _ _,v,hn,h=>by simp[AM.noRef,AM.flatV]at hn|.ifc t x,v,hn,h=>by simp only[VRel]at h⊢;simp only[AM.noRef]at hn;obtain⟨x',h1,h2⟩:=h;exact⟨x',h1,VRel.noRef hF x _ hn h2⟩theorem VRels.noRef{ok:Okc}{c c':Ctx ok}{w:World}(hF:∀k,c.F k->c'.F k):∀(x:List AV)(v:List Value),noRefs x=true->VRels c w x v->VRels c' w x v|[],_,_,h=>by simpa[VRels]using h|x::xs,v,hn,h=>by simp only[VRels]at h⊢;simp only[AM.noRefs,Zab]at hn;obtain⟨u,us,h1,h2,h3⟩:=h;exact⟨u,us,h1,VRel.noRef hF x _ hn.1 h2,VRels.noRef hF xs _ hn.2 h3⟩theorem VPre.noRef{ok:Okc}{c c':Ctx ok}{w:World}(hF:∀k,c.F k->c'.F k):∀(x:List AV)(v:List Value),noRefs x=true->VPre c w x v->VPre c' w x v|[],_,_,_=>by simp[VPre]|x::xs,v,hn,h=>by simp only[VPre]at h⊢;simp only[AM.noRefs,Zab]at hn;obtain⟨u,us,h1,h2,h3⟩:=h;exact⟨u,us,h1,VRel.noRef hF x _ hn.1 h2,VPre.noRef hF xs _ hn.2 h3⟩end
mutual theorem VRel.flat{ok:Okc}{c c':Ctx ok}{w w':World}:∀(x:AV)(v:Value),flatV x=true->VRel c w x v->VRel c' w' x v|.any,_,_,_=>by simp[VRel]|.bool b,_,_,h=>by simpa[VRel]using h|.int k n,_,_,h=>by simpa[VRel]using h|.str s,_,_,h=>by simpa[VRel]using h|.agg cs,v,hn,h=>by simp only[VRel]at h⊢;simp only[flatV]at hn;obtain⟨vs,rfl,h⟩:=h;exact⟨vs,rfl,VRels.flat cs _ hn h⟩|.tup cs,v,hn,h=>by simp only[VRel]at h⊢;simp only[flatV]at hn;obtain⟨vs,rfl,h⟩:=h;exact⟨vs,rfl,VRels.flat cs _ hn h⟩|.nilptr,_,_,h=>by simpa[VRel]using h|.ptr b g off,v,hn,h=>by simp[flatV]at hn|.fptr cs,v,hn,h=>by simp[flatV]at hn|.nilsl,_,_,h=>by simpa[VRel]using h|.sl b g off len sz,v,hn,h=>by simp[flatV]at hn|.fsl cs len sz,v,hn,h=>by simp[flatV]at hn|.esl,_,_,h=>by simpa[VRel]using h|.nsl,_,_,h=>by simpa[VRel]using h|.nilmap,_,_,h=>by simpa[VRel]using h|.map b g,v,hn,h=>by simp[flatV]at hn|.fmap ks vs,v,hn,h=>by simp[flatV]at hn|.nilfn,_,_,h=>by simpa[VRel]using h|.fn f x y,v,hn,h=>by simp only[VRel]at h⊢;simp only[flatV,Zab]at hn;obtain⟨x',y',h1,h2,h3⟩:=h;exact⟨x',y',h1,VRels.flat x _ hn.1 h2,VRels.flat y _ hn.2 h3⟩|.nilif,_,_,h=>by simpa[VRel]using h|.yld b g,v,hn,h=>by simp[AM.noRef,AM.flatV]at hn|.typed _ _ _,v,hn,h=>by simp[AM.noRef,AM.flatV]at hn|.ifc t x,v,hn,h=>by simp only[VRel]at h⊢;simp only[flatV]at hn;obtain⟨x',h1,h2⟩:=h;exact⟨x',h1,VRel.flat x _ hn h2⟩theorem VRels.flat{ok:Okc}{c c':Ctx ok}{w w':World}:∀(x:List AV)(v:List Value),flatVs x=true->VRels c w x v->VRels c' w' x v|[],_,_,h=>by simpa[VRels]using h|x::xs,v,hn,h=>by simp only[VRels]at h⊢;simp only[flatVs,Zab]at hn;obtain⟨u,us,h1,h2,h3⟩:=h;exact⟨u,us,h1,VRel.flat x _ hn.1 h2,VRels.flat xs _ hn.2 h3⟩end
def only{ok:Okc}(F:Nat->Prop)(n:Nat:=0):Ctx ok:={ρ:=fun _ _=>none,F:=F,O:=fun _=>False,base:=n}
theorem HRel.only{ok:Okc}{F:Nat->Prop}{n:Nat}{w:World}(d:∀k,F k->k<w.heap.size):HRel (only (ok:=ok) F n) .e w:=⟨fun _ _ _=>rfl,fun b x a=>by simp[Tr.get]at a,fun b x a=>by simp[Tr.get]at a,fun b g j f i base c l=>by obtain⟨x,a,_⟩:=l;simp[Tr.get]at a,fun _ _ h=>h,d,fun _ h=>h.elim⟩
theorem PSpec.pure{f:Nat}{args:List AV}{v:AV}{c:Ctx (okc P)}{h:Heap}{w:World}{a:Array Value}(S:PSpec P f args v)(H:HRel c h w)(q:VRels c w args a.toList):Callable P f/\Calls P f a w (Rets P c w h v):=by
 obtain⟨p,m,r,hc,n⟩:=S;refine⟨hc,(n (only c.F) w a (HRel.only H.inF) (VRels.noRef (c:=c) (c':=only c.F) (fun _ h=>h) _ _ p q)).mono ?_⟩;rintro e j⟨o,g,rfl,E,H',V⟩;have d:∀k,k<w.heap.size->j.heap[k]?=w.heap[k]?:=fun k d=>E.keep k d (fun h=>h);obtain⟨E1,H1⟩:=H.grow E.os E.tape E.output E.size d;have i:∀k,g.F k->¬c.O k/\k<j.heap.size:=by
  intro k d;refine⟨fun l=>?_,H'.inF k d⟩;rcases E.frzNew k d with h|h|h;·exact H.disj k h l
  ·exact h
  have:=H.inO k l;omega
 refine⟨o,{c with F:=g.F},rfl,?_,H1.frozen g.F (fun k d=>E.frz k d) i,VRel.noRef (c:=g) (c':={c with F:=g.F}) (fun _ h=>h) _ _ m V⟩;refine⟨E1.os,E1.tape,E1.output,E1.size,E1.shape,E1.keep,E1.rho,fun k d=>E.frz k d,fun k d=>?_,E1.own,rfl⟩;rcases E.frzNew k d with h|h|h;·exact .inl h
 ·exact h.elim
 omega
theorem PSpec.borrow{f:Nat}{args:List AV}{v:AV}{c:Ctx (okc P)}{h:Heap}{w:World}{a:Array Value}(S:PSpec P f args v)(m:flatV v=true)(H:HRel c h w)(i:VRels (lent c) w args a.toList):Callable P f/\Calls P f a w (Rets P c w h v):=by obtain⟨g,q,r,hc,n⟩:=S;have l:∀k,(c.F k\/c.O k)->k<w.heap.size:=fun k d=>d.elim (H.inF k) (H.inO k);refine⟨hc,(n (only fun k=>c.F k\/c.O k) w a (HRel.only l) (VRels.noRef (c:=lent c) (c':=only fun k=>c.F k\/c.O k) (fun _ h=>h) _ _ g i)).mono ?_⟩;rintro e j⟨o,p,rfl,E,H',V⟩;have d:∀k,k<w.heap.size->j.heap[k]?=w.heap[k]?:=fun k d=>E.keep k d (fun h=>h);obtain⟨E1,H1⟩:=H.grow E.os E.tape E.output E.size d;exact⟨o,c,rfl,E1,H1,VRel.flat _ _ m V⟩
theorem HSpec.heap{f:Nat}{args:List AV}{v:AV}{c:Ctx (okc P)}{h h':Heap}{w:World}{a:Array Value}(S:HSpec P f args h v h')(H:HRel c h w)(d:VRels c w args a.toList):Callable P f/\Calls P f a w (Rets P c w h' v):=⟨S.1,S.2 c w a H d⟩
theorem VPre.flat{ok:Okc}{c c':Ctx ok}{w w':World}:∀{xs:List AV}{vs:List Value},flatVs xs=true->VPre c w xs vs->VPre c' w' xs vs|[],_,_,_=>by simp[VPre]|x::xs,vs,hf,d=>by simp only[flatVs,Zab]at hf;simp only[VPre]at d⊢;obtain⟨v,a,rfl,f,g⟩:=d;exact⟨v,a,rfl,VRel.flat _ _ hf.1 f,VPre.flat hf.2 g⟩
theorem Qji{ok:Okc}{b g:Nat}{c a:Ctx ok}{w:World}(h1:a.ρ b g=c.ρ b g)(h:∀k,c.F k->a.F k):∀{args:List AV}{vs:List Value},own1 b g args=true->VRels c w args vs->VRels a w args vs
 |[],vs,_,d=>by grind[VRels]|x::xs,vs,ho,d=>by
  simp only[VRels]at d⊢;obtain⟨v,f,rfl,j,i⟩:=d;have rest:own1 b g xs=true/\VRel a w x v:=by
   cases x<;>simp only[own1,Zab,beq_iff_eq]at ho<;>first|exact⟨ho.2,VRel.noRef h _ _ ho.1 j⟩|skip
   obtain⟨⟨rfl,rfl⟩,ho⟩:=ho;simp_all[VRel]
  exact⟨v,f,rfl,rest.2,Qji h1 h rest.1 i⟩
theorem GSpec.give{f b g:Nat}{args xs:List AV}{v:AV}{c:Ctx (okc P)}{h:Heap}{w:World}{d:Array Value}(S:GSpec P f args b g xs v)(H:HRel c h w)(I:h.get b=some (.cells g xs))(U:VRels c w args d.toList):Callable P f/\Calls P f d w (Rets P c w (h.set b (.dead g)) v):=by
 obtain⟨hc,ho,hv,hx,s,hs⟩:=S;have z:∀{y:Blk}k,(one b y).get k=if k=b then some y else none:=fun{y}k=>QrD s k;have m:Live h b g:=⟨_,I,rfl,fun _=>by simp⟩;let u:Ctx (okc P):={ρ:=fun k y=>if k=b then c.ρ k y else none,F:=c.F,O:=fun k=>∃base,c.ρ b g=some (.loc k base),base:=c.base};have o:∀y,u.ρ b y=c.ρ b y:=fun y=>if_pos rfl;have p:∀k,u.O k->c.O k:=fun k⟨base,a⟩=>H.owned m a;have H1:HRel u (one b (.cells g xs)) w:=by
  refine⟨fun k a y=>?_,fun k x a y q=>?_,fun k x a=>?_,fun k y O Q n base i R M _ _=>?_,fun k B l=>H.disj k B (p k l),H.inF,fun k l=>H.inO k (p k l)⟩;·grind
  ·rw[z]at a;split at a;·rename_i e;subst e;cases a;rw[o];exact H.later k _ I y q
   cases a
  ·rw[z]at a;split at a
   ·rename_i e;subst e;cases a;rcases H.blk k _ I with⟨h1,N⟩|⟨n,base,C,e,fr,h1,N,h3,h4,Y,Z⟩;·exact .inl ⟨(o _).trans h1,N⟩
    exact .inr ⟨n,base,C,e,fr,(o _).trans h1,⟨base,h1⟩,h3,h4,Y,VPre.flat hx Z⟩
   cases a
  grind
 refine⟨hc,(hs u w d H1 (Qji (o g) (fun _ h=>h) ho U)).mono ?_⟩;rintro e T⟨cv,t,rfl,E,K,V⟩;have r:∀k,t.F k\/t.O k->c.F k\/u.O k\/w.heap.size<=k:=fun k a=>a.elim (E.frzNew k) fun h=>.inr (E.own k h);let J:Ctx (okc P):={ρ:=c.ρ,F:=fun k=>t.F k\/t.O k,O:=fun k=>c.O k/\¬(t.F k\/t.O k),base:=c.base};have E2:Evo c w J T:=⟨E.os,E.tape,E.output,E.size,E.shape,fun k a l=>E.keep k a fun h=>l (p k h),fun _ _ _ h=>h,fun k a=>.inl (E.frz k a),fun k a=>(r k a).elim .inl fun h=>h.elim (fun h=>.inr (.inl (p k h))) fun h=>.inr (.inr h),fun k a=>.inl a.1,rfl⟩;refine⟨cv,J,rfl,E2,?_,VRel.noRef (c:=lent t) (c':=J) (fun _ h=>h) _ _ hv V⟩;have j:∀k,(h.set b (.dead g)).get k=if k=b then some (.dead g)else h.get k:=fun k=>Zb7 _ s k _;have F:∀k y,Live (h.set b (.dead g)) k y->Live h k y:=by
  rintro k y⟨x,a,hg,G⟩;rw[j]at a;split at a;·grind
  exact⟨x,a,hg,G⟩
 refine⟨fun k a y=>?_,fun k x a y q=>?_,fun k x a=>?_,fun k y O Q n base i R M X p2=>H.inj k y O Q n base i (F _ _ R) (F _ _ M) X p2,fun k B l=>l.2 B,K,fun k l=>ZaX (H.inO k l.1) E.size⟩
 ·rw[j]at a;split at a;·cases a
  exact H.fresh k a y
 ·rw[j]at a;split at a;·rename_i e;subst e;cases a;exact H.later k _ I y q
  exact H.later k x a y q
 rw[j]at a;split at a;·cases a;trivial
 rename_i e;refine Zca (E2.ext H.disj) (fun n base G hp=>?_) (H.blk k x a);have l:=H.owned ⟨x,a,rfl,G⟩ hp;have A:¬u.O n:=by rintro⟨i,L⟩;exact e (H.inj _ _ _ _ _ _ _ ⟨x,a,rfl,G⟩ m hp L)
 refine⟨⟨l,fun B=>?_⟩,E.keep n (H.inO _ l) A⟩;rcases r n B with h1|h1|h1;·exact H.disj n h1 l
 ·exact A h1
 have:=H.inO n l;omega
theorem GSpec.heap{f b g:Nat}{args xs:List AV}{v:AV}{h:Heap}(S:GSpec P f args b g xs v)(a:h.get b=some (.cells g xs)):HSpec P f args h v (h.set b (.dead g)):=⟨S.1,fun _ _ _ H c=>(S.give H a c).2⟩
theorem NSpec.new{f i len sz:Nat}{J ys:List AV}{c:Ctx (okc P)}{h:Heap}{w:World}{d:Array Value}{F0:Nat->Prop}(S:NSpec P f J ys len sz)(H:HRel c h w)(I:∀k,c.F k->F0 k)(hFO:∀k,F0 k->c.F k\/c.O k)(L:flatVs ys=true\/(noRefs ys=true/\∀k,F0 k->c.F k))(ha:VRels (only (ok:=okc P) F0) w J d.toList)(z:i<lim)(hi:h.get i=none):Calls P f d w (Rets P c w (h.set i (.cells 0 ys)) (.sl i 0 0 len sz)):=by
 obtain⟨_,_,b,g,off,cs,h',l,hoff,hb,_,hs⟩:=S;have hF0:∀k,F0 k->k<w.heap.size:=fun k a=>(hFO k a).elim (H.inF k) (H.inO k);refine(hs (only F0) w d (HRel.only hF0) ha).mono ?_;rintro e T⟨cv,M,rfl,E,H',V⟩;have j:∀k,k<w.heap.size->T.heap[k]?=w.heap[k]?:=fun k a=>E.keep k a (fun h=>h);have N:∀k,M.O k->w.heap.size<=k:=fun k q=>(E.own k q).elim (fun h=>h.elim) id;obtain⟨E1,H1⟩:=H.grow E.os E.tape E.output E.size j;let F2:Nat->Prop:=fun k=>M.F k/\(c.F k\/w.heap.size<=k);have B:∀k,c.F k->F2 k:=fun k a=>⟨E.frz k (I k a),.inl a⟩;have H2:HRel ({c with F:=F2}:Ctx (okc P)) h T:=H1.frozen F2 B fun k a=>⟨fun q=>a.2.elim (fun h=>H.disj k h q) fun h=>(by have:=H.inO k q;omega),H'.inF k a.1⟩;have E2:Evo c w ({c with F:=F2}:Ctx (okc P)) T:=⟨E1.os,E1.tape,E1.output,E1.size,E1.shape,E1.keep,E1.rho,B,fun k a=>a.2.elim .inl fun h=>.inr (.inr h),E1.own,rfl⟩;have Q:∀y,c.ρ i y=none:=fun y=>H.fresh i hi y;rcases H'.blk b _ hb with⟨hp,rfl⟩|⟨n,base,C,ty,fr,hp,q,hC,X,hbs,v⟩
 ·simp only[VRel]at V;rcases V with⟨_,rfl,rfl,rfl⟩|⟨n,base,o,cap,C,ty,fr,s,_⟩;·simp only[List.drop_nil]at l;subst l;have A:=H2.putNil (b:=i) (g:=0) z (fun y _=>Q y) (.inl (Q 0));exact⟨_,_,rfl,E2.trans A.1,A.2,by simp_all[VRel,QaX]⟩
  simp_all
 simp only[VRel]at V;rcases V with⟨s,_⟩|⟨cb2,base2,o,cap,C2,ty2,fr2,s,rfl,hlc,O,hcap⟩;·simp_all
 rw[show M.ρ b g=_ from hp]at s;cases s;rw[hC]at O;cases O;have hcn:=N n q;have hlen:=Qa7 v;simp at hlen;have Z:=Qa5 off v;rw[ZaU,l]at Z;have Y:¬M.F n:=fun h=>H'.disj n h q;have hcO:¬c.O n:=fun h=>by have:=H.inO n h;omega
 let u:Ctx (okc P):=({c with F:=F2}:Ctx (okc P)).with i 0 (.loc n (base+off)) (some n);have G:∀k y,k≠i->u.ρ k y=c.ρ k y:=fun k y hne=>by show(if k=i/\y=0 then _ else c.ρ k y)=_;simp_all
 have hr2:∀y,y≠0->u.ρ i y=none:=fun y hne=>by show(if i=i/\y=0 then _ else c.ρ i y)=_;simp_all
 have hr0:u.ρ i 0=some (.loc n (base+off)):=QaX;have F:∀k,u.O k->c.O k\/k=n:=fun k a=>a.imp id fun h=>Option.some.inj h;have E3:Evo c w u T:=⟨E1.os,E1.tape,E1.output,E1.size,E1.shape,fun k h1 _=>j k h1,fun k y p hp=>by grind,B,fun k a=>a.2.elim .inl fun h=>.inr (.inr h),fun k a=>(F k a).elim .inl fun h=>.inr (by omega),rfl⟩;have m:∀k,(h.set i (.cells 0 ys)).get k=if k=i then some (.cells 0 ys)else h.get k:=fun k=>Zb7 _ z k _;refine⟨_,u,rfl,E3,?_,?_⟩
 ·refine⟨fun k a y=>?_,fun k x a y hlt=>?_,fun k x a=>?_,fun k y k' y' t b1 b1' l1 l2 p1 p2=>?_,fun k I q=>?_,fun k I=>H'.inF k I.1,fun k q=>?_⟩
  ·rw[m]at a;split at a;·cases a
   rename_i e;rw[G k y e];exact H.fresh k a y
  ·rw[m]at a;split at a;·grind
   rename_i e;rw[G k y e];exact H.later k x a y hlt
  ·rw[m]at a;split at a
   ·rename_i e;subst e;cases a;refine .inr ⟨n,base+off,C,ty,fr,hr0,.inr rfl,hC,X,by omega,?_⟩;rcases L with L|⟨L,hFc⟩;·exact VPre.flat L Z
    refine VPre.noRef (c:=M) (c':=u) (fun k R=>⟨R,?_⟩) _ _ L Z;rcases E.frzNew k R with h1|h1|h1;·exact .inl (hFc k h1)
    ·exact h1.elim
    omega
   rename_i e;refine Zca (E3.ext H.disj) (fun cb' base' U r=>?_) (H.blk k x ‹_›);have K:=H.owned ⟨x,a,rfl,U⟩ r;exact⟨.inl K,j cb' (H.inO _ K)⟩
  ·have key:∀k y b,Live (h.set i (.cells 0 ys)) k y->u.ρ k y=some (.loc t b)->(k=i/\t=n)\/(k≠i/\Live h k y/\c.ρ k y=some (.loc t b)/\t<w.heap.size):=by
    rintro k y b⟨x,a,hg,U⟩r;rw[m]at a;split at a;·grind
    rename_i e;rw[G k y e]at r;exact .inr ⟨e,⟨x,a,hg,U⟩,r,H.inO _ (H.owned ⟨x,a,hg,U⟩ r)⟩
   rcases key k y b1 l1 p1 with⟨k1,k2⟩|⟨k1,k2,k3,k4⟩<;>rcases key k' y' b1' l2 p2 with⟨j1,j2⟩|⟨j1,j2,j3,j4⟩;·rw[k1,j1]
   ·omega
   ·omega
   exact H.inj _ _ _ _ _ _ _ k2 j2 k3 j3
  ·rcases F k q with h1|rfl;·exact I.2.elim (fun h2=>H.disj k h2 h1) fun h2=>by have:=H.inO k h1;omega
   exact Y I.1
  rcases F k q with h1|rfl;·exact ZaX (H.inO k h1) E.size
  grind
 simp only[VRel];grind
theorem NStep.calls{i f:Nat}{args:List AV}{v:AV}{c:Ctx (okc P)}{h h1:Heap}{fp:FP}{w:World}{a:Array Value}(N:NStep P i f args h v h1 fp)(H:HRel c h w)(l:VRels c w args a.toList):Callable P f/\Calls P f a w (Rets P c w h1 v):=by
 obtain⟨j,R,n,o⟩:=N;have own:j=args->noRefs j=true->VRels (only (ok:=okc P) c.F) w j a.toList:=fun e p=>by subst e;exact VRels.noRef (c:=c) (c':=only c.F) (fun _ h=>h) _ _ p l
 have lend:(mapH (frzH 4) args).run h=some (j,h)->VRels (lent c) w j a.toList:=fun hm=>(QcV (Qep H 4) _ _ _ _ l hm).2;rcases o with⟨r,len,sz,g,d,m,hi,rfl,rfl,_⟩|⟨g,d,rfl,_⟩
 ·refine⟨g.1,?_⟩;rcases n with⟨e,_⟩|⟨hm,_⟩;·exact g.new H (F0:=c.F) (fun _ h=>h) (fun _ h=>.inl h) (d.imp id fun h=>⟨h.1,fun _ h=>h⟩) (own e g.2.1) m hi
  rcases d with d|⟨d,q⟩;·exact g.new H (F0:=fun k=>c.F k\/c.O k) (fun _ h=>.inl h) (fun _ h=>h) (.inl d) (VRels.noRef (c:=lent c) (c':=only fun k=>c.F k\/c.O k) (fun _ h=>h) _ _ g.2.1 (lend hm)) m hi
  exact g.new H (F0:=c.F) (fun _ h=>h) (fun _ h=>.inl h) (.inr ⟨d,fun _ h=>h⟩) (own q g.2.1) m hi
 rcases n with⟨e,_⟩|⟨hm,_⟩;·subst e;exact g.pure H l
 rcases d with d|d;·exact g.borrow d H (lend hm)
 subst d;exact g.pure H l
theorem NStep.heap{i f:Nat}{args:List AV}{v:AV}{h h1:Heap}{fp:FP}(N:NStep P i f args h v h1 fp):HSpec P f args h v h1:=by
 have hc:Callable P f:=by
  obtain⟨c,R,_,⟨_,_,_,a,_⟩|⟨a,_⟩⟩:=N;·exact a.1
  exact a.2.2.choose_spec.1
 exact⟨hc,fun _ _ _ H d=>(N.calls H d).2⟩
mutual theorem VRel.inB{ok:Okc}{B:List Nat}{c c':Ctx ok}{w:World}(hr:∀b∈B,∀g,c'.ρ b g=c.ρ b g)(hF:∀k,c.F k->c'.F k):∀(x:AV)(v:Value),AM.inB B x=true->VRel c w x v->VRel c' w x v
 |.any,_,_,_=>by simp[VRel]|.bool b,_,_,h=>by simpa[VRel]using h|.int k n,_,_,h=>by simpa[VRel]using h|.str s,_,_,h=>by simpa[VRel]using h|.agg cs,v,hn,h=>by simp only[VRel]at h⊢;simp only[AM.inB]at hn;obtain⟨vs,rfl,h⟩:=h;exact⟨vs,rfl,VRels.inB hr hF cs _ hn h⟩|.tup cs,v,hn,h=>by simp only[VRel]at h⊢;simp only[AM.inB]at hn;obtain⟨vs,rfl,h⟩:=h;exact⟨vs,rfl,VRels.inB hr hF cs _ hn h⟩|.nilptr,_,_,h=>by simpa[VRel]using h|.ptr b g off,v,hn,h=>by simp only[AM.inB,Qc7]at hn;simp only[VRel]at h⊢;rw[hr b hn];exact h|.fptr cs,v,hn,h=>by simp only[VRel]at h⊢;simp only[AM.inB]at hn;obtain⟨cb,off,C,e,fr,h1,h2,h3,h4⟩:=h;exact⟨cb,off,C,e,fr,h1,hF _ h2,h3,VPre.inB hr hF cs _ hn h4⟩|.nilsl,_,_,h=>by simpa[VRel]using h|.sl b g off len sz,v,hn,h=>by simp only[AM.inB,Qc7]at hn;simp only[VRel]at h⊢;rw[hr b hn];exact h|.fsl cs len sz,v,hn,h=>by
  simp only[VRel]at h⊢;simp only[AM.inB]at hn;rcases h with h|⟨cb,off,cap,C,e,fr,h1,h2,h3,h4,h5,h6⟩;·exact .inl h
  ·exact .inr ⟨cb,off,cap,C,e,fr,h1,h2,h3,hF _ h4,h5,VPre.inB hr hF cs _ hn h6⟩|.esl,_,_,h=>by simpa[VRel]using h|.nsl,_,_,h=>by simpa[VRel]using h|.nilmap,_,_,h=>by simpa[VRel]using h|.map b g,v,hn,h=>by simp only[AM.inB,Qc7]at hn;simp only[VRel]at h⊢;rw[hr b hn];exact h|.fmap ks vs,v,hn,h=>by simp only[VRel]at h⊢;simp only[AM.inB,Zab]at hn;obtain⟨mb,es,clock,h1,h2,h3,h4,h5,h6,h7⟩:=h;exact⟨mb,es,clock,h1,hF _ h2,h3,h4,h5,VRels.inB hr hF ks _ hn.1 h6,VRels.inB hr hF vs _ hn.2 h7⟩|.nilfn,_,_,h=>by simpa[VRel]using h|.fn f x y,v,hn,h=>by simp only[VRel]at h⊢;simp only[AM.inB,Zab]at hn;obtain⟨x',y',h1,h2,h3⟩:=h;exact⟨x',y',h1,VRels.inB hr hF x _ hn.1 h2,VRels.inB hr hF y _ hn.2 h3⟩|.nilif,_,_,h=>by simpa[VRel]using h|.yld b g,v,hn,h=>by simp only[AM.inB,Qc7]at hn;simp only[VRel]at h⊢;rw[hr b hn];exact h|.ifc t x,v,hn,h=>by simp only[VRel]at h⊢;simp only[AM.inB]at hn;obtain⟨x',h1,h2⟩:=h;exact⟨x',h1,VRel.inB hr hF x _ hn h2⟩|.typed t n x,v,hn,h=>by simp only[VRel]at h⊢;simp only[AM.inB]at hn;exact⟨h.1,VRel.inB hr hF x _ hn h.2⟩theorem VRels.inB{ok:Okc}{B:List Nat}{c c':Ctx ok}{w:World}(hr:∀b∈B,∀g,c'.ρ b g=c.ρ b g)(hF:∀k,c.F k->c'.F k):∀(x:List AV)(v:List Value),inBs B x=true->VRels c w x v->VRels c' w x v|[],_,_,h=>by simpa[VRels]using h|x::xs,v,hn,h=>by simp only[VRels]at h⊢;simp only[AM.inBs,Zab]at hn;obtain⟨u,us,h1,h2,h3⟩:=h;exact⟨u,us,h1,VRel.inB hr hF x _ hn.1 h2,VRels.inB hr hF xs _ hn.2 h3⟩theorem VPre.inB{ok:Okc}{B:List Nat}{c c':Ctx ok}{w:World}(hr:∀b∈B,∀g,c'.ρ b g=c.ρ b g)(hF:∀k,c.F k->c'.F k):∀(x:List AV)(v:List Value),inBs B x=true->VPre c w x v->VPre c' w x v|[],_,_,_=>by simp[VPre]|x::xs,v,hn,h=>by simp only[VPre]at h⊢;simp only[AM.inBs,Zab]at hn;obtain⟨u,us,h1,h2,h3⟩:=h;exact⟨u,us,h1,VRel.inB hr hF x _ hn.1 h2,VPre.inB hr hF xs _ hn.2 h3⟩end
theorem MRel.inB{ok:Okc}{B:List Nat}{c c':Ctx ok}{w:World}(i:∀b∈B,∀g,c'.ρ b g=c.ρ b g)(d:∀k,c.F k->c'.F k):∀{x:List (AV×AV)}{es:List MapEntry}{clock:Nat},inBe B x=true->MRel c w x es clock->MRel c' w x es clock|[],_,_,_,h=>by simpa[MRel]using h|(k,x)::r,es,clock,a,h=>by simp only[MRel]at h⊢;simp only[inBe,Zab]at a;obtain⟨e,f,h1,o,m,n,j,l⟩:=h;exact⟨e,f,h1,VRel.inB i d k _ a.1.1 o,VRel.inB i d x _ a.1.2 m,n,j,MRel.inB i d a.2 l⟩
theorem FStep.calls{f:Nat}{args:List AV}{v:AV}{c:Ctx (okc P)}{h h1:Heap}{fp:FP}{w:World}{l:Array Value}(S:FStep P f args h v h1 fp)(H:HRel c h w)(ha:VRels c w args l.toList):Callable P f/\Calls P f l w (Rets P c w h1 v):=by
 obtain⟨B,D,W,X,f1,f2,f3,f4,⟨hc,hs⟩,f6,f7,f8,f9,_,_,rfl,_⟩:=S;have hB:∀b∈B,b<lim:=fun b n=>Qdt f1 n;have hD:∀b∈D,b<lim:=fun b n=>Qdt f2 n;have F:=QqF (h:=h) hB (fun b n e=>by grind[blkIn]);have J:=Qe5 (k:=X) (h:=h) hD f6;let N:Ctx (okc P):={ρ:=fun k y=>if k∈B then c.ρ k y else none,F:=c.F,O:=fun k=>∃b y base,b∈B/\Live h b y/\c.ρ b y=some (.loc k base),base:=c.base};have d:∀b∈B,∀y,N.ρ b y=c.ρ b y:=fun b n y=>if_pos n;have hrn:∀b,b∉B->∀y,N.ρ b y=none:=fun b n y=>if_neg n;have I:∀k,N.O k->c.O k:=fun k⟨b,y,base,_,T,a⟩=>H.owned T a;have hlB:∀k y,Live (pick h B) k y->k∈B/\Live h k y:=by
  rintro k y⟨x,a,hg,K⟩;rw[F]at a;split at a;·rename_i e;exact⟨e,x,a,hg,K⟩
  cases a
 have H1:HRel N (pick h B) w:=by
  refine⟨fun k a y=>?_,fun k x a y G=>?_,fun k x a=>?_,fun k y z R j base i q r A u=>?_,fun k U o=>H.disj k U (I k o),H.inF,fun k o=>H.inO k (I k o)⟩
  ·rw[F]at a;split at a;·rename_i e;rw[d k e];exact H.fresh k a y
   simp_all
  ·rw[F]at a;split at a;·rename_i e;rw[d k e];exact H.later k x a y G
   cases a
  ·rw[F]at a;split at a;·rename_i e;have m:=f4 k e;rw[a]at m;have n:=H.blk k x a;cases x with|dead g=>trivial|loop=>simp[blkIn]at m|cells g cs=>
   simp only[blkIn]at m;rcases n with⟨h1,h2⟩|⟨j,base,C,ty,fr,h1,h2,L,h4,h5,h6⟩;·exact .inl ⟨(d k e g).trans h1,h2⟩
   exact .inr ⟨j,base,C,ty,fr,(d k e g).trans h1,⟨k,g,base,e,⟨_,a,rfl,fun _=>by simp⟩,h1⟩,L,h4,h5,VPre.inB d (fun _ h=>h) _ _ m h6⟩|map g es=>simp only[blkIn]at m;obtain⟨j,es',clock,h1,h2,L,h4,h5⟩:=n;exact⟨j,es',clock,(d k e g).trans h1,⟨k,g,0,e,⟨_,a,rfl,fun _=>by simp⟩,h1⟩,L,MRel.inB d (fun _ h=>h) m h4,h5⟩
   cases a
  obtain⟨Q,q⟩:=hlB _ _ q;obtain⟨O,r⟩:=hlB _ _ r;rw[d k Q]at A;rw[d z O]at u;exact H.inj _ _ _ _ _ _ _ q r A u
 refine⟨hc,(hs N w l H1 (VRels.inB d (fun _ h=>h) _ _ f3 ha)).mono ?_⟩;rintro e w'⟨cv,Y,rfl,E,H',V⟩;have hdn:∀k,k∉D->X.get k=none:=fun k a=>by grind
 let M:Ctx (okc P):={ρ:=fun k y=>if k∈D then Y.ρ k y else c.ρ k y,F:=Y.F,O:=fun k=>(c.O k/\¬N.O k)\/Y.O k,base:=c.base};have s:∀k∈D,∀y,M.ρ k y=Y.ρ k y:=fun k a y=>if_pos a;have t:∀k,k∉D->∀y,M.ρ k y=c.ρ k y:=fun k a y=>if_neg a;have X2:Ext Y w' M w':=by
  refine⟨fun k y p hp=>?_,fun _ h=>h,fun _ _ _ h=>h,fun _ C _ fr h=>⟨C,fr,h,rfl⟩⟩;by_cases a:k∈D;·simp_all
  rw[H'.fresh k (hdn k a) y]at hp;cases hp
 have E2:Evo c w M w':=by
  refine⟨E.os,E.tape,E.output,E.size,E.shape,fun k a o=>E.keep k a fun h=>o (I k h),fun k y p hp=>?_,fun k a=>E.frz k a,fun k a=>?_,fun k a=>?_,rfl⟩
  ·by_cases a:k∈D
   ·rw[s k a];by_cases hkB:k∈B;·exact E.rho k y p ((d k hkB y).trans hp)
    rw[H.fresh k (f9 k a hkB) y]at hp;cases hp
   simp_all
  ·rcases E.frzNew k a with h1|h1|h1;·exact .inl h1
   ·simp_all
   omega
  rcases a with a|a;·exact .inl a.1
  exact(E.own k a).imp (I k) id
 have hlv:∀k y,Live (over X h D) k y->(k∈D/\Live X k y)\/(k∉D/\Live h k y):=by
  rintro k y⟨x,a,hg,K⟩;rw[J]at a;split at a;·rename_i e;exact .inl ⟨e,x,a,hg,K⟩
  rename_i e;exact .inr ⟨e,x,a,hg,K⟩
 have Z:∀k y j base,k∉D->Live h k y->c.ρ k y=some (.loc j base)->¬N.O j:=by rintro k y j base a T hp⟨b,R,i,n,hl',hp'⟩;have:=H.inj _ _ _ _ _ _ _ T hl' hp hp';simp_all
 refine⟨cv,M,rfl,E2,?_,Zb8 X2 _ _ V⟩;refine⟨fun k a y=>?_,fun k x a y G=>?_,fun k x a=>?_,fun k y z R j base i q r A u=>?_,fun k U o=>?_,fun k U=>H'.inF k U,fun k o=>?_⟩
 ·rw[J]at a;split at a;·simp_all
  rename_i e;rw[t k e];exact H.fresh k a y
 ·rw[J]at a;split at a;·rename_i e;rw[s k e];exact H'.later k x a y G
  rename_i e;rw[t k e];exact H.later k x a y G
 ·rw[J]at a;split at a;·refine Zca X2 (fun j base K hp=>?_) (H'.blk k x a);exact⟨.inr (H'.owned ⟨x,a,rfl,K⟩ hp),rfl⟩
  rename_i e;refine Zca (E2.ext H.disj) (fun j base K hp=>?_) (H.blk k x a);have T:Live h k x.gen:=⟨x,a,rfl,K⟩;have o:=H.owned T hp;have hn:=Z k _ j base e T hp;exact⟨.inl ⟨o,hn⟩,E.keep j (H.inO _ o) hn⟩
 ·have cross:∀k y z R base i,k∈D->Live X k y->M.ρ k y=some (.loc j base)->z∉D->Live h z R->M.ρ z R=some (.loc j i)->False:=by
   intro k y z R base i Q q A O r u;rw[s k Q]at A;rw[t z O]at u;rcases E.own j (H'.owned q A)with h1|h1;·grind
   have:=H.inO _ (H.owned r u);omega
  rcases hlv _ _ q with⟨Q,q⟩|⟨Q,q⟩<;>rcases hlv _ _ r with⟨O,r⟩|⟨O,r⟩;·rw[s k Q]at A;rw[s z O]at u;exact H'.inj _ _ _ _ _ _ _ q r A u
  ·grind
  ·grind
  rw[t k Q]at A;rw[t z O]at u;exact H.inj _ _ _ _ _ _ _ q r A u
 ·rcases o with⟨h1,h2⟩|h1
  ·rcases E.frzNew k U with L|L|L;·exact H.disj k L h1
   ·exact h2 L
   have:=H.inO k h1;omega
  exact H'.disj k U h1
 rcases o with⟨h1,_⟩|h1;·exact ZaX (H.inO k h1) E.size
 exact H'.inO k h1
theorem FStep.heap{f:Nat}{args:List AV}{v:AV}{h h1:Heap}{fp:FP}(S:FStep P f args h v h1 fp):HSpec P f args h v h1:=by
 have hc:Callable P f:=by obtain⟨_,_,_,_,_,_,_,_,c,_⟩:=S;exact c.1
 exact⟨hc,fun _ _ _ H a=>(S.calls H a).2⟩
def Marks{ok:Okc}(c:Ctx ok)(w:World):List Deferred->Prop|[]=>c.base<=w.heap.size|d::a=>(∃D,d={target:=.collected D,args:=#[]}/\c.base<=D/\¬c.O D/\¬c.F D/\w.heap[D]?=some (.deferred (some []))/\∀f∈a,f.target≠.collected D)/\Marks c w a
theorem Marks.mono{ok:Okc}{c c':Ctx ok}{w w':World}(E:Evo c w c' w'):∀{ds:List Deferred},Marks c w ds->Marks c' w' ds
 |[],h=>by have h:c.base<=w.heap.size:=h;have:=E.size;show c'.base<=w'.heap.size;rw[E.base];omega|d::ds,⟨⟨D,h1,l,a,i,g,j⟩,k⟩=>by
  have f:=Qa2 g;refine⟨⟨D,h1,by rw[E.base];exact l,fun h=>?_,fun h=>?_,by rw[E.keep D f a];exact g,j⟩,Marks.mono E k⟩
  ·rcases E.own D h with h|h;·exact a h
   omega
  rcases E.frzNew D h with h|h|h;·exact i h
  ·exact a h
  omega
theorem Marks.low{ok:Okc}{c:Ctx ok}{w:World}:∀{ds:List Deferred},Marks c w ds->c.base<=w.heap.size|[],h=>h|_::_,h=>h.2.low
structure SRel{ok:Okc}(N:Nat)(c:Ctx ok)(A:St)(a:Act)(w:World):Prop where
 heap:HRel c A.h w
 tmps:TRel c w A.T a
 size:a.tmps.size=N
 defers:Marks c w a.defers
theorem SRel.congr{ok:Okc}{N:Nat}{c:Ctx ok}{A B:St}{a:Act}{w:World}(S:SRel N c A a w)(e:SEq A B):SRel N c B a w:=⟨Qb6 e.2 S.heap,fun i=>by rw[<-e.1 i];exact S.tmps i,S.size,S.defers⟩
theorem SRel.put{ok:Okc}{N:Nat}{c c':Ctx ok}{A:St}{a:Act}{w w':World}{dst:Option Nat}{v:AV}{cv:Value}{h1:Heap}(S:SRel N c A a w)(E:Evo c w c' w')(H:HRel c' h1 w')(g:∀d,dst=some d->d<N)(V:VRel c' w' v cv):SRel N c' ⟨putD A.T dst v,h1⟩ (a.put dst cv) w':=by have f:TRel c' w' A.T a:=fun i=>Zb8 (E.ext S.heap.disj) _ _ (S.tmps i);cases dst with|none=>exact⟨H,f,S.size,S.defers.mono E⟩|some d=>
 refine⟨H,fun i=>?_,by simp[Act.put,S.size],by simpa[Act.put]using S.defers.mono E⟩;have h:d<a.tmps.size:=by rw[S.size];exact g d rfl
 simp only[Qbz,Act.put,Zaa];by_cases e:d=i;·simp_all
 rw[if_neg e];simpa[Array.getElem?_setIfInBounds_ne e]using f i
theorem noDefer{o:Oper}{s:SOp}(a:okOp P o.op s=true):(∀c,o.op≠.defer c)\/s=.bad:=by grind[okOp]
theorem QgL{ro:Option Nat}{N i:Nat}{o:Oper}{s:SOper}{A:St}{v:AV}{h1:Heap}{fp:FP}{c:Ctx (okc P)}{a:Act}{w:World}{K:Act->World->Prop}{Q:Exit->Act->World->Prop}(S:SRel N c A a w)(r:o.dst=s.dst)(H:∀d,s.dst=some d->d<N)(F:okOp P o.op s.op=true)(O:StepX P i s.op A.T A.h v h1 fp)(L:∀c' J w',SRel N c' ⟨putD A.T s.dst v,h1⟩ J w'->Evo c w c' w'->K J w'):o.wpIn (FW ro) 0 P a w K Q:=by
 obtain⟨out,h2,hm,l⟩:=O;have z:o.semAt ro a.eval=execOp a.eval o:=by grind[noDefer,Oper.semAt_eq,aop,HM.run]
 have m:=QqD S.heap S.tmps F hm;refine⟨fun _ _=>trivial,?_⟩;show o.uponIn (FW ro) 0 P a K Q ((o.semAt ro a.eval).run P w);rw[z];have fin:∀e w',Rets P c w h1 v e w'->(match(motive:=Ending->World->Prop)e,w' with|.returned v,y=>K (a.put o.dst v) y|.panicked chain,y=>Q (.panic chain) a y|.outgrown,_=>LetsOut Q):=by rintro e w'⟨I,c',rfl,E,H',V⟩;exact L c' _ w' (by rw[r];exact S.put E H' H V) E
 have called:∀(f:Nat)(k:Array Value),(execOp a.eval o).run P w=.ok (.enter f k) w->Calls P f k w (Rets P c w h1 v)->o.uponIn (FW ro) 0 P a K Q ((execOp a.eval o).run P w):=by intro f k B j;rw[B,Oper.uponIn_enter];refine⟨fun h=>by simp[FW,Fence.wide]at h,callsFW (j.mono ?_)⟩;omega
 match out,hm,l,m with
 |.val u,hm,l,m=>
  obtain⟨rfl,rfl,_⟩:=l;obtain⟨nx,I,c',w',t,Y,E,H',V⟩:=m;rw[t];have x:=L c' (a.put o.dst I) w' (by rw[r];exact S.put E H' H V) E;rcases Y with rfl|⟨rfl,rfl⟩;·exact x
  ·exact x|.call .pure f args,hm,l,m=>obtain⟨q,rfl,_⟩:=l;obtain⟨rfl,k,t,n,_⟩:=m;obtain⟨hc,j⟩:=q.pure S.heap (n (by simp));exact called f k (t hc) j|.call .borrow f args,hm,l,m=>obtain⟨q,T,rfl,_⟩:=l;obtain⟨rfl,k,t,_,n⟩:=m;obtain⟨hc,j⟩:=q.borrow T S.heap (n rfl);exact called f k (t hc) j|.call .heap f args,hm,l,m=>
  obtain⟨rfl,k,t,n,_⟩:=m;rcases l with⟨q,_⟩|⟨b,g,xs,q,X,rfl,_⟩|G|G;·obtain⟨hc,j⟩:=q.heap S.heap (n (by simp));simp_all
  ·obtain⟨hc,j⟩:=q.give S.heap X (n (by simp));simp_all
  ·obtain⟨hc,j⟩:=G.calls S.heap (n (by simp));simp_all
  ·obtain⟨hc,j⟩:=G.calls S.heap (n (by simp));simp_all|.round b g args,hm,l,m=>obtain⟨q,_⟩:=l;obtain⟨rfl,M,k,C,n,t⟩:=m;obtain⟨fn,tmps,R,body,U,p⟩:=q c w k M S.heap n C;rw[t,U,Oper.uponIn_round];refine⟨fun h=>by simp[FW,Fence.wide]at h,trivial,fun fr cs _=>?_⟩;obtain⟨e,w',Z,hc⟩:=p.2 fr cs (room_wide _);refine⟨e,w',?_,hc⟩;have:=fin e w' Z;cases e<;>exact this
theorem Qe7{ro:Option Nat}{N i bi:Nat}{ops:Array Oper}{o:Oper}{s:SOper}{A:St}{v:AV}{h1:Heap}{fp:FP}{c:Ctx (okc P)}{a:Act}{w:World}{K:Act->World->Prop}{Q:Exit->Act->World->Prop}(S:SRel N c A a w)(ho:ops[i]?=some o)(h:okOper P N ops o s=true)(g:StepV P bi s A.T A.h v h1 fp)(r:∀c' t w',SRel N c' ⟨putD A.T s.dst v,h1⟩ t w'->Evo c w c' w'->K t w'):wpOpIn (FW ro) 0 P ops Q i K a w:=by
 unfold okOper at h;simp only[Zab,beq_iff_eq]at h;obtain⟨⟨⟨⟨y,H⟩,B⟩,k⟩,E⟩:=h;have u:∀d,s.dst=some d->d<N:=by grind
 unfold wpOpIn;rw[ho];simp only;unfold StepV at g
 cases x:s.guard with|none=>
  rw[x]at g k;have f:o.guard=none:=by grind[okGuard]
  have:Region.wanted o (yielded ops a.tmps)=true:=by simp[Region.wanted,f]
  rw[this];exact QgL S y u B g r|some p=>obtain⟨slot,n⟩:=p;rw[x]at g k;simp only at g;obtain⟨b,l,g⟩:=g;cases f:o.guard with|none=>rw[f]at k;simp[okGuard]at k|some q=>
   obtain⟨j,m⟩:=q;rw[f]at k;simp only[okGuard,Zab,beq_iff_eq,decide_eq_true_eq]at k;obtain⟨⟨rfl,G⟩,C⟩:=k;have z:slot<a.tmps.size:=by rw[S.size];exact C
   have hw:Region.wanted o (yielded ops a.tmps)=b:=by
    have F:=S.tmps slot;unfold wantedA at l;split at l;·simp_all[VRel,yielded,Region.wanted]
    ·simp_all[VRel,VRels,yielded,Region.wanted]
    cases l
   rw[hw];split at g;·rename_i e;subst e;simp only[if_true];grind[QgL]
   rename_i e;obtain⟨rfl,rfl,_⟩:=g;have:b=false:=by simpa using e
   rw[this];simp only[Zap,if_false];refine⟨fun _ _=>trivial,r c _ w ?_ (.refl c w)⟩;rw[y];exact S.put (.refl c w) S.heap u (by simp[VRel,VRels,undef])
theorem QrE(o:Option AV)(h:Heap):(lift o).fp h=([],[]):=by cases o<;>rfl
theorem QmX{i:Nat}{T:Tmps}{s:SOp}{h:Heap}(hc:s.cls=0):(aop i T s).fp h=([],[]):=by cases s<;>simp only[SOp.cls,reduceCtorEq]at hc<;>first|exact QrE _ _|rfl|(rename_i m x xs;cases m<;>simp at hc;done)|(simp at hc;done)
theorem QrF{i:Nat}{T:Tmps}{s:SOp}(hc:s.cls=1):(aop i T s).ro:=by
 cases s<;>simp only[SOp.cls,reduceCtorEq,Nat.reduceEqDiff]at hc;case convB x=>
  refine HM.QbK ?_ fun _=>trivial;have src:∀(y:AV),(aSrc 1 y fun ys n=>match bytesOf ys with|some s=>HM.ret (AV.str s)|none=>.fail).ro:=by
   intro y;unfold aSrc;have fin:∀ys:List AV,(match bytesOf ys with|some s=>HM.ret (AV.str s)|none=>HM.fail).ro:=by intro ys;split<;>trivial
   split
   ·split
    ·refine Qe4 fun cs=>?_;split;·exact fin _
     ·trivial
    ·trivial
   ·split;·exact fin _
    ·trivial
   ·exact fin []
   ·exact fin []
   ·exact fin []
   ·simp_all
   ·trivial
  unfold aConvB;split;·trivial
  ·exact src _
 case eqn neg x=>
  refine HM.QbK ?_ fun _=>trivial;unfold aEqN aNilS;split
  ·intro y;dsimp only;split
   ·rename_i g' _ _;generalize Nat.beq g' _=bb;cases bb;·trivial
    simp_all[QhV]
   ·trivial
  ·exact QhV _
 case load n x=>
  refine HM.QbK ?_ fun _=>trivial;unfold aLoad;split
  ·refine Qe4 fun cs=>?_;split;·exact QhV _
   ·split<;>trivial
  ·split;·exact QhV _
   ·split<;>trivial
  ·trivial
 case len k x=>
  refine HM.QbK ?_ fun _=>trivial;unfold aLenC;split
  ·unfold aLen;split<;>try trivial
   intro x;dsimp only;split;·rename_i g' es;generalize Nat.beq g' _=bb;cases bb<;>trivial
   ·trivial
  ·trivial
 case lookup row ks zero ok x k=>
  refine HM.QbK ?_ fun _=>trivial;unfold aLookup;split
  ·split;·trivial
   ·refine Qn7 fun es=>?_;split<;>trivial
   ·split<;>trivial
   ·trivial
  ·trivial
 case call m x args=>
  simp only[aop];unfold aCall;split
  ·split;·exact HM.QbK (QcI (Qd4 4) _) fun _=>trivial
   ·trivial
  ·split<;>trivial
  ·trivial
theorem QkS{i:Nat}{T:Tmps}{s:SOp}{h a:Heap}{out:AOut}(ho:out.whole=true)(hc:s.cls<=1)(hm:(aop i T s).run h=some (out,a)):False:=by
 have lf:∀(o:Option AV),(lift o).run h≠some (out,a):=by intro o e;obtain⟨v,_,k⟩:=QaO e;cases k;cases ho
 have hf:∀(m:HM AV),(hval m).run h≠some (out,a):=by intro m e;obtain⟨v,h1,_,k⟩:=QaM e;cases k;cases ho
 have f:∀(u:AV),(HM.ret (AOut.val u)).run h≠some (out,a):=by intro u e;simp only[HM.run,Zaa,Zaj]at e;obtain⟨rfl,rfl⟩:=e;cases ho
 cases s<;>simp only[aop]at hm<;>first|exact absurd hm (lf _)|exact absurd hm (hf _)|exact absurd hm (f _)|(simp only[HM.run,reduceCtorEq]at hm;done)|skip
 rename_i m x xs
 cases m with|heap=>simp[SOp.cls]at hc|pure=>
  unfold aCall at hm;split at hm;·simp only[HM.run,Zaa,Zaj]at hm;obtain⟨rfl,rfl⟩:=hm;cases ho
  ·simp[HM.run]at hm
  simp[HM.run]at hm|borrow=>
  unfold aCall at hm;split at hm;·simp only at hm;obtain⟨d,g,j,c⟩:=run_bind hm;simp only[HM.run,Zaa,Zaj]at c;obtain⟨rfl,rfl⟩:=c;cases ho
  ·simp[HM.run]at hm
  simp[HM.run]at hm
theorem StepX.cls{i:Nat}{s:SOp}{T:Tmps}{h:Heap}{v:AV}{h1:Heap}{fp:FP}(d:StepX P i s T h v h1 fp)(hc:s.cls<=1):fp.all=false/\fp.W=[]/\(s.cls=0->fp.R=[]):=by
 obtain⟨out,j,hm,a⟩:=d;have key:fp=fpOf ((aop i T s).fp h)->fp.all=false/\fp.W=[]/\(s.cls=0->fp.R=[]):=by intro e;subst e;refine⟨rfl,?_,fun c=>by simp[fpOf,QmX c]⟩;grind[HM.ro_fp,QrF,fpOf,QmX]
 match out,hm,a with|.val u,hm,a=>exact key a.2.2|.call .pure f args,hm,a=>exact key a.2.2|.call .borrow f args,hm,a=>exact key a.2.2.2|.call .heap f args,hm,a=>exact(QkS rfl hc hm).elim|.round b g args,hm,a=>exact(QkS rfl hc hm).elim
theorem StepV.cls{i:Nat}{s:SOper}{T:Tmps}{h:Heap}{v:AV}{h1:Heap}{fp:FP}(a:StepV P i s T h v h1 fp)(hc:s.op.cls<=1):fp.all=false/\fp.W=[]/\(s.op.cls=0->fp.R=[]):=by
 unfold StepV at a;split at a;·exact a.cls hc
 obtain⟨b,_,a⟩:=a;split at a;·exact a.cls hc
 simp_all
def StepI(P:Program)(base:Nat)(sops:List SOper)(fpf:Nat->FP)(i:Nat)(A B:St):Prop:=∃s v h1,sops[i]?=some s/\StepV P (base+i) s A.T A.h v h1 (fpf i)/\B=⟨putD A.T s.dst v,h1⟩
def RunL(P:Program)(base:Nat)(sops:List SOper)(fpf:Nat->FP):List Nat->St->St->Prop|[],A,C=>A=C|i::l,A,C=>∃B,StepI P base sops fpf i A B/\RunL P base sops fpf l B C
section
variable{base:Nat}{sops:List SOper}{fpf:Nat->FP}
theorem RunL.congr:∀{l:List Nat}{A B C:St},RunL P base sops fpf l A C->SEq A B->∃D,RunL P base sops fpf l B D/\SEq C D|[],A,B,C,a,e=>by cases a;exact⟨B,rfl,e⟩|i::l,A,B,C,a,e=>by obtain⟨A1,⟨s,v,h1,j,h,rfl⟩,a⟩:=a;obtain⟨c,k,g⟩:=h.congr e;obtain⟨D,d,f⟩:=a.congr g;exact⟨D,⟨_,⟨s,v,c,j,k,rfl⟩,d⟩,f⟩
def Apart(sops:List SOper)(fpf:Nat->FP)(k i:Nat):Prop:=∀s t,sops[k]?=some s->sops[i]?=some t->s.apart t=true/\(fpf k).apart (fpf i)=true
theorem RunL.front:∀{f d:List Nat}{i:Nat}{A C:St},RunL P base sops fpf (f++i::d) A C->(∀k∈f,Apart sops fpf k i)->∃B C',StepI P base sops fpf i A B/\RunL P base sops fpf (f++d) B C'/\SEq C' C|[],d,i,A,C,a,_=>by obtain⟨B,g,a⟩:=a;exact⟨B,C,g,a,.refl C⟩|k::f,d,i,A,C,a,c=>by obtain⟨A1,⟨s,v,h1,g,y,rfl⟩,a⟩:=a;obtain⟨B,C',⟨t,u,F,m,q,rfl⟩,j,e⟩:=RunL.front a (fun k r=>c k (by simp[r]));obtain⟨E,p⟩:=c k (by simp) s t g m;obtain⟨l,h,x,o,w⟩:=StepV.comm y q E p;obtain⟨D,z,n⟩:=j.congr w.symm;exact⟨_,D,⟨t,u,l,m,x,rfl⟩,⟨_,⟨s,v,h,g,o,rfl⟩,z⟩,n.symm.trans e⟩
inductive Bef(sops:List SOper):Nat->Nat->Prop|one{j k:Nat}{s:SOper}:sops[j]?=some s->k∈s.after->Bef sops k j|more{j k e:Nat}{s:SOper}:sops[j]?=some s->e∈s.after->Bef sops k e->Bef sops k j
end
structure Fits(P:Program)(N:Nat)(ops:Array Oper)(sops:List SOper):Prop where
 size:ops.size=sops.length
 ok:∀(i:Nat)(o:Oper),ops[i]?=some o->∃s,sops[i]?=some s/\okOper P N ops o s=true
theorem Fits.after{N:Nat}{ops:Array Oper}{sops:List SOper}(F:Fits P N ops sops){i:Nat}{o:Oper}{s:SOper}(ho:ops[i]?=some o)(f:sops[i]?=some s):∀k,k∈s.after↔∃e∈o.after,Region.binds .any e=true/\e.on=k:=by obtain⟨d,c,a⟩:=F.ok i o ho;grind[okOper,okAfter]
def rest(n:Nat)(a:Array Bool):List Nat:=(List.range n).filter fun i=>!a.getD i true
theorem Qd5{n:Nat}{a:Array Bool}{i:Nat}:i∈rest n a↔i<n/\a.getD i true=false:=by simp[rest]
theorem QfP:∀(l:List Nat)(p:Nat->Bool)(i:Nat),l.Pairwise (·<·)->i∈l->p i=true->∃a f,l.filter p=a++i::f/\l.filter (fun k=>p k&&k !=i)=a++f/\∀k∈a,k<i/\p k=true
 |[],p,i,_,hi,_=>by simp at hi|x::l,p,i,d,hi,hp=>by
  rw[Zaz]at d;by_cases e:x=i
  ·subst e;have g:l.filter (fun k=>p k&&k !=x)=l.filter p:=by
    apply ZbM;intro k h;have:=d.1 k h;have:(k !=x)=true:=by simp;omega
    simp[this]
   refine⟨[],l.filter p,?_,?_,by simp⟩;·simp_all
   simp_all
  have c:i∈l:=by grind
  obtain⟨a,f,h1,j,m⟩:=QfP l p i d.2 c hp;grind
theorem Qn9{n:Nat}{a:Array Bool}{i:Nat}(hi:i∈rest n a):∃c d,rest n a=c++i::d/\rest n (a.setIfInBounds i true)=c++d/\∀k∈c,k<i/\k<n/\a.getD k true=false:=by
 obtain⟨h1,l⟩:=Qd5.1 hi;obtain⟨c,d,j,f,m⟩:=QfP (List.range n) (fun k=>!a.getD k true) i ZbC (by simpa using h1) (by simp[l]);refine⟨c,d,j,?_,?_⟩
 ·rw[<-f];unfold rest;apply ZbM;intro k _;by_cases e:k=i;·simp_all
  have g:(k !=i)=true:=by simpa using e
  rw[getD_set_ne true (fun h=>e h.symm),g,Zac]
 grind
structure Free(sops:List SOper)(fpf:Nat->FP):Prop where
 back:∀(j:Nat)(s:SOper),sops[j]?=some s->∀k∈s.after,k<j
 apart:∀(k i:Nat),k<i->i<sops.length->Bef sops k i\/Apart sops fpf k i
theorem QoS{ro:Option Nat}{N base:Nat}{ops:Array Oper}{sops:List SOper}{fpf:Nat->FP}(F:Fits P N ops sops)(R:Free sops fpf){Q:Exit->Act->World->Prop}{C:St}{c0:Ctx (okc P)}{w0:World}(hQ:∀c a w,SRel N c C a w->Evo c0 w0 c w->Q .normal a w):∀(fuel:Nat)(d:Array Bool)(A C':St)(c:Ctx (okc P))(a:Act)(w:World),d.size=ops.size->(rest sops.length d).length<=fuel->(∀j,d.getD j false=true->∀k,Bef sops k j->d.getD k false=true)->RunL P base sops fpf (rest sops.length d) A C'->SEq C' C->SRel N c A a w->Evo c0 w0 c w->wpAnyIn (FW ro) 0 P .any ops Q fuel d a w:=by
 intro fuel;induction fuel with|zero=>
  intro d A C' c a w z hf x p he H G;have J:rest sops.length d=[]:=Zbx (by omega);refine⟨?_,?_⟩;·rw[List.eq_nil_iff_forall_not_mem];intro j O;obtain⟨I,o,g2,g3⟩:=mem_ready.1 O;have:j<ops.size:=(Array.getElem?_eq_some_iff.1 g2).1;have:j∈rest sops.length d:=Qd5.2 ⟨by rw[<-F.size];exact this,I⟩;simp_all
  rw[J]at p;cases p;exact hQ c a w (H.congr he) G|succ fuel ih=>
  intro d A C' c a w z hf x p he H G;refine⟨?_,?_⟩
  ·intro t;have J:rest sops.length d=[]:=by cases q:rest sops.length d with|nil=>rfl|cons i l=>
    exfalso;have hi:i∈rest sops.length d:=by rw[q];simp
    obtain⟨h1,y⟩:=Qd5.1 hi;have m:i<ops.size:=by grind
    have f:i∈Region.ready .any ops d:=by
     rw[mem_ready];refine⟨y,ops[i],Array.getElem?_eq_getElem m,fun e he r=>?_⟩;obtain⟨s,n,_⟩:=F.ok i _ (Array.getElem?_eq_getElem m);have E:=(F.after (Array.getElem?_eq_getElem m) n e.on).2 ⟨e,he,r,rfl⟩;have U:=R.back i s n e.on E;have hon:e.on<d.size:=by omega
     cases Z:d.getD e.on false with|true=>rfl|false=>
      exfalso;have X:d.getD e.on true=false:=by simp_all
      have:e.on∈rest sops.length d:=Qd5.2 ⟨by omega,X⟩;rw[q]at this;have g:(rest sops.length d).Pairwise (·<·):=List.Pairwise.filter _ ZbC;rw[q,Zaz]at g;rcases ZaA.1 this with h|h;·omega
      grind
    rw[t]at f;simp at f
   rw[J]at p;cases p;exact hQ c a w (H.congr he) G
  intro i hi;obtain⟨I,o,ho,g3⟩:=mem_ready.1 hi;have m:i<ops.size:=(Array.getElem?_eq_some_iff.1 ho).1;have S:i∈rest sops.length d:=Qd5.2 ⟨by rw[<-F.size];exact m,I⟩;obtain⟨s,n,L⟩:=F.ok i o ho;have V:∀k,Bef sops k i->d.getD k false=true:=by intro k r;cases r with|one h1 y=>rw[n]at h1;cases h1;obtain⟨e,e1,e2,e3⟩:=(F.after ho n k).1 y;rw[<-e3];exact g3 e e1 e2|more h1 y h3=>rw[n]at h1;cases h1;rename_i e';obtain⟨e,e1,e2,e3⟩:=(F.after ho n e').1 y;exact x e' (by grind) k h3
  obtain⟨l1,l2,k1,k2,k3⟩:=Qn9 S;rw[k1]at p;obtain⟨B,C'',⟨s',v,h1,u,Z,rfl⟩,hr',K⟩:=RunL.front p (fun k hk=>by
   obtain⟨m1,m2,m3⟩:=k3 k hk;rcases R.apart k i m1 (by grind)with r|r;·grind
   exact r);rw[n]at u;cases u;refine Qe7 H ho L Z ?_;intro c' a' w' M T;refine ih _ _ C'' c' a' w' (by simpa using z) ?_ ?_ (by simp_all) (K.trans he) M (G.trans T);·grind
  intro j O k r;by_cases Y:j=i;·grind[getD_set_true]
  rw[getD_set_ne false (fun h=>Y h.symm)]at O;grind[getD_set_true]
end Go.AM
theorem _root_.Go.AM.Zcb:type_of%@Go.AM.VRel.noRef:=@Go.AM.VRel.noRef
theorem _root_.Go.AM.Zcc:type_of%@Go.AM.VRels.noRef:=@Go.AM.VRels.noRef
namespace Go.AM
variable{P:Program}
theorem QfD{ro:Option Nat}{N base:Nat}{ops:Array Oper}{sops:List SOper}{fpf:Nat->FP}(F:Fits P N ops sops){Q:Exit->Act->World->Prop}{C:St}{c0:Ctx (okc P)}{w0:World}(hQ:∀c a w,SRel N c C a w->Evo c0 w0 c w->Q .normal a w):∀(l:List Nat)(A:St)(c:Ctx (okc P))(a:Act)(w:World),RunL P base sops fpf l A C->SRel N c A a w->Evo c0 w0 c w->wpOpsIn (FW ro) 0 P ops Q l a w
 |[],A,c,a,w,f,j,g=>by cases f;exact hQ c a w j g|i::l,A,c,a,w,f,j,g=>by
  obtain⟨B,⟨s,v,h1,n,r,rfl⟩,f⟩:=f
  rw[wpOpsIn_cons];cases ho:ops[i]? with|none=>
   exfalso;have h1:ops.size<=i:=by simp_all
   have x:i<sops.length:=(Zam.1 n).1;have:=F.size;omega|some o=>obtain⟨u,d,k⟩:=F.ok i o ho;rw[n]at d;cases d;exact Qe7 j ho k r fun q p t h m=>QfD F hQ l _ q p t f h (g.trans m)
theorem QfQ(acc:List Nat):∀(l:List Nat)(m k:Nat),(l.foldl (fun m e=>m|||2^e|||acc.getD e 0) m).testBit k=true->m.testBit k=true\/∃e∈l,k=e\/(acc.getD e 0).testBit k=true
 |[],m,k,h=>.inl h|e::l,m,k,h=>by
  simp only[ZaN]at h;rcases QfQ acc l _ k h with h1|⟨c,a,h1⟩;·grind
  grind
theorem QgM{sops:List SOper}:∀(r pre:List SOper)(acc:List Nat),sops=pre++r->acc.length=pre.length->(∀j k,(acc.getD j 0).testBit k=true->Bef sops k j)->∀j k,((masksFrom acc r).getD j 0).testBit k=true->Bef sops k j
 |[],pre,acc,_,_,h=>h|s::r,pre,acc,i,g,h=>by
  refine QgM r (pre++[s]) _ (by simp[i]) (by simp[g]) ?_;intro j k f;by_cases m:j<acc.length;·grind
  by_cases d:j=acc.length
  ·subst d;have e:(acc++[maskOf acc s]).getD acc.length 0=maskOf acc s:=by simp
   rw[e]at f;have a:sops[acc.length]?=some s:=by simp_all
   rcases QfQ acc s.after 0 k f with h1|⟨l,c,h1⟩;·simp at h1
   rcases h1 with rfl|h1;·exact .one a c
   exact .more a c (h l k h1)
  grind
theorem HM.QqJ{α:Type}(m:HM α):∀(h:Heap)(a:α)(h1:Heap),m.run h=some (a,h1)->∀b,h.get b≠none->h1.get b≠none:=by induction m with|ret x=>intro h a h1 hm b c;simp only[HM.run,Zaa,Zaj]at hm;obtain⟨rfl,rfl⟩:=hm;exact c|fail=>intro h a h1 hm;simp[HM.run]at hm|look b k d=>intro h a h1 hm;exact d _ h a h1 hm|put b x k d=>
 intro h a h1 hm g c;obtain⟨f,hm⟩:=QaY hm;refine d _ a h1 hm g ?_;rw[Zb7 _ f];split;·simp
 exact c
theorem QhX{i:Nat}{T:Tmps}{s:SOp}{h a:Heap}{out:AOut}(ho:out.whole=true)(hc:s.still=true)(hm:(aop i T s).run h=some (out,a)):False:=by
 have lf:∀(o:Option AV),(lift o).run h≠some (out,a):=by intro o e;obtain⟨v,_,k⟩:=QaO e;cases k;cases ho
 have hf:∀(m:HM AV),(hval m).run h≠some (out,a):=by intro m e;obtain⟨v,h1,_,k⟩:=QaM e;cases k;cases ho
 have f:∀(u:AV),(HM.ret (AOut.val u)).run h≠some (out,a):=by intro u e;simp only[HM.run,Zaa,Zaj]at e;obtain⟨rfl,rfl⟩:=e;cases ho
 cases s<;>simp only[aop]at hm<;>first|exact lf _ hm|exact hf _ hm|exact f _ hm|(simp only[HM.run,reduceCtorEq]at hm;done)|skip
 rename_i m x xs
 cases m with|heap=>simp[SOp.still]at hc|pure=>
  unfold aCall at hm;split at hm;·simp only[HM.run,Zaa,Zaj]at hm;obtain⟨rfl,rfl⟩:=hm;cases ho
  ·simp[HM.run]at hm
  simp[HM.run]at hm|borrow=>
  unfold aCall at hm;split at hm;·simp only at hm;obtain⟨c,j,g,d⟩:=run_bind hm;simp only[HM.run,Zaa,Zaj]at d;obtain⟨rfl,rfl⟩:=d;cases ho
  ·simp[HM.run]at hm
  simp[HM.run]at hm
theorem StepX.mono{P:Program}{i:Nat}{s:SOp}{T:Tmps}{h:Heap}{v:AV}{h1:Heap}{fp:FP}(d:StepX P i s T h v h1 fp)(hc:s.still=true){b:Nat}(c:h.get b≠none):h1.get b≠none:=by obtain⟨out,j,hm,ho⟩:=d;have a:=HM.QqJ _ h out j hm b c;match out,hm,ho with|.val u,hm,ho=>obtain⟨_,rfl,_⟩:=ho;exact a|.call .pure f args,hm,ho=>obtain⟨_,rfl,_⟩:=ho;exact a|.call .borrow f args,hm,ho=>obtain⟨_,_,rfl,_⟩:=ho;exact a|.call .heap f args,hm,ho=>exact(QhX rfl hc hm).elim|.round b g args,hm,ho=>exact(QhX rfl hc hm).elim
theorem StepV.mono{P:Program}{i:Nat}{s:SOper}{T:Tmps}{h:Heap}{v:AV}{h1:Heap}{fp:FP}(a:StepV P i s T h v h1 fp)(hc:s.op.still=true){b:Nat}(c:h.get b≠none):h1.get b≠none:=by
 unfold StepV at a;split at a;·exact a.mono hc c
 obtain⟨t,_,a⟩:=a;split at a;·grind[StepX.mono]
 simp_all
def newFP(i:Nat)(h h1:Heap)(fp:FP):Prop:=fp.all=false/\(∀b,b∈fp.R\/b∈fp.W->b=i/\h.get i=none/\h1.get i≠none)
theorem QeI{i:Nat}{x:Nat->Blk}{r:Nat->Nat->AV}{h:Heap}{v:AV}{h1:Heap}(hm:(HM.new .dyn i x fun b g=>.ret (r b g)).run h=some (v,h1)):newFP i h h1 (fpOf ((hval (HM.new .dyn i x fun b g=>.ret (r b g))).fp h)):=by unfold HM.new at hm⊢;simp only[HM.run]at hm;simp only[hval,HM.bind,HM.fp];cases a:h.get i with|some z=>rw[a]at hm;simp[HM.run]at hm|none=>rw[a]at hm;obtain⟨d,hm⟩:=QaY hm;simp only[HM.run,Zaa,Zaj]at hm;obtain⟨rfl,rfl⟩:=hm;refine⟨rfl,fun b c=>?_⟩;simp only[fpOf,HM.bind,HM.fp,Zbg,or_self,ZaA,ZbE,or_false]at c;refine⟨c,a,?_⟩;rw[Zb7 _ d];simp
theorem QoT{i:Nat}{h h1:Heap}:newFP i h h1 (fpOf ([],[])):=⟨rfl,fun b a=>by simp[fpOf]at a⟩
theorem StepX.fresh{P:Program}{i:Nat}{s:SOp}{T:Tmps}{h:Heap}{v:AV}{h1:Heap}{fp:FP}(a:StepX P i s T h v h1 fp)(hc:s.fresh=true):newFP i h h1 fp:=by
 obtain⟨out,d,hm,ho⟩:=a;have key:∀m:HM AV,aop i T s=hval m->(∀v h1,m.run h=some (v,h1)->newFP i h h1 (fpOf ((hval m).fp h)))->newFP i h h1 fp:=by intro m e f;rw[e]at hm;obtain⟨u,g,k,he⟩:=QaM hm;simp_all
 cases s<;>try(cases hc;done)
 ·rename_i s z;cases s<;>try(cases hc;done)
  refine key _ rfl fun v h1 hm=>?_;unfold aBox at hm⊢;split at hm;·simp_all[QeI]
  grind[HM.run]
 ·rename_i s z;cases s<;>try(cases hc;done)
  refine key _ rfl fun v h1 hm=>?_;unfold aBox at hm⊢;split at hm;·simp_all[QeI]
  grind[HM.run]
 ·rename_i fz s sz len z j;cases fz<;>try(cases hc;done)
  cases s<;>try(cases hc;done)
  refine key _ rfl fun v h1 hm=>?_;unfold aBuildSlice at hm⊢;split at hm
  ·rename_i cs hf;split at hm;·simp_all[QeI]
   grind[HM.run]
  grind[HM.run]
 ·rename_i s;cases s<;>try(cases hc;done)
  refine key _ rfl fun v h1 hm=>?_;simp_all[aMakeMap,QeI]
 rename_i s sz b z l c;cases s<;>try(cases hc;done)
 refine key _ rfl fun v h1 hm=>?_;unfold aMakeSlice at hm⊢;split at hm
 ·split at hm;·simp_all[QeI]
  grind[HM.run]
 grind[HM.run]
theorem StepV.fresh{P:Program}{i:Nat}{s:SOper}{T:Tmps}{h:Heap}{v:AV}{h1:Heap}{fp:FP}(a:StepV P i s T h v h1 fp)(hc:s.op.fresh=true):newFP i h h1 fp:=by
 unfold StepV at a;split at a;·exact a.fresh hc
 obtain⟨t,_,a⟩:=a;split at a;·exact StepX.fresh a hc
 obtain⟨_,rfl,rfl⟩:=a;exact QoT
def HM.seer{α:Type}:HM α->Prop|.ret _=>True|.fail=>True|.look _ k=>k none=.fail/\∀x,(k x).seer|.put _ _ _=>False
theorem HM.QrG{α:Type}(m:HM α):m.seer->∀h a h1,m.run h=some (a,h1)->(m.fp h).2=[]/\∀b∈(m.fp h).1,h.get b≠none:=by
 induction m with|ret a=>intro _ h a h1 _;exact⟨rfl,fun b hb=>by simp[HM.fp]at hb⟩|fail=>intro _ h a h1 hm;simp[HM.run]at hm|look b k ih=>
  rintro⟨hn,hr⟩h a h1 hm;simp only[HM.run]at hm;obtain⟨k1,k2⟩:=ih _ (hr _) h a h1 hm;refine⟨k1,fun b' hb'=>?_⟩;simp only[HM.fp,ZaA]at hb';rcases hb' with rfl|hb';·grind[HM.run]
  exact k2 b' hb'|put b x k ih=>intro hr;exact hr.elim
theorem HM.QoU{α β:Type}{m:HM α}{f:α->HM β}(h1:m.seer)(d:∀a,(f a).seer):(m.bind f).seer:=by induction m with|ret a=>exact d a|fail=>trivial|look b k c=>exact⟨by simp only[h1.1];rfl,fun x=>c x (h1.2 x)⟩|put b x k c=>exact h1.elim
theorem HM.QkT{α:Type}(o:Option α):(HM.opt o).seer:=by cases o<;>trivial
theorem HM.Qoa{α:Type}{b g:Nat}{k:List AV->HM α}(a:∀cs,(k cs).seer):(HM.cells b g k).seer:=by refine⟨rfl,fun x=>?_⟩;match x with
 |some (.cells c cs)=>simp only;cases Nat.beq c g<;>first|exact trivial|exact a cs
 |some (.map _ _)=>trivial|some (.dead _)=>trivial|some (.loop ..)=>trivial|none=>trivial
theorem QoV(n:Option Nat)(x:AV):(aLoad n x).seer:=by
 unfold aLoad;split
 ·refine HM.Qoa fun cs=>?_;split;·exact HM.QkT _
  split<;>trivial
 ·split;·exact HM.QkT _
  split<;>trivial
 trivial
theorem QqK(k:Nat)(x:AV):(aLenC k x).seer:=by
 unfold aLenC;split
 ·unfold aLen;split<;>try trivial
  refine⟨rfl,fun y=>?_⟩;match y with|some (.map a es)=>simp only;rename_i b g _;cases Nat.beq a g<;>trivial|some (.cells _ _)=>trivial|some (.dead _)=>trivial|some (.loop ..)=>trivial|none=>trivial
 trivial
theorem StepV.sees{P:Program}{i:Nat}{s:SOper}{T:Tmps}{h:Heap}{v:AV}{h1:Heap}{fp:FP}(d:StepV P i s T h v h1 fp)(hc:s.op.sees=true):fp.all=false/\fp.W=[]/\∀b∈fp.R,h.get b≠none:=by
 have key:∀{s:SOp},s.sees=true->StepX P i s T h v h1 fp->fp.all=false/\fp.W=[]/\∀b∈fp.R,h.get b≠none:=by
  intro s hc d;obtain⟨out,k,hm,ho⟩:=d;have fin:∀m:HM AV,m.seer->aop i T s=hval m->fp.all=false/\fp.W=[]/\∀b∈fp.R,h.get b≠none:=by intro m a e;have c:(hval m).seer:=HM.QoU a fun _=>trivial;rw[e]at hm;have f:=HM.QrG _ c h _ _ hm;obtain⟨u,g,j,he⟩:=QaM hm;cases he;obtain⟨rfl,rfl,rfl⟩:=ho;rw[e];exact⟨rfl,f.1,f.2⟩
  cases s<;>try(cases hc;done)
  ·exact fin _ (QoV _ _) rfl
  exact fin _ (QqK _ _) rfl
 unfold StepV at d;grind
theorem QoW{P:Program}{bi k:Nat}{s t:SOper}{A B:St}{v u:AV}{h1 l:Heap}{fs ft:FP}(f:StepV P bi s A.T A.h v h1 fs)(j:StepV P k t B.T B.h u l ft)(hc:s.op.sees=true\/s.op.fresh=true)(hf:t.op.fresh=true)(d:s.op.still=true)(hm:∀b,h1.get b≠none->B.h.get b≠none):fs.apart ft=true:=by
 obtain⟨p,q⟩:=j.fresh hf;have key:fs.all=false/\∀b,b∈fs.R\/b∈fs.W->B.h.get b≠none:=by
  rcases hc with h|h;·obtain⟨g,i,m⟩:=f.sees h;refine⟨g,fun b r=>hm b (f.mono d ?_)⟩;simp_all
  obtain⟨g,i⟩:=f.fresh h;grind
 obtain⟨g,i⟩:=key;have o:∀xs a:List Nat,(∀b∈xs,∀c∈a,b≠c)->disj xs a=true:=by intro xs a n;unfold disj;grind
 unfold FP.apart;grind
theorem QfR{P:Program}{bi j:Nat}{s t:SOper}{A B:St}{v u:AV}{h1 i:Heap}{fs ft:FP}(f:StepV P bi s A.T A.h v h1 fs)(d:StepV P j t B.T B.h u i ft)(hc:s.op.cls=0\/t.op.cls=0\/(s.op.cls<=1/\t.op.cls<=1)):fs.apart ft=true:=by
 rcases hc with h|h|⟨h,g⟩;·obtain⟨a,c,k⟩:=f.cls (by omega);grind[FP.apart,disj]
 ·obtain⟨a,c,k⟩:=d.cls (by omega);grind[FP.apart,disj]
 obtain⟨a,c,_⟩:=f.cls h;obtain⟨l,b2,_⟩:=d.cls g;simp_all[FP.apart,disj]
theorem RunL.each{base:Nat}{sops:List SOper}{fpf:Nat->FP}:∀{l:List Nat}{A C:St},RunL P base sops fpf l A C->∀i∈l,∃(s:SOper)(B:St)(v:AV)(h1:Heap),sops[i]?=some s/\StepV P (base+i) s B.T B.h v h1 (fpf i)
 |[],A,C,_,i,hi=>by simp at hi|j::l,A,C,a,i,hi=>by
  obtain⟨B,⟨s,v,h1,c,d,rfl⟩,a⟩:=a;rcases ZaA.1 hi with h|h;·grind
  exact a.each i h
theorem RunL.grow{base:Nat}{sops:List SOper}{fpf:Nat->FP}(a:(sops.all fun s=>s.op.still)=true):∀{l:List Nat}{A C:St},RunL P base sops fpf l A C->∀i∈l,∃(s:SOper)(B:St)(v:AV)(h1:Heap),sops[i]?=some s/\StepV P (base+i) s B.T B.h v h1 (fpf i)/\∀b,A.h.get b≠none->B.h.get b≠none
 |[],A,C,_,i,hi=>by simp at hi|j::l,A,C,c,i,hi=>by
  obtain⟨B,⟨s,v,h1,g,d,rfl⟩,c⟩:=c;rcases ZaA.1 hi with h|h;·grind
  obtain⟨t,D,u,k,e,f,hm⟩:=c.grow a i h;exact⟨t,D,u,k,e,f,fun b m=>hm b (d.mono (ZaG.1 a s (Zaf g)) m)⟩
theorem RunL.two{base:Nat}{sops:List SOper}{fpf:Nat->FP}(c:(sops.all fun s=>s.op.still)=true):∀{g d:List Nat}{A C:St}{k:Nat},RunL P base sops fpf (g++k::d) A C->∀i∈d,∃(s t:SOper)(B D:St)(v u:AV)(h1 f:Heap),sops[k]?=some s/\sops[i]?=some t/\StepV P (base+k) s B.T B.h v h1 (fpf k)/\StepV P (base+i) t D.T D.h u f (fpf i)/\∀b,h1.get b≠none->D.h.get b≠none|[],d,A,C,k,a,i,hi=>by obtain⟨B,⟨s,v,h1,j,h,rfl⟩,a⟩:=a;obtain⟨t,D,u,f,e,l,hm⟩:=a.grow c i hi;exact⟨s,t,A,D,v,u,h1,f,j,e,h,l,hm⟩|_::g,d,A,C,k,a,i,hi=>by obtain⟨B,_,a⟩:=a;exact RunL.two c a i hi
theorem QkU{n k:Nat}(a:k<n):List.range n=List.range k++k::List.range' (k+1) (n-k-1):=by
 have h1:n=k+(1+(n-k-1)):=by omega
 conv=>lhs;rw[h1,ZbK]
 rw[<-List.range'_append_1,ZbK];grind[Zb2]
theorem QrH{base:Nat}{sops:List SOper}{a:List (Nat×Nat)}{fpf:Nat->FP}{A C:St}(o:freeB sops a=true)(g:RunL P base sops fpf (List.range sops.length) A C)(hp:∀p∈a,(fpf p.1).apart (fpf p.2)=true):Free sops fpf:=by
 unfold freeB at o;simp only[ZaG,Zau,Zab,Zbd]at o;refine⟨?_,?_⟩;·intro j s f k I;have x:j<sops.length:=(Zam.1 f).1;simp_all
 intro k i m hi;rcases(o i hi).2 k m with h|h;·exact .inl (QgM (sops:=sops) sops [] [] (by simp) rfl (by simp) i k h)
 right;intro s t f r;unfold pairOK at h;rw[f,r]at h;simp only[Zab,Zbd]at h;refine⟨h.1,?_⟩;obtain⟨w,B1,v1,h1,n,c⟩:=g.each k (by simp;omega);obtain⟨u,B2,v2,G,l,d⟩:=g.each i (by simp;omega);rw[f]at n;cases n;rw[r]at l;cases l;rcases h.2 with(((h|h)|h)|h)|h;·exact QfR c d (.inl (by simpa using h))
 ·exact QfR c d (.inr (.inl (by simpa using h)))
 ·grind[QfR,Zar]
 ·simp_all
 obtain⟨⟨B,y⟩,v⟩:=h;have q:(sops.all fun s=>s.op.still)=true:=v;rw[QkU (show k<sops.length by omega)]at g;obtain⟨w,u,B1,B2,F,E,H,z,n,l,q1,q2,hm⟩:=g.two q i (by grind);grind[QoW]
theorem Qdo{N:Nat}{ops:Array Oper}:∀{os:List Oper}{a:List SOper},okOpers P N ops os a=true->os.length=a.length/\∀(i:Nat)(o:Oper),os[i]?=some o->∃s,a[i]?=some s/\okOper P N ops o s=true|[],[],_=>⟨rfl,fun i o h=>by simp at h⟩|[],_::_,h=>by simp[okOpers]at h|_::_,[],h=>by simp[okOpers]at h|o::os,s::a,h=>by simp only[okOpers,Zab]at h;obtain⟨h1,c⟩:=Qdo h.2;grind
theorem QrI{N:Nat}{ops:Array Oper}{sops:List SOper}(h:okOpers P N ops ops.toList sops=true):Fits P N ops sops:=by obtain⟨h1,a⟩:=Qdo h;exact⟨by simpa using h1,fun i o ho=>a i o (by simp_all)⟩
theorem QeJ(n j:Nat)(d:Bool):(Array.replicate n false).getD j d=if j<n then false else d:=by
 by_cases h:j<n;·simp[h]
 simp[h]
theorem QkV(n m:Nat)(h:n<=m):rest n (Array.replicate m false)=List.range n:=by unfold rest;apply ZbP.2;intro i hi;rw[QeJ,if_pos (by grind)];rfl
theorem QfS{ro:Option Nat}{N base id:Nat}{ops:Array Oper}{draw:Bool}{sops:List SOper}{d:List (Nat×Nat)}{fpf:Nat->FP}{A C:St}{c:Ctx (okc P)}{a:Act}{w:World}{Q:Exit->Act->World->Prop}(f:okRegion P N ops draw sops d=true)(g:RunL P base sops fpf (List.range sops.length) A C)(hp:∀p∈d,(fpf p.1).apart (fpf p.2)=true)(S:SRel N c A a w)(hQ:∀c' h w',SRel N c' C h w'->Evo c w c' w'->Q .normal h w'):(Code.region id ops draw).wpIn (FW ro) 0 P Q a w:=by unfold okRegion at f;simp only[Zab,Zbd,Zbo]at f;obtain⟨h1,k⟩:=f;have F:=QrI h1;cases draw with|false=>refine wpIn_region ?_;rw[F.size];exact QfD F hQ _ A c a w g S (.refl c w)|true=>
 obtain⟨hm,hf⟩:=k.resolve_left (by simp);refine wpIn_region_any hm ?_;have R:=QrH hf g hp;obtain⟨E1,H1⟩:=S.heap.drew;have S1:SRel N c A a w.drew:=⟨H1,fun i=>Zb8 (E1.ext S.heap.disj) _ _ (S.tmps i),S.size,S.defers.mono E1⟩;refine QoS (base:=base) F R hQ ops.size _ A C c a w.drew (by simp) ?_ ?_ ?_ (.refl C) S1 E1;·rw[QkV _ _ (by rw[F.size];omega)];simp[F.size]
 ·intro j l;rw[QeJ]at l;simp_all
 rw[QkV _ _ (by rw[F.size];omega)];exact g
def W(P:Program)(N:Nat)(f:SCode)(Q:SX->St->Prop)(A:St):Prop:=∀code,okCode P N code f=true->∀(c:Ctx (okc P))(a:Act)(w:World),SRel N c A a w->∀(ro:Option Nat),(f.rf=true->ro=none)->∀(Q':Exit->Act->World->Prop),(∀e B g h d,Q e B->SRel N g B h d->Evo c w g d->Q' e.toExit h d)->code.wpIn (FW ro) 0 P Q' a w
section rules
variable{N:Nat}{Q:SX->St->Prop}{A:St}
theorem W.mono{g:SCode}{Q':SX->St->Prop}(h:W P N g Q A)(k:∀e B,Q e B->Q' e B):W P N g Q' A:=fun code d c a w S ro f R m=>h code d c a w S ro f R fun e B i j l n S' E'=>m e B i j l (k e B n) S' E'
theorem W.congr{g:SCode}{B:St}(h:W P N g Q A)(e:SEq B A):W P N g Q B:=fun code d c a w S ro f R i=>h code d c a w (S.congr e) ro f R i
theorem W.skip(h:Q .normal A):W P N .skip Q A:=by intro code d c a w S ro f Q' g;cases code<;>simp only[okCode,Zap]at d;exact wpIn_skip (g .normal A c a w h S (.refl c w))
theorem W.ret(h:Q .ret A):W P N .ret Q A:=by intro code d c a w S ro f Q' g;cases code<;>simp only[okCode,Zap]at d;exact wpIn_ret (g .ret A c a w h S (.refl c w))
theorem W.exit{i:Nat}(h:Q (.exit i) A):W P N (.exit i) Q A:=by intro code d c a w S ro f Q' g;cases code<;>simp only[okCode,Zap,beq_iff_eq]at d;subst d;exact wpIn_exit (g (.exit _) A c a w h S (.refl c w))
theorem W.seq{x y:SCode}(h:W P N x (fun e B=>match e with|.normal=>W P N y Q B|e=>Q e B) A):W P N (.seq x y) Q A:=by intro code d c a w S ro f Q' l;cases code<;>simp only[okCode,Zap,Zab]at d;rename_i n cy;refine wpIn_seq (h n d.1 c a w S ro (fun e=>f (by simp[SCode.rf,e])) _ ?_);intro e B j m k g S' E';cases e with|normal=>exact g cy d.2 j m k S' ro (fun e=>f (by simp[SCode.rf,e])) Q' fun q B2 s o r p S2 E2=>l q B2 s o r p S2 (E'.trans E2)|exit i=>exact l (.exit i) B j m k g S' E'|ret=>exact l .ret B j m k g S' E'
theorem W.cond{x:Opd}{y z:SCode}{t:Bool}(i:ev A.T x=.bool t)(h1:t=true->W P N y Q A)(k:t=false->W P N z Q A):W P N (.cond x y z) Q A:=by intro code d c a w S ro f Q' h;cases code<;>simp only[okCode,Zap,Zab]at d;rename_i o cy j;have g:=Qas S.tmps d.1.1;rw[i]at g;simp only[VRel]at g;refine wpIn_cond g ?_;cases t with|true=>exact h1 rfl cy d.1.2 c a w S ro (fun e=>f (by simp[SCode.rf,e])) Q' h|false=>exact k rfl j d.2 c a w S ro (fun e=>f (by simp[SCode.rf,e])) Q' h
theorem W.block{i:Nat}{b:SCode}(h:W P N b (fun e B=>match e with|.exit j=>if j=i then Q .normal B else Q (.exit j) B|e=>Q e B) A):W P N (.block i b) Q A:=by intro code d c a w S ro o Q' n;cases code<;>simp only[okCode,Zap,Zab,beq_iff_eq]at d;rename_i j p;obtain⟨rfl,d⟩:=d;refine wpIn_block (h p d c a w S ro (fun e=>o (by simp[SCode.rf,e])) _ ?_);intro e B m g l f S' E';cases e with|normal=>exact n .normal B m g l f S' E'|ret=>exact n .ret B m g l f S' E'|exit k=>
 simp only at f;show(if k=j then Q' .normal g l else Q' (.exit k) g l);split;·rename_i e;rw[if_pos e]at f;exact n .normal B m g l f S' E'
 rename_i e;rw[if_neg e]at f;exact n (.exit k) B m g l f S' E'
theorem lk_rm(T:Tmps)(l:List Nat)(i:Nat):lk (rm T l) i=if l.any (Nat.beq i)then .any else lk T i:=by induction T with|nil=>simp[rm,lk]|cons p T c=>obtain⟨j,u⟩:=p;simp only[rm];cases d:l.any (Nat.beq j)with
 |true=>
  simp only[cond_true,c,lk];by_cases e:j=i;·simp_all
  have a:Nat.beq j i=false:=by simp_all[ZaE]
  rw[a];simp|false=>
  simp only[cond_false,lk,c];by_cases e:j=i;·grind
  have a:Nat.beq j i=false:=by simp_all[ZaE]
  rw[a];simp
theorem SRel.forget{c:Ctx (okc P)}{a:Act}{w:World}{T:Tmps}{h:Heap}(S:SRel N c ⟨T,h⟩ a w)(l:List Nat):SRel N c ⟨rm T l,h⟩ a w:=⟨S.heap,fun i=>by rw[lk_rm];split<;>first|exact S.tmps i|simp[VRel],S.size,S.defers⟩
theorem W.region{sops:List SOper}{d:List (Nat×Nat)}{dead:List Nat}(base:Nat)(fpf:Nat->FP){C:St}(k:RunL P base sops fpf (List.range sops.length) A C)(hp:∀p∈d,(fpf p.1).apart (fpf p.2)=true)(hQ:Q .normal ⟨rm C.T dead,C.h⟩):W P N (.region sops d dead) Q A:=by intro code f c a w S ro j Q' g;cases code<;>simp only[okCode,Zap]at f;exact QfS f k hp S fun l i h S' E'=>g .normal _ l i h hQ (S'.forget dead) E'
end rules
end Go.AM
