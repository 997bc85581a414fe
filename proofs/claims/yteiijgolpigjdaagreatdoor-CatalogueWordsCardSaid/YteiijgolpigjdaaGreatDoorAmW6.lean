/- A part of the proof of CatalogueWordsCardSaid: lemmas on the way (AmJ, AmK). Conditions: none of ours. -/
import Derived.Orders
import Derived.Test.YteiijgolpigjdaaGreatDoorAmW5
set_option linter.unusedSectionVars false
set_option maxHeartbeats 32000000
set_option maxRecDepth 100000
set_option linter.unusedVariables false
set_option linter.unusedSimpArgs false
namespace Go.AM
variable {P:Program}
mutual
theorem VRel.noRef {ok:Okc} {c c':Ctx ok} {w:World} (hF:∀k,c.F k->c'.F k):∀(x:AV) (v:Value),noRef x=true->VRel c w x v->VRel c' w x v
 | .any,_,_,_=>by simp[VRel]
 | .bool b,_,_,h=>by simpa[VRel]using h
 | .int k n,_,_,h=>by simpa[VRel]using h
 | .str s,_,_,h=>by simpa[VRel]using h
 | .agg cs,v,hn,h=>by
  simp only[VRel]at h⊢
  simp only[AM.noRef]at hn
  obtain⟨vs,rfl,h⟩:=h
  exact⟨vs,rfl,VRels.noRef hF cs _ hn h⟩
 | .tup cs,v,hn,h=>by
  simp only[VRel]at h⊢
  simp only[AM.noRef]at hn
  obtain⟨vs,rfl,h⟩:=h
  exact⟨vs,rfl,VRels.noRef hF cs _ hn h⟩
 | .nilptr,_,_,h=>by simpa[VRel]using h
 | .ptr b g off,v,hn,h=>by simp[AM.noRef]at hn
 | .fptr cs,v,hn,h=>by
  simp only[VRel]at h⊢
  simp only[AM.noRef]at hn
  obtain⟨cb,off,C,e,fr,h1,h2,h3,h4⟩:=h
  exact⟨cb,off,C,e,fr,h1,hF _ h2,h3,VPre.noRef hF cs _ hn h4⟩
 | .nilsl,_,_,h=>by simpa[VRel]using h
 | .sl b g off len sz,v,hn,h=>by simp[AM.noRef]at hn
 | .fsl cs len sz,v,hn,h=>by
  simp only[VRel]at h⊢
  simp only[AM.noRef]at hn
  rcases h with h|⟨cb,off,cap,C,e,fr,h1,h2,h3,h4,h5,h6⟩
  ·exact .inl h
  ·exact .inr ⟨cb,off,cap,C,e,fr,h1,h2,h3,hF _ h4,h5,VPre.noRef hF cs _ hn h6⟩
 | .esl,_,_,h=>by simpa[VRel]using h
 | .nsl,_,_,h=>by simpa[VRel]using h
 | .nilmap,_,_,h=>by simpa[VRel]using h
 | .map b g,v,hn,h=>by simp[AM.noRef]at hn
 | .fmap ks vs,v,hn,h=>by
  simp only[VRel]at h⊢
  simp only[AM.noRef,Bool.and_eq_true]at hn
  obtain⟨mb,es,clock,h1,h2,h3,h4,h5,h6,h7⟩:=h
  exact⟨mb,es,clock,h1,hF _ h2,h3,h4,h5,VRels.noRef hF ks _ hn.1 h6,VRels.noRef hF vs _ hn.2 h7⟩
 | .nilfn,_,_,h=>by simpa[VRel]using h
 | .fn f x y,v,hn,h=>by
  simp only[VRel]at h⊢
  simp only[AM.noRef,Bool.and_eq_true]at hn
  obtain⟨x',y',h1,h2,h3⟩:=h
  exact⟨x',y',h1,VRels.noRef hF x _ hn.1 h2,VRels.noRef hF y _ hn.2 h3⟩
 | .nilif,_,_,h=>by simpa[VRel]using h
 | .yld b g,v,hn,h=>by simp[AM.noRef,AM.flatV]at hn
 | .typed _ _ _,v,hn,h=>by simp[AM.noRef,AM.flatV]at hn
 | .ifc t x,v,hn,h=>by
  simp only[VRel]at h⊢
  simp only[AM.noRef]at hn
  obtain⟨x',h1,h2⟩:=h
  exact⟨x',h1,VRel.noRef hF x _ hn h2⟩
theorem VRels.noRef {ok:Okc} {c c':Ctx ok} {w:World} (hF:∀k,c.F k->c'.F k):∀(x:List AV) (v:List Value),noRefs x=true->VRels c w x v->VRels c' w x v
 |[],_,_,h=>by simpa[VRels]using h
 |x::xs,v,hn,h=>by
  simp only[VRels]at h⊢
  simp only[AM.noRefs,Bool.and_eq_true]at hn
  obtain⟨u,us,h1,h2,h3⟩:=h
  exact⟨u,us,h1,VRel.noRef hF x _ hn.1 h2,VRels.noRef hF xs _ hn.2 h3⟩
theorem VPre.noRef {ok:Okc} {c c':Ctx ok} {w:World} (hF:∀k,c.F k->c'.F k):∀(x:List AV) (v:List Value),noRefs x=true->VPre c w x v->VPre c' w x v
 |[],_,_,_=>by simp[VPre]
 |x::xs,v,hn,h=>by
  simp only[VPre]at h⊢
  simp only[AM.noRefs,Bool.and_eq_true]at hn
  obtain⟨u,us,h1,h2,h3⟩:=h
  exact⟨u,us,h1,VRel.noRef hF x _ hn.1 h2,VPre.noRef hF xs _ hn.2 h3⟩
end
mutual
theorem VRel.flat {ok:Okc} {c c':Ctx ok} {w w':World}:∀(x:AV) (v:Value),flatV x=true->VRel c w x v->VRel c' w' x v
 | .any,_,_,_=>by simp[VRel]
 | .bool b,_,_,h=>by simpa[VRel]using h
 | .int k n,_,_,h=>by simpa[VRel]using h
 | .str s,_,_,h=>by simpa[VRel]using h
 | .agg cs,v,hn,h=>by
  simp only[VRel]at h⊢
  simp only[flatV]at hn
  obtain⟨vs,rfl,h⟩:=h
  exact⟨vs,rfl,VRels.flat cs _ hn h⟩
 | .tup cs,v,hn,h=>by
  simp only[VRel]at h⊢
  simp only[flatV]at hn
  obtain⟨vs,rfl,h⟩:=h
  exact⟨vs,rfl,VRels.flat cs _ hn h⟩
 | .nilptr,_,_,h=>by simpa[VRel]using h
 | .ptr b g off,v,hn,h=>by simp[flatV]at hn
 | .fptr cs,v,hn,h=>by simp[flatV]at hn
 | .nilsl,_,_,h=>by simpa[VRel]using h
 | .sl b g off len sz,v,hn,h=>by simp[flatV]at hn
 | .fsl cs len sz,v,hn,h=>by simp[flatV]at hn
 | .esl,_,_,h=>by simpa[VRel]using h
 | .nsl,_,_,h=>by simpa[VRel]using h
 | .nilmap,_,_,h=>by simpa[VRel]using h
 | .map b g,v,hn,h=>by simp[flatV]at hn
 | .fmap ks vs,v,hn,h=>by simp[flatV]at hn
 | .nilfn,_,_,h=>by simpa[VRel]using h
 | .fn f x y,v,hn,h=>by
  simp only[VRel]at h⊢
  simp only[flatV,Bool.and_eq_true]at hn
  obtain⟨x',y',h1,h2,h3⟩:=h
  exact⟨x',y',h1,VRels.flat x _ hn.1 h2,VRels.flat y _ hn.2 h3⟩
 | .nilif,_,_,h=>by simpa[VRel]using h
 | .yld b g,v,hn,h=>by simp[AM.noRef,AM.flatV]at hn
 | .typed _ _ _,v,hn,h=>by simp[AM.noRef,AM.flatV]at hn
 | .ifc t x,v,hn,h=>by
  simp only[VRel]at h⊢
  simp only[flatV]at hn
  obtain⟨x',h1,h2⟩:=h
  exact⟨x',h1,VRel.flat x _ hn h2⟩
theorem VRels.flat {ok:Okc} {c c':Ctx ok} {w w':World}:∀(x:List AV) (v:List Value),flatVs x=true->VRels c w x v->VRels c' w' x v
 |[],_,_,h=>by simpa[VRels]using h
 |x::xs,v,hn,h=>by
  simp only[VRels]at h⊢
  simp only[flatVs,Bool.and_eq_true]at hn
  obtain⟨u,us,h1,h2,h3⟩:=h
  exact⟨u,us,h1,VRel.flat x _ hn.1 h2,VRels.flat xs _ hn.2 h3⟩
end
def only {ok:Okc} (F:Nat->Prop) (n:Nat:=0):Ctx ok:={ρ:=fun _ _=>none,F:=F,O:=fun _=>False,base:=n}
theorem HRel.only {ok:Okc} {F:Nat->Prop} {n:Nat} {w:World} (hF:∀k,F k->k<w.heap.size):HRel (only (ok:=ok) F n) .e w:=
  ⟨fun _ _ _=>rfl,fun b x hx=>by simp[Tr.get]at hx,fun b x hx=>by simp[Tr.get]at hx,
    fun b g b' g' cb base base' l=>by obtain⟨x,hx,_⟩:=l;simp[Tr.get]at hx,fun _ _ h=>h,hF,fun _ h=>h.elim⟩
theorem PSpec.pure {f:Nat} {args:List AV} {v:AV} {c:Ctx (okc P)} {h:Heap} {w:World} {cargs:Array Value} (S:PSpec P f args v) (H:HRel c h w) (ha:VRels c w args cargs.toList):
  Callable P f/\Calls P f cargs w (Rets P c w h v):=by
 obtain⟨n1,n2,h',hc,hs⟩:=S
 refine⟨hc,(hs (only c.F) w cargs (HRel.only H.inF) (VRels.noRef (c:=c) (c':=only c.F) (fun _ h=>h) _ _ n1 ha)).mono ?_⟩
 rintro e w' ⟨cv,c',rfl,E,H',V⟩
 have hk:∀k,k<w.heap.size->w'.heap[k]?=w.heap[k]?:=fun k hk=>E.keep k hk (fun h=>h)
 obtain⟨E1,H1⟩:=H.grow E.os E.tape E.output E.size hk
 have hnew:∀k,c'.F k->¬c.O k/\k<w'.heap.size:=by
  intro k hk
  refine⟨fun hO=>?_,H'.inF k hk⟩
  rcases E.frzNew k hk with h|h|h
  ·exact H.disj k h hO
  ·exact h
  ·have:=H.inO k hO;omega
 refine⟨cv,{c with F:=c'.F},rfl,?_,H1.frozen c'.F (fun k hk=>E.frz k hk) hnew,VRel.noRef (c:=c') (c':={c with F:=c'.F}) (fun _ h=>h) _ _ n2 V⟩
 refine⟨E1.os,E1.tape,E1.output,E1.size,E1.shape,E1.keep,E1.rho,fun k hk=>E.frz k hk,fun k hk=>?_,E1.own,rfl⟩
 rcases E.frzNew k hk with h|h|h
 ·exact .inl h
 ·exact h.elim
 omega
theorem PSpec.borrow {f:Nat} {args:List AV} {v:AV} {c:Ctx (okc P)} {h:Heap} {w:World} {cargs:Array Value} (S:PSpec P f args v) (hv:flatV v=true) (H:HRel c h w) (ha:VRels (lent c) w args cargs.toList):
  Callable P f/\Calls P f cargs w (Rets P c w h v):=by
 obtain⟨n1,n2,h',hc,hs⟩:=S
 have hF:∀k,(c.F k\/c.O k)->k<w.heap.size:=fun k hk=>hk.elim (H.inF k) (H.inO k)
 refine⟨hc,(hs (only fun k=>c.F k\/c.O k) w cargs (HRel.only hF) (VRels.noRef (c:=lent c) (c':=only fun k=>c.F k\/c.O k) (fun _ h=>h) _ _ n1 ha)).mono ?_⟩
 rintro e w' ⟨cv,c',rfl,E,H',V⟩
 have hk:∀k,k<w.heap.size->w'.heap[k]?=w.heap[k]?:=fun k hk=>E.keep k hk (fun h=>h)
 obtain⟨E1,H1⟩:=H.grow E.os E.tape E.output E.size hk
 exact⟨cv,c,rfl,E1,H1,VRel.flat _ _ hv V⟩
theorem HSpec.heap {f:Nat} {args:List AV} {v:AV} {c:Ctx (okc P)} {h h':Heap} {w:World} {cargs:Array Value} (S:HSpec P f args h v h') (H:HRel c h w) (ha:VRels c w args cargs.toList):
  Callable P f/\Calls P f cargs w (Rets P c w h' v):=⟨S.1,S.2 c w cargs H ha⟩
theorem VPre.flat {ok:Okc} {c c':Ctx ok} {w w':World}:∀{xs:List AV} {vs:List Value},flatVs xs=true->VPre c w xs vs->VPre c' w' xs vs
 |[],_,_,_=>by simp[VPre]
 |x::xs,vs,hf,hv=>by
  simp only[flatVs,Bool.and_eq_true]at hf
  simp only[VPre]at hv⊢
  obtain⟨v,vs',rfl,g1,g2⟩:=hv
  exact⟨v,vs',rfl,VRel.flat _ _ hf.1 g1,VPre.flat hf.2 g2⟩
theorem QiM {ok:Okc} {b g:Nat} {c c1:Ctx ok} {w:World} (h1:c1.ρ b g=c.ρ b g) (h2:∀k,c.F k->c1.F k):∀{args:List AV} {vs:List Value},own1 b g args=true->VRels c w args vs->VRels c1 w args vs
 |[],vs,_,hv=>by grind [VRels]
 | x :: xs, vs, ho, hv => by
  simp only[VRels]at hv⊢
  obtain⟨v,vs',rfl,h3,h4⟩:=hv
  have rest:own1 b g xs=true/\VRel c1 w x v:=by
   cases x<;>simp only[own1,Bool.and_eq_true,beq_iff_eq]at ho<;>first
    |exact⟨ho.2,VRel.noRef h2 _ _ ho.1 h3⟩
    |skip
   obtain⟨⟨rfl,rfl⟩,ho⟩:=ho
   simp_all [VRel]
  exact⟨v,vs',rfl,rest.2,QiM h1 h2 rest.1 h4⟩
theorem GSpec.give {f b g:Nat} {args xs:List AV} {v:AV} {c:Ctx (okc P)} {h:Heap} {w:World} {cargs:Array Value} (S:GSpec P f args b g xs v) (H:HRel c h w) (hb:h.get b=some (.cells g xs)) (ha:VRels c w args cargs.toList):
  Callable P f/\Calls P f cargs w (Rets P c w (h.set b (.dead g)) v):=by
 obtain⟨hc,ho,hv,hx,hlim,hs⟩:=S
 have hg1:∀{y:Blk} k,(one b y).get k=if k=b then some y else none:=fun{y} k=>Qqp hlim k
 have hlive:Live h b g:=⟨_,hb,rfl,fun _=>by simp⟩
 let c1:Ctx (okc P):={ρ:=fun k y=>if k=b then c.ρ k y else none,F:=c.F,O:=fun k=>∃base,c.ρ b g=some (.loc k base),base:=c.base}
 have hr1:∀y,c1.ρ b y=c.ρ b y:=fun y=>if_pos rfl
 have hO1:∀k,c1.O k->c.O k:=fun k ⟨base,hk⟩=>H.owned hlive hk
 have H1:HRel c1 (one b (.cells g xs)) w:=by
  refine⟨fun k hk y=>?_,fun k x hk y hlt=>?_,fun k x hk=>?_,fun k y k' y' cb base base' l1 l2 _ _=>?_,fun k hF hO=>H.disj k hF (hO1 k hO),H.inF,fun k hO=>H.inO k (hO1 k hO)⟩
  ·grind
  ·rw [hg1] at hk
   split at hk
   ·rename_i e; subst e; cases hk
    rw[hr1];exact H.later k _ hb y hlt
   ·cases hk
  ·rw [hg1] at hk
   split at hk
   ·rename_i e; subst e; cases hk
    rcases H.blk k _ hb with⟨h1,h2⟩|⟨cb,base,C,e,fr,h1,h2,h3,h4,h5,h6⟩
    ·exact .inl ⟨(hr1 _).trans h1,h2⟩
    ·exact .inr ⟨cb,base,C,e,fr,(hr1 _).trans h1,⟨base,h1⟩,h3,h4,h5,VPre.flat hx h6⟩
   ·cases hk
  grind
 refine⟨hc,(hs c1 w cargs H1 (QiM (hr1 g) (fun _ h=>h) ho ha)).mono ?_⟩
 rintro e w' ⟨cv,c',rfl,E,hin,V⟩
 have hnew:∀k,c'.F k\/c'.O k->c.F k\/c1.O k\/w.heap.size<=k:=fun k hk=>hk.elim (E.frzNew k) fun h=> .inr (E.own k h)
 let c2:Ctx (okc P):={ρ:=c.ρ,F:=fun k=>c'.F k\/c'.O k,O:=fun k=>c.O k/\¬(c'.F k\/c'.O k),base:=c.base}
 have E2:Evo c w c2 w':=⟨E.os,E.tape,E.output,E.size,E.shape,fun k hk hO=>E.keep k hk fun h=>hO (hO1 k h),fun _ _ _ h=>h,fun k hk=> .inl (E.frz k hk),fun k hk=>(hnew k hk).elim .inl fun h=>h.elim (fun h=> .inr (.inl (hO1 k h))) fun h=> .inr (.inr h),fun k hk=> .inl hk.1,rfl⟩
 refine⟨cv,c2,rfl,E2,?_,VRel.noRef (c:=lent c') (c':=c2) (fun _ h=>h) _ _ hv V⟩
 have hset:∀k,(h.set b (.dead g)).get k=if k=b then some (.dead g)else h.get k:=fun k=>Tr.Qa2 _ hlim k _
 have hlv:∀k y,Live (h.set b (.dead g)) k y->Live h k y:=by
  rintro k y ⟨x,hk,hg,hd⟩
  rw[hset]at hk
  split at hk
  ·grind
  ·exact⟨x,hk,hg,hd⟩
 refine⟨fun k hk y=>?_,fun k x hk y hlt=>?_,fun k x hk=>?_,fun k y k' y' cb base base' l1 l2 p1 p2=>H.inj k y k' y' cb base base' (hlv _ _ l1) (hlv _ _ l2) p1 p2,fun k hF hO=>hO.2 hF,hin,fun k hO=>Nat.lt_of_lt_of_le (H.inO k hO.1) E.size⟩
 ·rw [hset] at hk
  split at hk
  ·cases hk
  ·exact H.fresh k hk y
 ·rw [hset] at hk
  split at hk
  ·rename_i e; subst e; cases hk
   exact H.later k _ hb y hlt
  ·exact H.later k x hk y hlt
 ·rw [hset] at hk
  split at hk
  ·cases hk;trivial
  ·rename_i e
   refine BRel.mono (E2.ext H.disj) (fun cb base hd hp=>?_) (H.blk k x hk)
   have hO:=H.owned ⟨x,hk,rfl,hd⟩ hp
   have hne:¬c1.O cb:=by
    rintro⟨base',hk'⟩
    exact e (H.inj _ _ _ _ _ _ _ ⟨x,hk,rfl,hd⟩ hlive hp hk')
   refine⟨⟨hO,fun hF=>?_⟩,E.keep cb (H.inO _ hO) hne⟩
   rcases hnew cb hF with h1|h1|h1
   ·exact H.disj cb h1 hO
   ·exact hne h1
   ·have:=H.inO cb hO;omega
theorem GSpec.heap {f b g:Nat} {args xs:List AV} {v:AV} {h:Heap} (S:GSpec P f args b g xs v) (hb:h.get b=some (.cells g xs)):HSpec P f args h v (h.set b (.dead g)):=
 ⟨S.1,fun _ _ _ H ha=>(S.give H hb ha).2⟩
theorem NSpec.new {f i len sz:Nat} {asg ys:List AV} {c:Ctx (okc P)} {h:Heap} {w:World} {cargs:Array Value} {F0:Nat->Prop} (S:NSpec P f asg ys len sz) (H:HRel c h w) (hF:∀k,c.F k->F0 k) (hFO:∀k,F0 k->c.F k\/c.O k)
  (hn:flatVs ys=true\/(noRefs ys=true/\∀k,F0 k->c.F k)) (ha:VRels (only (ok:=okc P) F0) w asg cargs.toList) (hlim:i<lim) (hi:h.get i=none):
  Calls P f cargs w (Rets P c w (h.set i (.cells 0 ys)) (.sl i 0 0 len sz)):=by
 obtain⟨_,_,b,g,off,cs,h',hdrop,hoff,hb,_,hs⟩:=S
 have hF0:∀k,F0 k->k<w.heap.size:=fun k hk=>(hFO k hk).elim (H.inF k) (H.inO k)
 refine(hs (only F0) w cargs (HRel.only hF0) ha).mono ?_
 rintro e w' ⟨cv,c',rfl,E,H',V⟩
 have hkeep:∀k,k<w.heap.size->w'.heap[k]?=w.heap[k]?:=fun k hk=>E.keep k hk (fun h=>h)
 have hnew:∀k,c'.O k->w.heap.size<=k:=fun k hO=>(E.own k hO).elim (fun h=>h.elim) id
 obtain⟨E1,H1⟩:=H.grow E.os E.tape E.output E.size hkeep
 let F2:Nat->Prop:=fun k=>c'.F k/\(c.F k\/w.heap.size<=k)
 have hF2:∀k,c.F k->F2 k:=fun k hk=>⟨E.frz k (hF k hk),.inl hk⟩
 have H2:HRel ({c with F:=F2}:Ctx (okc P)) h w':=H1.frozen F2 hF2 fun k hk=>⟨fun hO=>hk.2.elim (fun h=>H.disj k h hO) fun h=>(by have:=H.inO k hO;omega),H'.inF k hk.1⟩
 have E2:Evo c w ({c with F:=F2}:Ctx (okc P)) w':=⟨E1.os,E1.tape,E1.output,E1.size,E1.shape,E1.keep,E1.rho,hF2,fun k hk=>hk.2.elim .inl fun h=> .inr (.inr h),E1.own,rfl⟩
 have hpl:∀y,c.ρ i y=none:=fun y=>H.fresh i hi y
 rcases H'.blk b _ hb with⟨hp,rfl⟩|⟨cb,base,C,ty,fr,hp,hO,hC,hun,hbs,hpre⟩
 ·simp only [VRel] at V
  rcases V with⟨_,rfl,rfl,rfl⟩|⟨cb,base,o,cap,C,ty,fr,hp2,_⟩
  ·simp only [List.drop_nil] at hdrop
   subst hdrop
   have hput:=H2.putNil (b:=i) (g:=0) hlim (fun y _=>hpl y) (.inl (hpl 0))
   exact⟨_,_,rfl,E2.trans hput.1,hput.2,by simp_all [VRel,Qa6]⟩
  simp_all
 ·simp only [VRel] at V
  rcases V with⟨hp2,_⟩|⟨cb2,base2,o,cap,C2,ty2,fr2,hp2,rfl,hlc,hC2,hcap⟩
  ·simp_all
  ·rw [show c'.ρ b g = _ from hp] at hp2
   cases hp2
   rw[hC]at hC2;cases hC2
   have hcn:=hnew cb hO
   have hlen:=Qbk hpre
   simp at hlen
   have hy:=Qbi off hpre
   rw[List.drop_drop,hdrop]at hy
   have hcF:¬c'.F cb:=fun h=>H'.disj cb h hO
   have hcO:¬c.O cb:=fun h=>by have:=H.inO cb h;omega
   let c2:Ctx (okc P):=({c with F:=F2}:Ctx (okc P)).with i 0 (.loc cb (base+off)) (some cb)
   have hr1:∀k y,k≠i->c2.ρ k y=c.ρ k y:=fun k y hne=>by
    show(if k=i/\y=0 then _ else c.ρ k y)=_
    simp_all
   have hr2:∀y,y≠0->c2.ρ i y=none:=fun y hne=>by
    show(if i=i/\y=0 then _ else c.ρ i y)=_
    simp_all
   have hr0:c2.ρ i 0=some (.loc cb (base+off)):=Qa6
   have hO2:∀k,c2.O k->c.O k\/k=cb:=fun k hk=>hk.imp id fun h=>Option.some.inj h
   have E3:Evo c w c2 w':=⟨E1.os,E1.tape,E1.output,E1.size,E1.shape,fun k h1 _=>hkeep k h1,fun k y p hp=>by
    grind,hF2,fun k hk=>hk.2.elim .inl fun h=> .inr (.inr h),fun k hk=>(hO2 k hk).elim .inl fun h=> .inr (by omega),rfl⟩
   have hset:∀k,(h.set i (.cells 0 ys)).get k=if k=i then some (.cells 0 ys)else h.get k:=fun k=>Tr.Qa2 _ hlim k _
   refine⟨_,c2,rfl,E3,?_,?_⟩
   ·refine ⟨fun k hk y => ?_, fun k x hk y hlt => ?_, fun k x hk => ?_, fun k y k' y' cb1 b1 b1' l1 l2 p1 p2 => ?_, fun k hF hO => ?_, fun k hF => H'.inF k hF.1, fun k hO => ?_⟩
    ·rw [hset] at hk
     split at hk
     ·cases hk
     ·rename_i e;rw[hr1 k y e];exact H.fresh k hk y
    ·rw [hset] at hk
     split at hk
     ·grind
     ·rename_i e;rw[hr1 k y e];exact H.later k x hk y hlt
    ·rw [hset] at hk
     split at hk
     ·rename_i e; subst e; cases hk
      refine .inr ⟨cb,base+off,C,ty,fr,hr0,.inr rfl,hC,hun,by omega,?_⟩
      rcases hn with hn|⟨hn,hFc⟩
      ·exact VPre.flat hn hy
      ·refine VPre.noRef (c := c') (c' := c2) (fun k hkF => ⟨hkF, ?_⟩) _ _ hn hy
       rcases E.frzNew k hkF with h1|h1|h1
       ·exact .inl (hFc k h1)
       ·exact h1.elim
       omega
     ·rename_i e
      refine BRel.mono (E3.ext H.disj) (fun cb' base' hd hp'=>?_) (H.blk k x ‹_›)
      have hOk:=H.owned ⟨x,hk,rfl,hd⟩ hp'
      exact⟨.inl hOk,hkeep cb' (H.inO _ hOk)⟩
    ·have key : ∀ k y b, Live (h.set i (.cells 0 ys)) k y -> c2.ρ k y = some (.loc cb1 b) -> (k = i /\ cb1 = cb) \/ (k ≠ i /\ Live h k y /\ c.ρ k y = some (.loc cb1 b) /\ cb1 < w.heap.size) := by
      rintro k y b ⟨x,hk,hg,hd⟩ hp'
      rw[hset]at hk
      split at hk
      ·grind
      ·rename_i e
       rw[hr1 k y e]at hp'
       exact .inr ⟨e,⟨x,hk,hg,hd⟩,hp',H.inO _ (H.owned ⟨x,hk,hg,hd⟩ hp')⟩
     rcases key k y b1 l1 p1 with⟨k1,k2⟩|⟨k1,k2,k3,k4⟩<;>rcases key k' y' b1' l2 p2 with⟨j1,j2⟩|⟨j1,j2,j3,j4⟩
     ·rw[k1,j1]
     ·omega
     ·omega
     ·exact H.inj _ _ _ _ _ _ _ k2 j2 k3 j3
    ·rcases hO2 k hO with h1 | rfl
     ·exact hF.2.elim (fun h2=>H.disj k h2 h1) fun h2=>by have:=H.inO k h1;omega
     ·exact hcF hF.1
    ·rcases hO2 k hO with h1 | rfl
     ·exact Nat.lt_of_lt_of_le (H.inO k h1) E.size
     grind
   ·simp only [VRel]
    grind
theorem NStep.calls {i f:Nat} {args:List AV} {v:AV} {c:Ctx (okc P)} {h h1:Heap} {fp:FP} {w:World} {cargs:Array Value} (N:NStep P i f args h v h1 fp) (H:HRel c h w) (ha:VRels c w args cargs.toList):
  Callable P f/\Calls P f cargs w (Rets P c w h1 v):=by
 obtain⟨asg,R,hR,hN⟩:=N
 have own:asg=args->noRefs asg=true->VRels (only (ok:=okc P) c.F) w asg cargs.toList:=fun e hn=>by
  subst e
  exact VRels.noRef (c:=c) (c':=only c.F) (fun _ h=>h) _ _ hn ha
 have lend:(mapH (frzH 4) args).run h=some (asg,h)->VRels (lent c) w asg cargs.toList:=fun hm=>(Qc1 (Qef H 4) _ _ _ _ ha hm).2
 rcases hN with⟨ys,len,sz,n1,n2,hl,hi,rfl,rfl,_⟩|⟨n1,n2,rfl,_⟩
 ·refine ⟨n1.1, ?_⟩
  rcases hR with⟨e,_⟩|⟨hm,_⟩
  ·exact n1.new H (F0:=c.F) (fun _ h=>h) (fun _ h=> .inl h) (n2.imp id fun h=>⟨h.1,fun _ h=>h⟩) (own e n1.2.1) hl hi
  ·rcases n2 with n2 | ⟨n2, n3⟩
   ·exact n1.new H (F0:=fun k=>c.F k\/c.O k) (fun _ h=> .inl h) (fun _ h=>h) (.inl n2) (VRels.noRef (c:=lent c) (c':=only fun k=>c.F k\/c.O k) (fun _ h=>h) _ _ n1.2.1 (lend hm)) hl hi
   ·exact n1.new H (F0:=c.F) (fun _ h=>h) (fun _ h=> .inl h) (.inr ⟨n2,fun _ h=>h⟩) (own n3 n1.2.1) hl hi
 ·rcases hR with ⟨e, _⟩ | ⟨hm, _⟩
  ·subst e;exact n1.pure H ha
  ·rcases n2 with n2 | n2
   ·exact n1.borrow n2 H (lend hm)
   ·subst n2;exact n1.pure H ha
theorem NStep.heap {i f:Nat} {args:List AV} {v:AV} {h h1:Heap} {fp:FP} (N:NStep P i f args h v h1 fp):HSpec P f args h v h1:=by
 have hc:Callable P f:=by
  obtain⟨asg,R,_,⟨_,_,_,n1,_⟩|⟨n1,_⟩⟩:=N
  ·exact n1.1
  ·exact n1.2.2.choose_spec.1
 exact⟨hc,fun _ _ _ H ha=>(N.calls H ha).2⟩
mutual
theorem VRel.inB {ok:Okc} {B:List Nat} {c c':Ctx ok} {w:World} (hr:∀b∈B,∀g,c'.ρ b g=c.ρ b g) (hF:∀k,c.F k->c'.F k):∀(x:AV) (v:Value),AM.inB B x=true->VRel c w x v->VRel c' w x v
 | .any,_,_,_=>by simp[VRel]
 | .bool b,_,_,h=>by simpa[VRel]using h
 | .int k n,_,_,h=>by simpa[VRel]using h
 | .str s,_,_,h=>by simpa[VRel]using h
 | .agg cs,v,hn,h=>by
  simp only[VRel]at h⊢
  simp only[AM.inB]at hn
  obtain⟨vs,rfl,h⟩:=h
  exact⟨vs,rfl,VRels.inB hr hF cs _ hn h⟩
 | .tup cs,v,hn,h=>by
  simp only[VRel]at h⊢
  simp only[AM.inB]at hn
  obtain⟨vs,rfl,h⟩:=h
  exact⟨vs,rfl,VRels.inB hr hF cs _ hn h⟩
 | .nilptr,_,_,h=>by simpa[VRel]using h
 | .ptr b g off,v,hn,h=>by
  simp only[AM.inB,Qdh]at hn
  simp only[VRel]at h⊢
  rw[hr b hn];exact h
 | .fptr cs,v,hn,h=>by
  simp only[VRel]at h⊢
  simp only[AM.inB]at hn
  obtain⟨cb,off,C,e,fr,h1,h2,h3,h4⟩:=h
  exact⟨cb,off,C,e,fr,h1,hF _ h2,h3,VPre.inB hr hF cs _ hn h4⟩
 | .nilsl,_,_,h=>by simpa[VRel]using h
 | .sl b g off len sz,v,hn,h=>by
  simp only[AM.inB,Qdh]at hn
  simp only[VRel]at h⊢
  rw[hr b hn];exact h
 | .fsl cs len sz,v,hn,h=>by
  simp only[VRel]at h⊢
  simp only[AM.inB]at hn
  rcases h with h|⟨cb,off,cap,C,e,fr,h1,h2,h3,h4,h5,h6⟩
  ·exact .inl h
  ·exact .inr ⟨cb,off,cap,C,e,fr,h1,h2,h3,hF _ h4,h5,VPre.inB hr hF cs _ hn h6⟩
 | .esl,_,_,h=>by simpa[VRel]using h
 | .nsl,_,_,h=>by simpa[VRel]using h
 | .nilmap,_,_,h=>by simpa[VRel]using h
 | .map b g,v,hn,h=>by
  simp only[AM.inB,Qdh]at hn
  simp only[VRel]at h⊢
  rw[hr b hn];exact h
 | .fmap ks vs,v,hn,h=>by
  simp only[VRel]at h⊢
  simp only[AM.inB,Bool.and_eq_true]at hn
  obtain⟨mb,es,clock,h1,h2,h3,h4,h5,h6,h7⟩:=h
  exact⟨mb,es,clock,h1,hF _ h2,h3,h4,h5,VRels.inB hr hF ks _ hn.1 h6,VRels.inB hr hF vs _ hn.2 h7⟩
 | .nilfn,_,_,h=>by simpa[VRel]using h
 | .fn f x y,v,hn,h=>by
  simp only[VRel]at h⊢
  simp only[AM.inB,Bool.and_eq_true]at hn
  obtain⟨x',y',h1,h2,h3⟩:=h
  exact⟨x',y',h1,VRels.inB hr hF x _ hn.1 h2,VRels.inB hr hF y _ hn.2 h3⟩
 | .nilif,_,_,h=>by simpa[VRel]using h
 | .yld b g,v,hn,h=>by
  simp only[AM.inB,Qdh]at hn
  simp only[VRel]at h⊢
  rw[hr b hn];exact h
 | .ifc t x,v,hn,h=>by
  simp only[VRel]at h⊢
  simp only[AM.inB]at hn
  obtain⟨x',h1,h2⟩:=h
  exact⟨x',h1,VRel.inB hr hF x _ hn h2⟩
 | .typed t n x,v,hn,h=>by
  simp only[VRel]at h⊢
  simp only[AM.inB]at hn
  exact⟨h.1,VRel.inB hr hF x _ hn h.2⟩
theorem VRels.inB {ok:Okc} {B:List Nat} {c c':Ctx ok} {w:World} (hr:∀b∈B,∀g,c'.ρ b g=c.ρ b g) (hF:∀k,c.F k->c'.F k):∀(x:List AV) (v:List Value),inBs B x=true->VRels c w x v->VRels c' w x v
 |[],_,_,h=>by simpa[VRels]using h
 |x::xs,v,hn,h=>by
  simp only[VRels]at h⊢
  simp only[AM.inBs,Bool.and_eq_true]at hn
  obtain⟨u,us,h1,h2,h3⟩:=h
  exact⟨u,us,h1,VRel.inB hr hF x _ hn.1 h2,VRels.inB hr hF xs _ hn.2 h3⟩
theorem VPre.inB {ok:Okc} {B:List Nat} {c c':Ctx ok} {w:World} (hr:∀b∈B,∀g,c'.ρ b g=c.ρ b g) (hF:∀k,c.F k->c'.F k):∀(x:List AV) (v:List Value),inBs B x=true->VPre c w x v->VPre c' w x v
 |[],_,_,_=>by simp[VPre]
 |x::xs,v,hn,h=>by
  simp only[VPre]at h⊢
  simp only[AM.inBs,Bool.and_eq_true]at hn
  obtain⟨u,us,h1,h2,h3⟩:=h
  exact⟨u,us,h1,VRel.inB hr hF x _ hn.1 h2,VPre.inB hr hF xs _ hn.2 h3⟩
end
theorem MRel.inB {ok:Okc} {B:List Nat} {c c':Ctx ok} {w:World} (hr:∀b∈B,∀g,c'.ρ b g=c.ρ b g) (hF:∀k,c.F k->c'.F k):∀{x:List (AV×AV)} {es:List MapEntry} {clock:Nat},inBe B x=true->MRel c w x es clock->MRel c' w x es clock
 |[],_,_,_,h=>by simpa[MRel]using h
 |(k,x)::r,es,clock,hn,h=>by
  simp only[MRel]at h⊢
  simp only[inBe,Bool.and_eq_true]at hn
  obtain⟨e,es',h1,h2,h3,h4,h5,h6⟩:=h
  exact⟨e,es',h1,VRel.inB hr hF k _ hn.1.1 h2,VRel.inB hr hF x _ hn.1.2 h3,h4,h5,MRel.inB hr hF hn.2 h6⟩
theorem FStep.calls {f:Nat} {args:List AV} {v:AV} {c:Ctx (okc P)} {h h1:Heap} {fp:FP} {w:World} {cargs:Array Value} (S:FStep P f args h v h1 fp) (H:HRel c h w) (ha:VRels c w args cargs.toList):
  Callable P f/\Calls P f cargs w (Rets P c w h1 v):=by
 obtain⟨B,D,W,k1,f1,f2,f3,f4,⟨hc,hs⟩,f6,f7,f8,f9,_,_,rfl,_⟩:=S
 have hB:∀b∈B,b<lim:=fun b hb=>Qdu f1 hb
 have hD:∀b∈D,b<lim:=fun b hb=>Qdu f2 hb
 have hpk:=Qpz (h:=h) hB (fun b hb e=>by grind [blkIn])
 have hov:=QeQ (k:=k1) (h:=h) hD f6
 let c1:Ctx (okc P):={ρ:=fun k y=>if k∈B then c.ρ k y else none,F:=c.F,O:=fun k=>∃b y base,b∈B/\Live h b y/\c.ρ b y=some (.loc k base),base:=c.base}
 have hr1:∀b∈B,∀y,c1.ρ b y=c.ρ b y:=fun b hb y=>if_pos hb
 have hrn:∀b,b∉B->∀y,c1.ρ b y=none:=fun b hb y=>if_neg hb
 have hO1:∀k,c1.O k->c.O k:=fun k ⟨b,y,base,_,hl,hk⟩=>H.owned hl hk
 have hlB:∀k y,Live (pick h B) k y->k∈B/\Live h k y:=by
  rintro k y ⟨x,hk,hg,hd⟩
  rw[hpk]at hk
  split at hk
  ·rename_i e;exact⟨e,x,hk,hg,hd⟩
  ·cases hk
 have H1:HRel c1 (pick h B) w:=by
  refine⟨fun k hk y=>?_,fun k x hk y hlt=>?_,fun k x hk=>?_,fun k y k' y' cb base base' l1 l2 p1 p2=>?_,fun k hF hO=>H.disj k hF (hO1 k hO),H.inF,fun k hO=>H.inO k (hO1 k hO)⟩
  ·rw [hpk] at hk
   split at hk
   ·rename_i e;rw[hr1 k e];exact H.fresh k hk y
   simp_all
  ·rw [hpk] at hk
   split at hk
   ·rename_i e;rw[hr1 k e];exact H.later k x hk y hlt
   ·cases hk
  ·rw [hpk] at hk
   split at hk
   ·rename_i e
    have hin:=f4 k e
    rw[hk]at hin
    have hb:=H.blk k x hk
    cases x with
    |dead g=>trivial
    |loop=>simp[blkIn]at hin
    |cells g cs=>
     simp only[blkIn]at hin
     rcases hb with⟨h1,h2⟩|⟨cb,base,C,ty,fr,h1,h2,h3,h4,h5,h6⟩
     ·exact .inl ⟨(hr1 k e g).trans h1,h2⟩
     ·exact .inr ⟨cb,base,C,ty,fr,(hr1 k e g).trans h1,⟨k,g,base,e,⟨_,hk,rfl,fun _=>by simp⟩,h1⟩,h3,h4,h5,VPre.inB hr1 (fun _ h=>h) _ _ hin h6⟩
    |map g es=>
     simp only[blkIn]at hin
     obtain⟨cb,es',clock,h1,h2,h3,h4,h5⟩:=hb
     exact⟨cb,es',clock,(hr1 k e g).trans h1,⟨k,g,0,e,⟨_,hk,rfl,fun _=>by simp⟩,h1⟩,h3,MRel.inB hr1 (fun _ h=>h) hin h4,h5⟩
   ·cases hk
  ·obtain ⟨e1, l1⟩ := hlB _ _ l1
   obtain⟨e2,l2⟩:=hlB _ _ l2
   rw[hr1 k e1]at p1
   rw[hr1 k' e2]at p2
   exact H.inj _ _ _ _ _ _ _ l1 l2 p1 p2
 refine⟨hc,(hs c1 w cargs H1 (VRels.inB hr1 (fun _ h=>h) _ _ f3 ha)).mono ?_⟩
 rintro e w' ⟨cv,c',rfl,E,H',V⟩
 have hdn:∀k,k∉D->k1.get k=none:=fun k hk=>by
  grind
 let c2:Ctx (okc P):={ρ:=fun k y=>if k∈D then c'.ρ k y else c.ρ k y,F:=c'.F,O:=fun k=>(c.O k/\¬c1.O k)\/c'.O k,base:=c.base}
 have hq1:∀k∈D,∀y,c2.ρ k y=c'.ρ k y:=fun k hk y=>if_pos hk
 have hq2:∀k,k∉D->∀y,c2.ρ k y=c.ρ k y:=fun k hk y=>if_neg hk
 have X2:Ext c' w' c2 w':=by
  refine⟨fun k y p hp=>?_,fun _ h=>h,fun _ _ _ h=>h,fun _ C _ fr h=>⟨C,fr,h,rfl⟩⟩
  by_cases hk:k∈D
  ·simp_all
  ·rw[H'.fresh k (hdn k hk) y]at hp;cases hp
 have E2:Evo c w c2 w':=by
  refine⟨E.os,E.tape,E.output,E.size,E.shape,fun k hk hO=>E.keep k hk fun h=>hO (hO1 k h),fun k y p hp=>?_,fun k hk=>E.frz k hk,fun k hk=>?_,fun k hk=>?_,rfl⟩
  ·by_cases hk : k ∈ D
   ·rw [hq1 k hk]
    by_cases hkB:k∈B
    ·exact E.rho k y p ((hr1 k hkB y).trans hp)
    ·rw[H.fresh k (f9 k hk hkB) y]at hp;cases hp
   simp_all
  ·rcases E.frzNew k hk with h1 | h1 | h1
   ·exact .inl h1
   ·simp_all
   omega
  ·rcases hk with hk | hk
   ·exact .inl hk.1
   ·exact(E.own k hk).imp (hO1 k) id
 have hlv:∀k y,Live (over k1 h D) k y->(k∈D/\Live k1 k y)\/(k∉D/\Live h k y):=by
  rintro k y ⟨x,hk,hg,hd⟩
  rw[hov]at hk
  split at hk
  ·rename_i e;exact .inl ⟨e,x,hk,hg,hd⟩
  ·rename_i e;exact .inr ⟨e,x,hk,hg,hd⟩
 have hout:∀k y cb base,k∉D->Live h k y->c.ρ k y=some (.loc cb base)->¬c1.O cb:=by
  rintro k y cb base hk hl hp ⟨b,y',base',hb,hl',hp'⟩
  have:=H.inj _ _ _ _ _ _ _ hl hl' hp hp'
  simp_all
 refine⟨cv,c2,rfl,E2,?_,VRel.mono X2 _ _ V⟩
 refine⟨fun k hk y=>?_,fun k x hk y hlt=>?_,fun k x hk=>?_,fun k y k' y' cb base base' l1 l2 p1 p2=>?_,fun k hF hO=>?_,fun k hF=>H'.inF k hF,fun k hO=>?_⟩
 ·rw [hov] at hk
  split at hk
  ·simp_all
  ·rename_i e;rw[hq2 k e];exact H.fresh k hk y
 ·rw [hov] at hk
  split at hk
  ·rename_i e;rw[hq1 k e];exact H'.later k x hk y hlt
  ·rename_i e;rw[hq2 k e];exact H.later k x hk y hlt
 ·rw [hov] at hk
  split at hk
  ·refine BRel.mono X2 (fun cb base hd hp => ?_) (H'.blk k x hk)
   exact⟨.inr (H'.owned ⟨x,hk,rfl,hd⟩ hp),rfl⟩
  ·rename_i e
   refine BRel.mono (E2.ext H.disj) (fun cb base hd hp=>?_) (H.blk k x hk)
   have hl:Live h k x.gen:=⟨x,hk,rfl,hd⟩
   have hO:=H.owned hl hp
   have hn:=hout k _ cb base e hl hp
   exact⟨.inl ⟨hO,hn⟩,E.keep cb (H.inO _ hO) hn⟩
 ·have cross : ∀ k y k' y' base base', k ∈ D -> Live k1 k y -> c2.ρ k y = some (.loc cb base) -> k' ∉ D -> Live h k' y' -> c2.ρ k' y' = some (.loc cb base') -> False := by
   intro k y k' y' base base' e1 l1 p1 e2 l2 p2
   rw[hq1 k e1]at p1
   rw[hq2 k' e2]at p2
   rcases E.own cb (H'.owned l1 p1)with h1|h1
   ·grind
   ·have:=H.inO _ (H.owned l2 p2);omega
  rcases hlv _ _ l1 with⟨e1,l1⟩|⟨e1,l1⟩<;>rcases hlv _ _ l2 with⟨e2,l2⟩|⟨e2,l2⟩
  ·rw [hq1 k e1] at p1
   rw[hq1 k' e2]at p2
   exact H'.inj _ _ _ _ _ _ _ l1 l2 p1 p2
  ·grind
  ·grind
  ·rw [hq2 k e1] at p1
   rw[hq2 k' e2]at p2
   exact H.inj _ _ _ _ _ _ _ l1 l2 p1 p2
 ·rcases hO with ⟨h1, h2⟩ | h1
  ·rcases E.frzNew k hF with h3 | h3 | h3
   ·exact H.disj k h3 h1
   ·exact h2 h3
   ·have:=H.inO k h1;omega
  ·exact H'.disj k hF h1
 ·rcases hO with ⟨h1, _⟩ | h1
  ·exact Nat.lt_of_lt_of_le (H.inO k h1) E.size
  ·exact H'.inO k h1
theorem FStep.heap {f:Nat} {args:List AV} {v:AV} {h h1:Heap} {fp:FP} (S:FStep P f args h v h1 fp):HSpec P f args h v h1:=by
 have hc:Callable P f:=by obtain⟨_,_,_,_,_,_,_,_,hs,_⟩:=S;exact hs.1
 exact⟨hc,fun _ _ _ H ha=>(S.calls H ha).2⟩
def Marks {ok:Okc} (c:Ctx ok) (w:World):List Deferred->Prop
 |[]=>c.base<=w.heap.size
 |d::ds=>(∃D,d={target:= .collected D,args:= #[]}/\c.base<=D/\¬c.O D/\¬c.F D/\w.heap[D]?=some (.deferred (some []))/\∀d'∈ds,d'.target≠ .collected D)/\Marks c w ds
theorem Marks.mono {ok:Okc} {c c':Ctx ok} {w w':World} (E:Evo c w c' w'):∀{ds:List Deferred},Marks c w ds->Marks c' w' ds
 |[],h=>by have h:c.base<=w.heap.size:=h;have:=E.size;show c'.base<=w'.heap.size;rw[E.base];omega
 | d :: ds, ⟨⟨D, h1, h2, h3, h4, h5, h6⟩, hr⟩ => by
  have hlt:=Qbd h5
  refine⟨⟨D,h1,by rw[E.base];exact h2,fun h=>?_,fun h=>?_,by rw[E.keep D hlt h3];exact h5,h6⟩,Marks.mono E hr⟩
  ·rcases E.own D h with h | h
   ·exact h3 h
   ·omega
  ·rcases E.frzNew D h with h | h | h
   ·exact h4 h
   ·exact h3 h
   ·omega
theorem Marks.low {ok:Okc} {c:Ctx ok} {w:World}:∀{ds:List Deferred},Marks c w ds->c.base<=w.heap.size
 |[],h=>h
 |_::_,h=>h.2.low
structure SRel {ok:Okc} (N:Nat) (c:Ctx ok) (A:St) (a:Act) (w:World):Prop where
 heap:HRel c A.h w
 tmps:TRel c w A.T a
 size:a.tmps.size=N
 defers:Marks c w a.defers
theorem SRel.congr {ok:Okc} {N:Nat} {c:Ctx ok} {A B:St} {a:Act} {w:World} (S:SRel N c A a w) (e:SEq A B):SRel N c B a w:=
 ⟨Qcd e.2 S.heap,fun i=>by rw[<-e.1 i];exact S.tmps i,S.size,S.defers⟩
theorem SRel.put {ok:Okc} {N:Nat} {c c':Ctx ok} {A:St} {a:Act} {w w':World} {dst:Option Nat} {v:AV} {cv:Value} {h1:Heap} (S:SRel N c A a w) (E:Evo c w c' w') (H:HRel c' h1 w') (hd:∀d,dst=some d->d<N)
  (V:VRel c' w' v cv):SRel N c' ⟨putD A.T dst v,h1⟩ (a.put dst cv) w':=by
 have hT:TRel c' w' A.T a:=fun i=>VRel.mono (E.ext S.heap.disj) _ _ (S.tmps i)
 cases dst with
 |none=>exact⟨H,hT,S.size,S.defers.mono E⟩
 | some d =>
  refine⟨H,fun i=>?_,by simp[Act.put,S.size],by simpa[Act.put]using S.defers.mono E⟩
  have hlt:d<a.tmps.size:=by rw[S.size];exact hd d rfl
  simp only[QbI,Act.put,Option.some.injEq]
  by_cases e:d=i
  ·simp_all
  ·rw [if_neg e]
   simpa[Array.getElem?_setIfInBounds_ne e]using hT i
theorem noDefer {o:Oper} {s:SOp} (hok:okOp P o.op s=true):(∀cl,o.op≠ .defer cl)\/s= .bad:=by
 grind [okOp]
theorem Qgt {ro:Option Nat} {N i:Nat} {o:Oper} {s:SOper} {A:St} {v:AV} {h1:Heap} {fp:FP} {c:Ctx (okc P)} {a:Act} {w:World} {K:Act->World->Prop} {Q:Exit->Act->World->Prop}
    (S:SRel N c A a w) (hdst:o.dst=s.dst) (hd:∀d,s.dst=some d->d<N) (hok:okOp P o.op s.op=true) (hs:StepX P i s.op A.T A.h v h1 fp)
    (hK:∀c' a' w',SRel N c' ⟨putD A.T s.dst v,h1⟩ a' w'->Evo c w c' w'->K a' w'):o.wpIn (FW ro) 0 P a w K Q:=by
  obtain⟨out,h2,hm,hh⟩:=hs
  have hsem:o.semAt ro a.eval=execOp a.eval o:=by
    grind [noDefer,Oper.semAt_eq,aop,HM.run]
  have hD:=Qpx S.heap S.tmps hok hm
  refine⟨fun _ _=>trivial,?_⟩
  show o.uponIn (FW ro) 0 P a K Q ((o.semAt ro a.eval).run P w)
  rw[hsem]
  have fin:∀e w',Rets P c w h1 v e w'->(match (motive:=Ending->World->Prop) e,w' with
      | .returned v,w''=>K (a.put o.dst v) w''
      | .panicked chain,w''=>Q (.panic chain) a w''
      | .outgrown,_=>LetsOut Q):=by
    rintro e w' ⟨cv,c',rfl,E,H',V⟩
    exact hK c' _ w' (by rw[hdst];exact S.put E H' hd V) E
  have called:∀(f:Nat) (cargs:Array Value),(execOp a.eval o).run P w= .ok (.enter f cargs) w->Calls P f cargs w (Rets P c w h1 v)->o.uponIn (FW ro) 0 P a K Q ((execOp a.eval o).run P w):=by
    intro f cargs hrun hcalls
    rw[hrun,Oper.uponIn_enter]
    refine⟨fun h=>by simp[FW,Fence.wide]at h,callsFW (hcalls.mono ?_)⟩
    omega
  match out,hm,hh,hD with
  | .val u, hm, hh, hD =>
    obtain⟨rfl,rfl,_⟩:=hh
    obtain⟨nx,cv,c',w',hr,hn,E,H',V⟩:=hD
    rw[hr]
    have hfin:=hK c' (a.put o.dst cv) w' (by rw[hdst];exact S.put E H' hd V) E
    rcases hn with rfl|⟨rfl,rfl⟩
    · exact hfin
    · exact hfin
  | .call .pure f args, hm, hh, hD =>
    obtain⟨g1,rfl,_⟩:=hh
    obtain⟨rfl,cargs,hr,hv,_⟩:=hD
    obtain⟨hc,hcalls⟩:=g1.pure S.heap (hv (by simp))
    exact called f cargs (hr hc) hcalls
  | .call .borrow f args, hm, hh, hD =>
    obtain⟨g1,g2,rfl,_⟩:=hh
    obtain⟨rfl,cargs,hr,_,hv⟩:=hD
    obtain⟨hc,hcalls⟩:=g1.borrow g2 S.heap (hv rfl)
    exact called f cargs (hr hc) hcalls
  | .call .heap f args, hm, hh, hD =>
    obtain⟨rfl,cargs,hr,hv,_⟩:=hD
    rcases hh with⟨g1,_⟩|⟨b,g,xs,g1,hb,rfl,_⟩|hN|hN
    · obtain ⟨hc, hcalls⟩ := g1.heap S.heap (hv (by simp))
      simp_all
    · obtain ⟨hc, hcalls⟩ := g1.give S.heap hb (hv (by simp))
      simp_all
    · obtain ⟨hc, hcalls⟩ := hN.calls S.heap (hv (by simp))
      simp_all
    · obtain ⟨hc, hcalls⟩ := hN.calls S.heap (hv (by simp))
      simp_all
  | .round b g args, hm, hh, hD =>
    obtain⟨g1,_⟩:=hh
    obtain⟨rfl,cb,cargs,hcb,hv,hr⟩:=hD
    obtain⟨fn,tmps,asg,body,hy,hround⟩:=g1 c w cargs cb S.heap hv hcb
    rw[hr,hy,Oper.uponIn_round]
    refine⟨fun h=>by simp[FW,Fence.wide]at h,trivial,fun fr cs _=>?_⟩
    obtain⟨e,w',hR,hc⟩:=hround.2 fr cs (room_wide _)
    refine⟨e,w',?_,hc⟩
    have:=fin e w' hR
    cases e<;>exact this
theorem QeS {ro:Option Nat} {N i bi:Nat} {ops:Array Oper} {o:Oper} {s:SOper} {A:St} {v:AV} {h1:Heap} {fp:FP} {c:Ctx (okc P)} {a:Act} {w:World} {K:Act->World->Prop} {Q:Exit->Act->World->Prop}
  (S:SRel N c A a w) (ho:ops[i]?=some o) (hok:okOper P N ops o s=true) (hs:StepV P bi s A.T A.h v h1 fp)
  (hK:∀c' a' w',SRel N c' ⟨putD A.T s.dst v,h1⟩ a' w'->Evo c w c' w'->K a' w'):wpOpIn (FW ro) 0 P ops Q i K a w:=by
 unfold okOper at hok
 simp only[Bool.and_eq_true,beq_iff_eq]at hok
 obtain⟨⟨⟨⟨g1,g2⟩,g3⟩,g4⟩,g5⟩:=hok
 have hd:∀d,s.dst=some d->d<N:=by
  grind
 unfold wpOpIn
 rw[ho]
 simp only
 unfold StepV at hs
 cases hg:s.guard with
 | none =>
  rw[hg]at hs g4
  have hog:o.guard=none:=by
   grind [okGuard]
  have:Region.wanted o (yielded ops a.tmps)=true:=by simp[Region.wanted,hog]
  rw[this]
  exact Qgt S g1 hd g3 hs hK
 | some p =>
  obtain⟨slot,want⟩:=p
  rw[hg]at hs g4
  simp only at hs
  obtain⟨b,hb,hs⟩:=hs
  cases hog:o.guard with
  |none=>rw[hog]at g4;simp[okGuard]at g4
  | some q =>
   obtain⟨j,want'⟩:=q
   rw[hog]at g4
   simp only[okGuard,Bool.and_eq_true,beq_iff_eq,decide_eq_true_eq]at g4
   obtain⟨⟨rfl,g6⟩,g7⟩:=g4
   have hlt:slot<a.tmps.size:=by rw[S.size];exact g7
   have hw:Region.wanted o (yielded ops a.tmps)=b:=by
    have hv:=S.tmps slot
    unfold wantedA at hb
    split at hb
    ·simp_all [VRel,yielded,Region.wanted]
    ·simp_all [VRel,VRels,yielded,Region.wanted]
    ·cases hb
   rw[hw]
   split at hs
   ·rename_i e; subst e
    simp only[if_true]
    grind [Qgt]
   ·rename_i e
    obtain⟨rfl,rfl,_⟩:=hs
    have:b=false:=by simpa using e
    rw[this]
    simp only[Bool.false_eq_true,if_false]
    refine⟨fun _ _=>trivial,hK c _ w ?_ (.refl c w)⟩
    rw[g1]
    exact S.put (.refl c w) S.heap hd (by simp[VRel,VRels,undef])
theorem Qqq (o:Option AV) (h:Heap):(lift o).fp h=([],[]):=by cases o<;>rfl
theorem Qmb {i:Nat} {T:Tmps} {s:SOp} {h:Heap} (hc:s.cls=0):(aop i T s).fp h=([],[]):=by
 cases s<;>simp only[SOp.cls,reduceCtorEq]at hc<;>first
  |exact Qqq _ _
  |rfl
  |(rename_i m x xs;cases m<;>simp at hc;done)
  |(simp at hc;done)
theorem Qqr {i:Nat} {T:Tmps} {s:SOp} (hc:s.cls=1):(aop i T s).ro:=by
 cases s<;>simp only[SOp.cls,reduceCtorEq,Nat.reduceEqDiff]at hc
 case convB x=>
  refine HM.QbS ?_ fun _=>trivial
  have src:∀(y:AV),(aSrc 1 y fun ys n=>match bytesOf ys with|some s=>HM.ret (AV.str s)|none=> .fail).ro:=by
   intro y
   unfold aSrc
   have fin:∀ys:List AV,(match bytesOf ys with|some s=>HM.ret (AV.str s)|none=>HM.fail).ro:=by
    intro ys;split<;>trivial
   split
   ·split
    ·refine QeP fun cs => ?_
     split
     ·exact fin _
     ·trivial
    ·trivial
   ·split
    ·exact fin _
    ·trivial
   ·exact fin []
   ·exact fin []
   ·exact fin []
   ·simp_all
   ·trivial
  unfold aConvB
  split
  ·trivial
  ·exact src _
 case eqn neg x=>
  refine HM.QbS ?_ fun _=>trivial
  unfold aEqN aNilS
  split
  ·intro y
   dsimp only
   split
   ·rename_i g' _ _
    generalize Nat.beq g' _=bb
    cases bb
    ·trivial
    simp_all [Qhz]
   ·trivial
  ·exact Qhz _
 case load n x=>
  refine HM.QbS ?_ fun _=>trivial
  unfold aLoad
  split
  ·refine QeP fun cs => ?_
   split
   ·exact Qhz _
   ·split<;>trivial
  ·split
   ·exact Qhz _
   ·split<;>trivial
  ·trivial
 case len k x=>
  refine HM.QbS ?_ fun _=>trivial
  unfold aLenC
  split
  ·unfold aLen
   split<;>try trivial
   intro x
   dsimp only
   split
   ·rename_i g' es
    generalize Nat.beq g' _=bb
    cases bb<;>trivial
   ·trivial
  ·trivial
 case lookup row ks zero ok x k=>
  refine HM.QbS ?_ fun _=>trivial
  unfold aLookup
  split
  ·split
   ·trivial
   ·refine Qni fun es => ?_
    split<;>trivial
   ·split<;>trivial
   ·trivial
  ·trivial
 case call m x args=>
  simp only[aop]
  unfold aCall
  split
  ·split
   ·exact HM.QbS (QcQ (QdT 4) _) fun _=>trivial
   ·trivial
  ·split<;>trivial
  ·trivial
theorem Qkd {i:Nat} {T:Tmps} {s:SOp} {h h2:Heap} {out:AOut} (ho:out.whole=true) (hc:s.cls<=1) (hm:(aop i T s).run h=some (out,h2)):False:=by
 have lf:∀(o:Option AV),(lift o).run h≠some (out,h2):=by
  intro o e
  obtain⟨v,_,k⟩:=QaV e
  cases k;cases ho
 have hf:∀(m:HM AV),(hval m).run h≠some (out,h2):=by
  intro m e
  obtain⟨v,h1,_,k⟩:=QaS e
  cases k;cases ho
 have vf:∀(u:AV),(HM.ret (AOut.val u)).run h≠some (out,h2):=by
  intro u e
  simp only[HM.run,Option.some.injEq,Prod.mk.injEq]at e
  obtain⟨rfl,rfl⟩:=e
  cases ho
 cases s<;>simp only[aop]at hm<;>first
  |exact absurd hm (lf _)
  |exact absurd hm (hf _)
  |exact absurd hm (vf _)
  |(simp only[HM.run,reduceCtorEq]at hm;done)
  |skip
 rename_i m x xs
 cases m with
 |heap=>simp[SOp.cls]at hc
 | pure =>
  unfold aCall at hm
  split at hm
  ·simp only [HM.run, Option.some.injEq, Prod.mk.injEq] at hm
   obtain⟨rfl,rfl⟩:=hm;cases ho
  ·simp[HM.run]at hm
  ·simp[HM.run]at hm
 | borrow =>
  unfold aCall at hm
  split at hm
  ·simp only at hm
   obtain⟨asg',h3,k1,k2⟩:=run_bind hm
   simp only[HM.run,Option.some.injEq,Prod.mk.injEq]at k2
   obtain⟨rfl,rfl⟩:=k2;cases ho
  ·simp[HM.run]at hm
  ·simp[HM.run]at hm
theorem StepX.cls {i:Nat} {s:SOp} {T:Tmps} {h:Heap} {v:AV} {h1:Heap} {fp:FP} (hs:StepX P i s T h v h1 fp) (hc:s.cls<=1):fp.all=false/\fp.W=[]/\(s.cls=0->fp.R=[]):=by
 obtain⟨out,h2,hm,hh⟩:=hs
 have key:fp=fpOf ((aop i T s).fp h)->fp.all=false/\fp.W=[]/\(s.cls=0->fp.R=[]):=by
  intro e
  subst e
  refine⟨rfl,?_,fun h0=>by simp[fpOf,Qmb h0]⟩
  grind [HM.ro_fp,Qqr,fpOf,Qmb]
 match out,hm,hh with
 | .val u,hm,hh=>exact key hh.2.2
 | .call .pure f args,hm,hh=>exact key hh.2.2
 | .call .borrow f args,hm,hh=>exact key hh.2.2.2
 | .call .heap f args,hm,hh=>exact(Qkd rfl hc hm).elim
 | .round b g args,hm,hh=>exact(Qkd rfl hc hm).elim
theorem StepV.cls {i:Nat} {s:SOper} {T:Tmps} {h:Heap} {v:AV} {h1:Heap} {fp:FP} (hs:StepV P i s T h v h1 fp) (hc:s.op.cls<=1):fp.all=false/\fp.W=[]/\(s.op.cls=0->fp.R=[]):=by
 unfold StepV at hs
 split at hs
 ·exact hs.cls hc
 ·obtain ⟨b, _, hs⟩ := hs
  split at hs
  ·exact hs.cls hc
  simp_all
def StepI (P:Program) (base:Nat) (sops:List SOper) (fpf:Nat->FP) (i:Nat) (A B:St):Prop:=
 ∃s v h1,sops[i]?=some s/\StepV P (base+i) s A.T A.h v h1 (fpf i)/\B=⟨putD A.T s.dst v,h1⟩
def RunL (P:Program) (base:Nat) (sops:List SOper) (fpf:Nat->FP):List Nat->St->St->Prop
 |[],A,C=>A=C
 |i::l,A,C=>∃B,StepI P base sops fpf i A B/\RunL P base sops fpf l B C
section
variable {base:Nat} {sops:List SOper} {fpf:Nat->FP}
theorem RunL.congr:∀{l:List Nat} {A B C:St},RunL P base sops fpf l A C->SEq A B->∃D,RunL P base sops fpf l B D/\SEq C D
 |[],A,B,C,hr,e=>by cases hr;exact⟨B,rfl,e⟩
 |i::l,A,B,C,hr,e=>by
  obtain⟨A1,⟨s,v,h1,hs,hv,rfl⟩,hr⟩:=hr
  obtain⟨h1',k1,k2⟩:=hv.congr e
  obtain⟨D,g1,g2⟩:=hr.congr k2
  exact⟨D,⟨_,⟨s,v,h1',hs,k1,rfl⟩,g1⟩,g2⟩
def Apart (sops:List SOper) (fpf:Nat->FP) (k i:Nat):Prop:=∀s t,sops[k]?=some s->sops[i]?=some t->s.apart t=true/\(fpf k).apart (fpf i)=true
theorem RunL.front:∀{l1 l2:List Nat} {i:Nat} {A C:St},RunL P base sops fpf (l1++i::l2) A C->(∀k∈l1,Apart sops fpf k i)->
  ∃B C',StepI P base sops fpf i A B/\RunL P base sops fpf (l1++l2) B C'/\SEq C' C
 |[],l2,i,A,C,hr,_=>by
  obtain⟨B,hs,hr⟩:=hr
  exact⟨B,C,hs,hr,.refl C⟩
 |k::l1,l2,i,A,C,hr,hap=>by
  obtain⟨A1,⟨s,v,h1,hs,hv,rfl⟩,hr⟩:=hr
  obtain⟨B,C',⟨t,u,h2,ht,hu,rfl⟩,hr',e⟩:=RunL.front hr (fun k hk=>hap k (by simp[hk]))
  obtain⟨a1,a2⟩:=hap k (by simp) s t hs ht
  obtain⟨hB',hC',k1,k2,k3⟩:=StepV.comm hv hu a1 a2
  obtain⟨D,g1,g2⟩:=hr'.congr k3.symm
  exact⟨_,D,⟨t,u,hB',ht,k1,rfl⟩,⟨_,⟨s,v,hC',hs,k2,rfl⟩,g1⟩,g2.symm.trans e⟩
inductive Bef (sops:List SOper):Nat->Nat->Prop
 |one {j k:Nat} {s:SOper}:sops[j]?=some s->k∈s.after->Bef sops k j
 |more {j k e:Nat} {s:SOper}:sops[j]?=some s->e∈s.after->Bef sops k e->Bef sops k j
end
structure Fits (P:Program) (N:Nat) (ops:Array Oper) (sops:List SOper):Prop where
 size:ops.size=sops.length
 ok:∀(i:Nat) (o:Oper),ops[i]?=some o->∃s,sops[i]?=some s/\okOper P N ops o s=true
theorem Fits.after {N:Nat} {ops:Array Oper} {sops:List SOper} (F:Fits P N ops sops) {i:Nat} {o:Oper} {s:SOper} (ho:ops[i]?=some o) (hs:sops[i]?=some s):
  ∀k,k∈s.after↔∃e∈o.after,Region.binds .any e=true/\e.on=k:=by
 obtain⟨s',hs',hok⟩:=F.ok i o ho
 grind [okOper,okAfter]
def rest (n:Nat) (listed:Array Bool):List Nat:=(List.range n).filter fun i=> !listed.getD i true
theorem QdU {n:Nat} {listed:Array Bool} {i:Nat}:i∈rest n listed↔i<n/\listed.getD i true=false:=by
 simp[rest]
theorem Qfw:∀(l:List Nat) (p:Nat->Bool) (i:Nat),l.Pairwise (· < ·)->i∈l->p i=true->
  ∃l1 l2,l.filter p=l1++i::l2/\l.filter (fun k=>p k&&k !=i)=l1++l2/\∀k∈l1,k<i/\p k=true
 |[],p,i,_,hi,_=>by simp at hi
 | x :: l, p, i, hl, hi, hp => by
  rw[List.pairwise_cons]at hl
  by_cases e:x=i
  ·subst e
   have hne:l.filter (fun k=>p k&&k !=x)=l.filter p:=by
    apply List.filter_congr
    intro k hk
    have:=hl.1 k hk
    have:(k !=x)=true:=by simp;omega
    simp[this]
   refine⟨[],l.filter p,?_,?_,by simp⟩
   ·simp_all
   simp_all
  ·have hi' : i ∈ l := by
    grind
   obtain⟨l1,l2,h1,h2,h3⟩:=Qfw l p i hl.2 hi' hp
   grind
theorem Qnk {n:Nat} {listed:Array Bool} {i:Nat} (hi:i∈rest n listed):∃l1 l2,rest n listed=l1++i::l2/\rest n (listed.setIfInBounds i true)=l1++l2/\∀k∈l1,k<i/\k<n/\listed.getD k true=false:=by
 obtain⟨h1,h2⟩:=QdU.1 hi
 obtain⟨l1,l2,k1,k2,k3⟩:=Qfw (List.range n) (fun k=> !listed.getD k true) i List.pairwise_lt_range (by simpa using h1) (by simp[h2])
 refine⟨l1,l2,k1,?_,?_⟩
 ·rw [<- k2]
  unfold rest
  apply List.filter_congr
  intro k _
  by_cases e:k=i
  ·simp_all
  ·have e2 : (k != i) = true := by simpa using e
   rw[getD_set_ne true (fun h=>e h.symm),e2,Bool.and_true]
 grind
structure Free (sops:List SOper) (fpf:Nat->FP):Prop where
 back:∀(j:Nat) (s:SOper),sops[j]?=some s->∀k∈s.after,k<j
 apart:∀(k i:Nat),k<i->i<sops.length->Bef sops k i\/Apart sops fpf k i
theorem Qn0 {ro:Option Nat} {N base:Nat} {ops:Array Oper} {sops:List SOper} {fpf:Nat->FP} (F:Fits P N ops sops) (R:Free sops fpf) {Q:Exit->Act->World->Prop} {C:St} {c0:Ctx (okc P)} {w0:World}
  (hQ:∀c a w,SRel N c C a w->Evo c0 w0 c w->Q .normal a w):
  ∀(fuel:Nat) (listed:Array Bool) (A C':St) (c:Ctx (okc P)) (a:Act) (w:World),listed.size=ops.size->(rest sops.length listed).length<=fuel->
   (∀j,listed.getD j false=true->∀k,Bef sops k j->listed.getD k false=true)->RunL P base sops fpf (rest sops.length listed) A C'->SEq C' C->SRel N c A a w->Evo c0 w0 c w->
   wpAnyIn (FW ro) 0 P .any ops Q fuel listed a w:=by
 intro fuel
 induction fuel with
 | zero =>
  intro listed A C' c a w hsz hf hcl hr he hS hE
  have h0:rest sops.length listed=[]:=List.eq_nil_of_length_eq_zero (by omega)
  refine⟨?_,?_⟩
  ·rw [List.eq_nil_iff_forall_not_mem]
   intro j hj
   obtain⟨g1,o,g2,g3⟩:=mem_ready.1 hj
   have:j<ops.size:=(Array.getElem?_eq_some_iff.1 g2).1
   have:j∈rest sops.length listed:=QdU.2 ⟨by rw[<-F.size];exact this,g1⟩
   simp_all
  ·rw [h0] at hr
   cases hr
   exact hQ c a w (hS.congr he) hE
 | succ fuel ih =>
  intro listed A C' c a w hsz hf hcl hr he hS hE
  refine⟨?_,?_⟩
  ·intro hnil
   have h0:rest sops.length listed=[]:=by
    cases hrr:rest sops.length listed with
    |nil=>rfl
    | cons i l =>
     exfalso
     have hi:i∈rest sops.length listed:=by rw[hrr];simp
     obtain⟨h1,h2⟩:=QdU.1 hi
     have hlt:i<ops.size:=by grind
     have hready:i∈Region.ready .any ops listed:=by
      rw[mem_ready]
      refine⟨h2,ops[i],Array.getElem?_eq_getElem hlt,fun e he hb=>?_⟩
      obtain⟨s,hs,_⟩:=F.ok i _ (Array.getElem?_eq_getElem hlt)
      have hmem:=(F.after (Array.getElem?_eq_getElem hlt) hs e.on).2 ⟨e,he,hb,rfl⟩
      have hback:=R.back i s hs e.on hmem
      have hon:e.on<listed.size:=by omega
      cases hv:listed.getD e.on false with
      |true=>rfl
      |false=>
       exfalso
       have hv2:listed.getD e.on true=false:=by simp_all
       have:e.on∈rest sops.length listed:=QdU.2 ⟨by omega,hv2⟩
       rw[hrr]at this
       have hsorted:(rest sops.length listed).Pairwise (· < ·):=List.Pairwise.filter _ List.pairwise_lt_range
       rw[hrr,List.pairwise_cons]at hsorted
       rcases List.mem_cons.1 this with h|h
       ·omega
       ·grind
     rw[hnil]at hready
     simp at hready
   rw[h0]at hr
   cases hr
   exact hQ c a w (hS.congr he) hE
  ·intro i hi
   obtain⟨g1,o,ho,g3⟩:=mem_ready.1 hi
   have hlt:i<ops.size:=(Array.getElem?_eq_some_iff.1 ho).1
   have hmr:i∈rest sops.length listed:=QdU.2 ⟨by rw[<-F.size];exact hlt,g1⟩
   obtain⟨s,hs,hok⟩:=F.ok i o ho
   have hbefi:∀k,Bef sops k i->listed.getD k false=true:=by
    intro k hb
    cases hb with
    |one h1 h2=>
     rw[hs]at h1;cases h1
     obtain⟨e,e1,e2,e3⟩:=(F.after ho hs k).1 h2
     rw[<-e3];exact g3 e e1 e2
    |more h1 h2 h3=>
     rw[hs]at h1;cases h1
     rename_i e'
     obtain⟨e,e1,e2,e3⟩:=(F.after ho hs e').1 h2
     exact hcl e' (by grind) k h3
   obtain⟨l1,l2,k1,k2,k3⟩:=Qnk hmr
   rw[k1]at hr
   obtain⟨B,C'',⟨s',v,h1,hs',hv,rfl⟩,hr',he'⟩:=RunL.front hr (fun k hk=>by
    obtain⟨m1,m2,m3⟩:=k3 k hk
    rcases R.apart k i m1 (by grind)with hb|hb
    ·grind
    ·exact hb)
   rw[hs]at hs';cases hs'
   refine QeS hS ho hok hv ?_
   intro c' a' w' hS' hE'
   refine ih _ _ C'' c' a' w' (by simpa using hsz) ?_ ?_ (by simp_all) (he'.trans he) hS' (hE.trans hE')
   ·grind
   ·intro j hj k hb
    by_cases hji:j=i
    ·grind [getD_set_true]
    ·rw [getD_set_ne false (fun h => hji h.symm)] at hj
     grind [getD_set_true]
end Go.AM
namespace Go.AM
variable {P:Program}
theorem Qfj {ro:Option Nat} {N base:Nat} {ops:Array Oper} {sops:List SOper} {fpf:Nat->FP} (F:Fits P N ops sops) {Q:Exit->Act->World->Prop} {C:St} {c0:Ctx (okc P)} {w0:World}
  (hQ:∀c a w,SRel N c C a w->Evo c0 w0 c w->Q .normal a w):
  ∀(l:List Nat) (A:St) (c:Ctx (okc P)) (a:Act) (w:World),RunL P base sops fpf l A C->SRel N c A a w->Evo c0 w0 c w->wpOpsIn (FW ro) 0 P ops Q l a w
 |[],A,c,a,w,hr,hS,hE=>by cases hr;exact hQ c a w hS hE
 | i :: l, A, c, a, w, hr, hS, hE => by
  obtain⟨B,⟨s,v,h1,hs,hv,rfl⟩,hr⟩:=hr
  rw[wpOpsIn_cons]
  cases ho:ops[i]? with
  | none =>
   exfalso
   have h1:ops.size<=i:=by
    simp_all
   have h2:i<sops.length:=(List.getElem?_eq_some_iff.1 hs).1
   have:=F.size
   omega
  |some o=>
   obtain⟨s',hs',hok⟩:=F.ok i o ho
   rw[hs]at hs';cases hs'
   exact QeS hS ho hok hv fun c' a' w' hS' hE'=>Qfj F hQ l _ c' a' w' hr hS' (hE.trans hE')
theorem Qfx (acc:List Nat):∀(l:List Nat) (m k:Nat),(l.foldl (fun m e=>m|||2^e|||acc.getD e 0) m).testBit k=true->m.testBit k=true\/∃e∈l,k=e\/(acc.getD e 0).testBit k=true
 |[],m,k,h=> .inl h
 |e::l,m,k,h=>by
  simp only[List.foldl_cons]at h
  rcases Qfx acc l _ k h with h1|⟨e',he',h1⟩
  ·grind
  grind
theorem Qgu {sops:List SOper}:∀(r pre:List SOper) (acc:List Nat),sops=pre++r->acc.length=pre.length->(∀j k,(acc.getD j 0).testBit k=true->Bef sops k j)->
  ∀j k,((masksFrom acc r).getD j 0).testBit k=true->Bef sops k j
 |[],pre,acc,_,_,h=>h
 | s :: r, pre, acc, hs, hl, h => by
  refine Qgu r (pre++[s]) _ (by simp[hs]) (by simp[hl]) ?_
  intro j k hb
  by_cases hj:j<acc.length
  ·grind
  ·by_cases hj2 : j = acc.length
   ·subst hj2
    have e:(acc++[maskOf acc s]).getD acc.length 0=maskOf acc s:=by simp
    rw[e]at hb
    have hget:sops[acc.length]?=some s:=by simp_all
    rcases Qfx acc s.after 0 k hb with h1|⟨e',he',h1⟩
    ·simp at h1
    ·rcases h1 with rfl | h1
     ·exact .one hget he'
     ·exact .more hget he' (h e' k h1)
   grind
theorem HM.QpD {α:Type} (m:HM α):∀(h:Heap) (a:α) (h1:Heap),m.run h=some (a,h1)->∀b,h.get b≠none->h1.get b≠none:=by
 induction m with
 |ret x=>intro h a h1 hm b hb;simp only[HM.run,Option.some.injEq,Prod.mk.injEq]at hm;obtain⟨rfl,rfl⟩:=hm;exact hb
 |fail=>intro h a h1 hm;simp[HM.run]at hm
 |look b k ih=>intro h a h1 hm;exact ih _ h a h1 hm
 |put b x k ih=>
  intro h a h1 hm b' hb
  obtain⟨hl,hm⟩:=Qa3 hm
  refine ih _ a h1 hm b' ?_
  rw[Tr.Qa2 _ hl]
  split
  ·simp
  ·exact hb
theorem QhB {i:Nat} {T:Tmps} {s:SOp} {h h2:Heap} {out:AOut} (ho:out.whole=true) (hc:s.still=true) (hm:(aop i T s).run h=some (out,h2)):False:=by
 have lf:∀(o:Option AV),(lift o).run h≠some (out,h2):=by
  intro o e
  obtain⟨v,_,k⟩:=QaV e
  cases k;cases ho
 have hf:∀(m:HM AV),(hval m).run h≠some (out,h2):=by
  intro m e
  obtain⟨v,h1,_,k⟩:=QaS e
  cases k;cases ho
 have vf:∀(u:AV),(HM.ret (AOut.val u)).run h≠some (out,h2):=by
  intro u e
  simp only[HM.run,Option.some.injEq,Prod.mk.injEq]at e
  obtain⟨rfl,rfl⟩:=e
  cases ho
 cases s<;>simp only[aop]at hm<;>first
  |exact lf _ hm
  |exact hf _ hm
  |exact vf _ hm
  |(simp only[HM.run,reduceCtorEq]at hm;done)
  |skip
 rename_i m x xs
 cases m with
 |heap=>simp[SOp.still]at hc
 | pure =>
  unfold aCall at hm
  split at hm
  ·simp only [HM.run, Option.some.injEq, Prod.mk.injEq] at hm
   obtain⟨rfl,rfl⟩:=hm;cases ho
  ·simp[HM.run]at hm
  ·simp[HM.run]at hm
 | borrow =>
  unfold aCall at hm
  split at hm
  ·simp only at hm
   obtain⟨asg',h3,k1,k2⟩:=run_bind hm
   simp only[HM.run,Option.some.injEq,Prod.mk.injEq]at k2
   obtain⟨rfl,rfl⟩:=k2;cases ho
  ·simp[HM.run]at hm
  ·simp[HM.run]at hm
theorem StepX.mono {P:Program} {i:Nat} {s:SOp} {T:Tmps} {h:Heap} {v:AV} {h1:Heap} {fp:FP} (hs:StepX P i s T h v h1 fp) (hc:s.still=true) {b:Nat} (hb:h.get b≠none):h1.get b≠none:=by
 obtain⟨out,h2,hm,ho⟩:=hs
 have h2b:=HM.QpD _ h out h2 hm b hb
 match out,hm,ho with
 | .val u,hm,ho=>obtain⟨_,rfl,_⟩:=ho;exact h2b
 | .call .pure f args,hm,ho=>obtain⟨_,rfl,_⟩:=ho;exact h2b
 | .call .borrow f args,hm,ho=>obtain⟨_,_,rfl,_⟩:=ho;exact h2b
 | .call .heap f args,hm,ho=>exact(QhB rfl hc hm).elim
 | .round b g args,hm,ho=>exact(QhB rfl hc hm).elim
theorem StepV.mono {P:Program} {i:Nat} {s:SOper} {T:Tmps} {h:Heap} {v:AV} {h1:Heap} {fp:FP} (hs:StepV P i s T h v h1 fp) (hc:s.op.still=true) {b:Nat} (hb:h.get b≠none):h1.get b≠none:=by
 unfold StepV at hs
 split at hs
 ·exact hs.mono hc hb
 ·obtain ⟨t, _, hs⟩ := hs
  split at hs
  ·grind [StepX.mono]
  simp_all
def newFP (i:Nat) (h h1:Heap) (fp:FP):Prop:=fp.all=false/\(∀b,b∈fp.R\/b∈fp.W->b=i/\h.get i=none/\h1.get i≠none)
theorem Qey {i:Nat} {x:Nat->Blk} {r:Nat->Nat->AV} {h:Heap} {v:AV} {h1:Heap} (hm:(HM.new .dyn i x fun b g=> .ret (r b g)).run h=some (v,h1)):
  newFP i h h1 (fpOf ((hval (HM.new .dyn i x fun b g=> .ret (r b g))).fp h)):=by
 unfold HM.new at hm⊢
 simp only[HM.run]at hm
 simp only[hval,HM.bind,HM.fp]
 cases hn:h.get i with
 |some z=>rw[hn]at hm;simp[HM.run]at hm
 |none=>
  rw[hn]at hm
  obtain⟨hl,hm⟩:=Qa3 hm
  simp only[HM.run,Option.some.injEq,Prod.mk.injEq]at hm
  obtain⟨rfl,rfl⟩:=hm
  refine⟨rfl,fun b hb=>?_⟩
  simp only[fpOf,HM.bind,HM.fp,List.mem_singleton,or_self,List.mem_cons,List.not_mem_nil,or_false]at hb
  refine⟨hb,hn,?_⟩
  rw[Tr.Qa2 _ hl];simp
theorem Qn1 {i:Nat} {h h1:Heap}:newFP i h h1 (fpOf ([],[])):=⟨rfl,fun b hb=>by simp[fpOf]at hb⟩
theorem StepX.fresh {P:Program} {i:Nat} {s:SOp} {T:Tmps} {h:Heap} {v:AV} {h1:Heap} {fp:FP} (hs:StepX P i s T h v h1 fp) (hc:s.fresh=true):newFP i h h1 fp:=by
 obtain⟨out,h2,hm,ho⟩:=hs
 have key:∀m:HM AV,aop i T s=hval m->(∀v h1,m.run h=some (v,h1)->newFP i h h1 (fpOf ((hval m).fp h)))->newFP i h h1 fp:=by
  intro m e hk
  rw[e]at hm
  obtain⟨u,h3,hu,he⟩:=QaS hm
  simp_all
 cases s<;>try (cases hc;done)
 ·rename_i s z
  cases s<;>try (cases hc;done)
  refine key _ rfl fun v h1 hm=>?_
  unfold aBox at hm⊢
  split at hm
  ·simp_all [Qey]
  grind [HM.run]
 ·rename_i s z
  cases s<;>try (cases hc;done)
  refine key _ rfl fun v h1 hm=>?_
  unfold aBox at hm⊢
  split at hm
  ·simp_all [Qey]
  grind [HM.run]
 ·rename_i fz s sz len z ps
  cases fz<;>try (cases hc;done)
  cases s<;>try (cases hc;done)
  refine key _ rfl fun v h1 hm=>?_
  unfold aBuildSlice at hm⊢
  split at hm
  ·rename_i cs hf
   split at hm
   ·simp_all [Qey]
   grind [HM.run]
  grind [HM.run]
 ·rename_i s
  cases s<;>try (cases hc;done)
  refine key _ rfl fun v h1 hm=>?_
  simp_all [aMakeMap,Qey]
 ·rename_i s sz b z l c
  cases s<;>try (cases hc;done)
  refine key _ rfl fun v h1 hm=>?_
  unfold aMakeSlice at hm⊢
  split at hm
  ·split at hm
   ·simp_all [Qey]
   grind [HM.run]
  grind [HM.run]
theorem StepV.fresh {P:Program} {i:Nat} {s:SOper} {T:Tmps} {h:Heap} {v:AV} {h1:Heap} {fp:FP} (hs:StepV P i s T h v h1 fp) (hc:s.op.fresh=true):newFP i h h1 fp:=by
 unfold StepV at hs
 split at hs
 ·exact hs.fresh hc
 ·obtain ⟨t, _, hs⟩ := hs
  split at hs
  ·exact StepX.fresh hs hc
  ·obtain⟨_,rfl,rfl⟩:=hs;exact Qn1
def HM.seer {α:Type}:HM α->Prop
 | .ret _=>True
 | .fail=>True
 | .look _ k=>k none= .fail/\∀x,(k x).seer
 | .put _ _ _=>False
theorem HM.Qqs {α:Type} (m:HM α):m.seer->∀h a h1,m.run h=some (a,h1)->(m.fp h).2=[]/\∀b∈(m.fp h).1,h.get b≠none:=by
 induction m with
 |ret a=>intro _ h a h1 _;exact⟨rfl,fun b hb=>by simp[HM.fp]at hb⟩
 |fail=>intro _ h a h1 hm;simp[HM.run]at hm
 |look b k ih=>
  rintro⟨hn,hr⟩ h a h1 hm
  simp only[HM.run]at hm
  obtain⟨k1,k2⟩:=ih _ (hr _) h a h1 hm
  refine⟨k1,fun b' hb'=>?_⟩
  simp only[HM.fp,List.mem_cons]at hb'
  rcases hb' with rfl|hb'
  ·grind [HM.run]
  ·exact k2 b' hb'
 |put b x k ih=>intro hr;exact hr.elim
theorem HM.Qn2 {α β:Type} {m:HM α} {f:α->HM β} (h1:m.seer) (h2:∀a,(f a).seer):(m.bind f).seer:=by
 induction m with
 |ret a=>exact h2 a
 |fail=>trivial
 |look b k ih=>exact⟨by simp only[h1.1];rfl,fun x=>ih x (h1.2 x)⟩
 |put b x k ih=>exact h1.elim
theorem HM.Qke {α:Type} (o:Option α):(HM.opt o).seer:=by cases o<;>trivial
theorem HM.Qnl {α:Type} {b g:Nat} {k:List AV->HM α} (hk:∀cs,(k cs).seer):(HM.cells b g k).seer:=by
 refine⟨rfl,fun x=>?_⟩
 match x with
 |some (.cells g' cs)=>
  simp only
  cases Nat.beq g' g<;>first|exact trivial|exact hk cs
 |some (.map _ _)=>trivial
 |some (.dead _)=>trivial
 |some (.loop ..)=>trivial
 |none=>trivial
theorem Qn3 (n:Option Nat) (x:AV):(aLoad n x).seer:=by
 unfold aLoad
 split
 ·refine HM.Qnl fun cs => ?_
  split
  ·exact HM.Qke _
  ·split<;>trivial
 ·split
  ·exact HM.Qke _
  ·split<;>trivial
 ·trivial
theorem QpE (k:Nat) (x:AV):(aLenC k x).seer:=by
 unfold aLenC
 split
 ·unfold aLen
  split<;>try trivial
  refine⟨rfl,fun y=>?_⟩
  match y with
  |some (.map g' es)=>
   simp only
   rename_i b g _
   cases Nat.beq g' g<;>trivial
  |some (.cells _ _)=>trivial
  |some (.dead _)=>trivial
  |some (.loop ..)=>trivial
  |none=>trivial
 ·trivial
theorem StepV.sees {P:Program} {i:Nat} {s:SOper} {T:Tmps} {h:Heap} {v:AV} {h1:Heap} {fp:FP} (hs:StepV P i s T h v h1 fp) (hc:s.op.sees=true):fp.all=false/\fp.W=[]/\∀b∈fp.R,h.get b≠none:=by
 have key:∀{s:SOp},s.sees=true->StepX P i s T h v h1 fp->fp.all=false/\fp.W=[]/\∀b∈fp.R,h.get b≠none:=by
  intro s hc hs
  obtain⟨out,h2,hm,ho⟩:=hs
  have fin:∀m:HM AV,m.seer->aop i T s=hval m->fp.all=false/\fp.W=[]/\∀b∈fp.R,h.get b≠none:=by
   intro m hsm e
   have hs2:(hval m).seer:=HM.Qn2 hsm fun _=>trivial
   rw[e]at hm
   have h3:=HM.Qqs _ hs2 h _ _ hm
   obtain⟨u,h4,hu,he⟩:=QaS hm
   cases he
   obtain⟨rfl,rfl,rfl⟩:=ho
   rw[e]
   exact⟨rfl,h3.1,h3.2⟩
  cases s<;>try (cases hc;done)
  ·exact fin _ (Qn3 _ _) rfl
  ·exact fin _ (QpE _ _) rfl
 unfold StepV at hs
 grind
theorem Qn4 {P:Program} {bi bj:Nat} {s t:SOper} {A B:St} {v u:AV} {h1 h2:Heap} {fs ft:FP} (hs:StepV P bi s A.T A.h v h1 fs) (ht:StepV P bj t B.T B.h u h2 ft)
  (hc:s.op.sees=true\/s.op.fresh=true) (hf:t.op.fresh=true) (hst:s.op.still=true) (hm:∀b,h1.get b≠none->B.h.get b≠none):fs.apart ft=true:=by
 obtain⟨f1,f2⟩:=ht.fresh hf
 have key:fs.all=false/\∀b,b∈fs.R\/b∈fs.W->B.h.get b≠none:=by
  rcases hc with h|h
  ·obtain ⟨k1, k2, k3⟩ := hs.sees h
   refine⟨k1,fun b hb=>hm b (hs.mono hst ?_)⟩
   simp_all
  ·obtain ⟨k1, k2⟩ := hs.fresh h
   grind
 obtain⟨k1,k2⟩:=key
 have dj:∀xs ys:List Nat,(∀b∈xs,∀c∈ys,b≠c)->disj xs ys=true:=by
  intro xs ys hh
  unfold disj
  grind
 unfold FP.apart
 grind
theorem Qfy {P:Program} {bi bj:Nat} {s t:SOper} {A B:St} {v u:AV} {h1 h2:Heap} {fs ft:FP} (hs:StepV P bi s A.T A.h v h1 fs) (ht:StepV P bj t B.T B.h u h2 ft)
    (hc:s.op.cls=0\/t.op.cls=0\/(s.op.cls<=1/\t.op.cls<=1)):fs.apart ft=true:=by
  rcases hc with h|h|⟨h,h'⟩
  · obtain ⟨a1, a2, a3⟩ := hs.cls (by omega)
    grind [FP.apart,disj]
  · obtain ⟨a1, a2, a3⟩ := ht.cls (by omega)
    grind [FP.apart,disj]
  · obtain ⟨a1, a2, _⟩ := hs.cls h
    obtain⟨b1,b2,_⟩:=ht.cls h'
    simp_all [FP.apart,disj]
theorem RunL.each {base:Nat} {sops:List SOper} {fpf:Nat->FP}:∀{l:List Nat} {A C:St},RunL P base sops fpf l A C->∀i∈l,∃(s:SOper) (B:St) (v:AV) (h1:Heap),sops[i]?=some s/\StepV P (base+i) s B.T B.h v h1 (fpf i)
 |[],A,C,_,i,hi=>by simp at hi
 |j::l,A,C,hr,i,hi=>by
  obtain⟨B,⟨s,v,h1,hs,hv,rfl⟩,hr⟩:=hr
  rcases List.mem_cons.1 hi with h|h
  ·grind
  ·exact hr.each i h
theorem RunL.grow {base:Nat} {sops:List SOper} {fpf:Nat->FP} (hst:(sops.all fun s=>s.op.still)=true):∀{l:List Nat} {A C:St},RunL P base sops fpf l A C->∀i∈l,∃(s:SOper) (B:St) (v:AV) (h1:Heap),sops[i]?=some s/\StepV P (base+i) s B.T B.h v h1 (fpf i)/\∀b,A.h.get b≠none->B.h.get b≠none
 |[],A,C,_,i,hi=>by simp at hi
 | j :: l, A, C, hr, i, hi => by
  obtain⟨B,⟨s,v,h1,hs,hv,rfl⟩,hr⟩:=hr
  rcases List.mem_cons.1 hi with h|h
  ·grind
  ·obtain ⟨t, D, u, h2, e, ht, hm⟩ := hr.grow hst i h
   exact⟨t,D,u,h2,e,ht,fun b hb=>hm b (hv.mono (List.all_eq_true.1 hst s (List.mem_of_getElem? hs)) hb)⟩
theorem RunL.two {base:Nat} {sops:List SOper} {fpf:Nat->FP} (hst:(sops.all fun s=>s.op.still)=true):∀{l1 l2:List Nat} {A C:St} {k:Nat},RunL P base sops fpf (l1++k::l2) A C->∀i∈l2,
  ∃(s t:SOper) (B D:St) (v u:AV) (h1 h2:Heap),sops[k]?=some s/\sops[i]?=some t/\StepV P (base+k) s B.T B.h v h1 (fpf k)/\StepV P (base+i) t D.T D.h u h2 (fpf i)/\∀b,h1.get b≠none->D.h.get b≠none
 |[],l2,A,C,k,hr,i,hi=>by
  obtain⟨B,⟨s,v,h1,hs,hv,rfl⟩,hr⟩:=hr
  obtain⟨t,D,u,h2,e,ht,hm⟩:=hr.grow hst i hi
  exact⟨s,t,A,D,v,u,h1,h2,hs,e,hv,ht,hm⟩
 |_::l1,l2,A,C,k,hr,i,hi=>by
  obtain⟨B,_,hr⟩:=hr
  exact RunL.two hst hr i hi
theorem Qkf {n k:Nat} (hk:k<n):List.range n=List.range k++k::List.range' (k+1) (n-k-1):=by
 have h1:n=k+(1+(n-k-1)):=by omega
 conv=>lhs;rw[h1,List.range_eq_range']
 rw[<-List.range'_append_1,List.range_eq_range']
 grind [List.range'_succ]
theorem Qqt {base:Nat} {sops:List SOper} {pairs:List (Nat×Nat)} {fpf:Nat->FP} {A C:St} (hb:freeB sops pairs=true) (hr:RunL P base sops fpf (List.range sops.length) A C)
  (hp:∀p∈pairs,(fpf p.1).apart (fpf p.2)=true):Free sops fpf:=by
 unfold freeB at hb
 simp only[List.all_eq_true,List.mem_range,Bool.and_eq_true,Bool.or_eq_true]at hb
 refine⟨?_,?_⟩
 ·intro j s hs k hk
  have hlt:j<sops.length:=(List.getElem?_eq_some_iff.1 hs).1
  simp_all
 ·intro k i hki hi
  rcases(hb i hi).2 k hki with h|h
  ·exact .inl (Qgu (sops:=sops) sops [] [] (by simp) rfl (by simp) i k h)
  ·right
   intro s t hs ht
   unfold pairOK at h
   rw[hs,ht]at h
   simp only[Bool.and_eq_true,Bool.or_eq_true]at h
   refine⟨h.1,?_⟩
   obtain⟨s',B1,v1,h1,e1,hv1⟩:=hr.each k (by simp;omega)
   obtain⟨t',B2,v2,h2,e2,hv2⟩:=hr.each i (by simp;omega)
   rw[hs]at e1;cases e1
   rw[ht]at e2;cases e2
   rcases h.2 with(((h|h)|h)|h)|h
   ·exact Qfy hv1 hv2 (.inl (by simpa using h))
   ·exact Qfy hv1 hv2 (.inr (.inl (by simpa using h)))
   ·grind [Qfy,Nat.le_of_ble_eq_true]
   ·simp_all
   ·obtain ⟨⟨c1, c2⟩, c3⟩ := h
    have hst:(sops.all fun s=>s.op.still)=true:=c3
    rw[Qkf (show k<sops.length by omega)]at hr
    obtain⟨s',t',B1,B2,u1,u2,g1,g2,e1,e2,q1,q2,hm⟩:=hr.two hst i (by grind)
    grind [Qn4]
theorem Qdp {N:Nat} {ops:Array Oper}:∀{os:List Oper} {ss:List SOper},okOpers P N ops os ss=true->os.length=ss.length/\∀(i:Nat) (o:Oper),os[i]?=some o->∃s,ss[i]?=some s/\okOper P N ops o s=true
 |[],[],_=>⟨rfl,fun i o h=>by simp at h⟩
 |[],_::_,h=>by simp[okOpers]at h
 |_::_,[],h=>by simp[okOpers]at h
 |o::os,s::ss,h=>by
  simp only[okOpers,Bool.and_eq_true]at h
  obtain⟨h1,h2⟩:=Qdp h.2
  grind
theorem Qqu {N:Nat} {ops:Array Oper} {sops:List SOper} (h:okOpers P N ops ops.toList sops=true):Fits P N ops sops:=by
 obtain⟨h1,h2⟩:=Qdp h
 exact⟨by simpa using h1,fun i o ho=>h2 i o (by simp_all)⟩
theorem Qez (n j:Nat) (d:Bool):(Array.replicate n false).getD j d=if j<n then false else d:=by
 by_cases h:j<n
 ·simp[h]
 ·simp[h]
theorem Qkg (n m:Nat) (h:n<=m):rest n (Array.replicate m false)=List.range n:=by
 unfold rest
 apply List.filter_eq_self.2
 intro i hi
 rw[Qez,if_pos (by grind)]
 rfl
theorem Qfz {ro:Option Nat} {N base id:Nat} {ops:Array Oper} {draw:Bool} {sops:List SOper} {pairs:List (Nat×Nat)} {fpf:Nat->FP} {A C:St} {c:Ctx (okc P)} {a:Act} {w:World} {Q:Exit->Act->World->Prop}
    (hok:okRegion P N ops draw sops pairs=true) (hr:RunL P base sops fpf (List.range sops.length) A C) (hp:∀p∈pairs,(fpf p.1).apart (fpf p.2)=true) (S:SRel N c A a w)
    (hQ:∀c' a' w',SRel N c' C a' w'->Evo c w c' w'->Q .normal a' w'):(Code.region id ops draw).wpIn (FW ro) 0 P Q a w:=by
  unfold okRegion at hok
  simp only[Bool.and_eq_true,Bool.or_eq_true,Bool.not_eq_true']at hok
  obtain⟨h1,h2⟩:=hok
  have F:=Qqu h1
  cases draw with
  | false =>
    refine wpIn_region ?_
    rw[F.size]
    exact Qfj F hQ _ A c a w hr S (.refl c w)
  | true =>
    obtain⟨hm,hf⟩:=h2.resolve_left (by simp)
    refine wpIn_region_any hm ?_
    have R:=Qqt hf hr hp
    obtain⟨E1,H1⟩:=S.heap.drew
    have S1:SRel N c A a w.drew:=⟨H1,fun i=>VRel.mono (E1.ext S.heap.disj) _ _ (S.tmps i),S.size,S.defers.mono E1⟩
    refine Qn0 (base:=base) F R hQ ops.size _ A C c a w.drew (by simp) ?_ ?_ ?_ (.refl C) S1 E1
    · rw [Qkg _ _ (by rw [F.size]; omega)]
      simp[F.size]
    · intro j hj
      rw[Qez]at hj
      simp_all
    · rw [Qkg _ _ (by rw [F.size]; omega)]
      exact hr
def W (P:Program) (N:Nat) (sc:SCode) (Q:SX->St->Prop) (A:St):Prop:=
 ∀code,okCode P N code sc=true->∀(c:Ctx (okc P)) (a:Act) (w:World),SRel N c A a w->∀(ro:Option Nat),(sc.rf=true->ro=none)->∀(Q':Exit->Act->World->Prop),
  (∀e B c' a' w',Q e B->SRel N c' B a' w'->Evo c w c' w'->Q' e.toExit a' w')->code.wpIn (FW ro) 0 P Q' a w
section rules
variable {N:Nat} {Q:SX->St->Prop} {A:St}
theorem W.mono {sc:SCode} {Q':SX->St->Prop} (h:W P N sc Q A) (hq:∀e B,Q e B->Q' e B):W P N sc Q' A:=
 fun code hok c a w S ro hro R hR=>h code hok c a w S ro hro R fun e B c' a' w' hQ S' E'=>hR e B c' a' w' (hq e B hQ) S' E'
theorem W.congr {sc:SCode} {B:St} (h:W P N sc Q A) (e:SEq B A):W P N sc Q B:=
 fun code hok c a w S ro hro R hR=>h code hok c a w (S.congr e) ro hro R hR
theorem W.skip (h:Q .normal A):W P N .skip Q A:=by
 intro code hok c a w S ro hro Q' hQ
 cases code<;>simp only[okCode,Bool.false_eq_true]at hok
 exact wpIn_skip (hQ .normal A c a w h S (.refl c w))
theorem W.ret (h:Q .ret A):W P N .ret Q A:=by
 intro code hok c a w S ro hro Q' hQ
 cases code<;>simp only[okCode,Bool.false_eq_true]at hok
 exact wpIn_ret (hQ .ret A c a w h S (.refl c w))
theorem W.exit {i:Nat} (h:Q (.exit i) A):W P N (.exit i) Q A:=by
 intro code hok c a w S ro hro Q' hQ
 cases code<;>simp only[okCode,Bool.false_eq_true,beq_iff_eq]at hok
 subst hok
 exact wpIn_exit (hQ (.exit _) A c a w h S (.refl c w))
theorem W.seq {x y:SCode} (h:W P N x (fun e B=>match e with| .normal=>W P N y Q B|e=>Q e B) A):W P N (.seq x y) Q A:=by
 intro code hok c a w S ro hro Q' hQ
 cases code<;>simp only[okCode,Bool.false_eq_true,Bool.and_eq_true]at hok
 rename_i cx cy
 refine wpIn_seq (h cx hok.1 c a w S ro (fun e=>hro (by simp[SCode.rf,e])) _ ?_)
 intro e B c' a' w' hq S' E'
 cases e with
 |normal=>exact hq cy hok.2 c' a' w' S' ro (fun e=>hro (by simp[SCode.rf,e])) Q' fun e2 B2 c2 a2 w2 h2 S2 E2=>hQ e2 B2 c2 a2 w2 h2 S2 (E'.trans E2)
 |exit i=>exact hQ (.exit i) B c' a' w' hq S' E'
 |ret=>exact hQ .ret B c' a' w' hq S' E'
theorem W.cond {x:Opd} {y z:SCode} {t:Bool} (hx:ev A.T x= .bool t) (h1:t=true->W P N y Q A) (h2:t=false->W P N z Q A):W P N (.cond x y z) Q A:=by
 intro code hok c a w S ro hro Q' hQ
 cases code<;>simp only[okCode,Bool.false_eq_true,Bool.and_eq_true]at hok
 rename_i o cy cz
 have hr:=Qat S.tmps hok.1.1
 rw[hx]at hr
 simp only[VRel]at hr
 refine wpIn_cond hr ?_
 cases t with
 |true=>exact h1 rfl cy hok.1.2 c a w S ro (fun e=>hro (by simp[SCode.rf,e])) Q' hQ
 |false=>exact h2 rfl cz hok.2 c a w S ro (fun e=>hro (by simp[SCode.rf,e])) Q' hQ
theorem W.block {i:Nat} {b:SCode} (h:W P N b (fun e B=>match e with| .exit j=>if j=i then Q .normal B else Q (.exit j) B|e=>Q e B) A):W P N (.block i b) Q A:=by
 intro code hok c a w S ro hro Q' hQ
 cases code<;>simp only[okCode,Bool.false_eq_true,Bool.and_eq_true,beq_iff_eq]at hok
 rename_i j cb
 obtain⟨rfl,hok⟩:=hok
 refine wpIn_block (h cb hok c a w S ro (fun e=>hro (by simp[SCode.rf,e])) _ ?_)
 intro e B c' a' w' hq S' E'
 cases e with
 |normal=>exact hQ .normal B c' a' w' hq S' E'
 |ret=>exact hQ .ret B c' a' w' hq S' E'
 |exit k=>
  simp only at hq
  show(if k=j then Q' .normal a' w' else Q' (.exit k) a' w')
  split
  ·rename_i e;rw[if_pos e]at hq;exact hQ .normal B c' a' w' hq S' E'
  ·rename_i e;rw[if_neg e]at hq;exact hQ (.exit k) B c' a' w' hq S' E'
theorem lk_rm (T:Tmps) (l:List Nat) (i:Nat):lk (rm T l) i=if l.any (Nat.beq i)then .any else lk T i:=by
 induction T with
 |nil=>simp[rm,lk]
 | cons p T ih =>
  obtain⟨j,u⟩:=p
  simp only[rm]
  cases hl:l.any (Nat.beq j)with
  | true =>
   simp only[cond_true,ih,lk]
   by_cases e:j=i
   ·simp_all
   ·have e' : Nat.beq j i = false := by simp_all [Bool.eq_false_iff]
    rw[e'];simp
  | false =>
   simp only[cond_false,lk,ih]
   by_cases e:j=i
   ·grind
   ·have e' : Nat.beq j i = false := by simp_all [Bool.eq_false_iff]
    rw[e'];simp
theorem SRel.forget {c:Ctx (okc P)} {a:Act} {w:World} {T:Tmps} {h:Heap} (S:SRel N c ⟨T,h⟩ a w) (l:List Nat):SRel N c ⟨rm T l,h⟩ a w:=
 ⟨S.heap,fun i=>by rw[lk_rm];split<;>first|exact S.tmps i|simp[VRel],S.size,S.defers⟩
theorem W.region {sops:List SOper} {pairs:List (Nat×Nat)} {dead:List Nat} (base:Nat) (fpf:Nat->FP) {C:St} (hr:RunL P base sops fpf (List.range sops.length) A C)
  (hp:∀p∈pairs,(fpf p.1).apart (fpf p.2)=true) (hQ:Q .normal ⟨rm C.T dead,C.h⟩):W P N (.region sops pairs dead) Q A:=by
 intro code hok c a w S ro hro Q' hQ'
 cases code<;>simp only[okCode,Bool.false_eq_true]at hok
 exact Qfz hok hr hp S fun c' a' w' S' E'=>hQ' .normal _ c' a' w' hQ (S'.forget dead) E'
end rules
end Go.AM
