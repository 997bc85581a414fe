/- A part of the proof of CatalogueWordsCardSaid: lemmas on the way (AmA, AmB). Conditions: none of ours. -/
import Derived.Calls
import Derived.Below
import Derived.Laws.Sem
import Derived.Laws.World
import Derived.Laws.Cells
import Derived.Laws.Append
set_option linter.unusedSectionVars false
set_option maxHeartbeats 32000000
set_option maxRecDepth 100000
set_option linter.unusedVariables false
set_option linter.unusedSimpArgs false
namespace Go.AM.KN
end Go.AM.KN
namespace Go.AM.SD
end Go.AM.SD
namespace Go.AM.SE
end Go.AM.SE
namespace Go.AM.SO
end Go.AM.SO
namespace Go.Proofs
end Go.Proofs
namespace Go.AM
inductive AV where
 |any
 |bool (b:Bool)
 |int (k:IntKind) (n:Int)
 |str (s:List UInt8)
 |agg (cs:List AV)
 |tup (vs:List AV)
 |nilptr
 |ptr (b g off:Nat)
 |fptr (cs:List AV)
 |nilsl
 |sl (b g off len sz:Nat)
 |fsl (cs:List AV) (len sz:Nat)
 |esl
 |nsl
 |nilmap
 |map (b g:Nat)
 |fmap (ks vs:List AV)
 |nilfn
 |fn (f:Nat) (first captured:List AV)
 |yld (b g:Nat)
 |nilif
 |ifc (t:Nat) (v:AV)
 |typed (t n:Nat) (v:AV)
 deriving Inhabited
inductive Site where
 |dyn
 |st (b:Nat)
inductive Opd where
 |t (i:Nat)
 |c (v:AV)
 |f (n:Nat)
 |g (n:Nat)
 deriving Inhabited
abbrev Tmps:=List (Nat×AV)
def lk:Tmps->Nat->AV
 |[],_=> .any
 |(j,v)::r,i=>bif Nat.beq j i then v else lk r i
inductive LK where
 |b|i|s
inductive EqK where
 |flat (row:Bool) (ks:List LK)
 |nil (kind:Nat)
inductive CallM where
 |heap
 |pure
 |borrow
 deriving DecidableEq
inductive SOp where
 |mov (x:Opd)
 |pick (c a b:Opd)
 |alloc (s:Site) (z:AV)
 |allocT (t:Nat) (s:Site) (z:AV)
 |box (s:Site) (x:Opd)
 |build (zero:List AV) (parts:List (Nat×Nat×Opd))
 |bslice (frozen:Bool) (s:Site) (sz len:Nat) (zero:List AV) (parts:List (Nat×Nat×Opd))
 |load (n:Option Nat) (x:Opd)
 |store (n:Nat) (x v:Opd)
 |nilchk (x:Opd)
 |bin (op:BinOp) (x y:Opd)
 |eq (k:EqK) (neg:Bool) (x y:Opd)
 |eqn (neg:Bool) (x:Opd)
 |eqp (neg:Bool) (x y:Opd)
 |convP (t n:Nat) (x:Opd)
 |appendT (t:Nat) (s:Site) (sz bytes:Nat) (x y:Opd)
 |usd (x:Opd)
 |ustr (t:Nat) (x n:Opd)
 |cap (x:Opd)
 |ment (row:Bool) (ks:List LK) (zero:AV) (x k:Opd)
 |estore (x s v:Opd)
 |clear (sz bytes:Nat) (zero:List AV) (x:Opd)
 |appendZ (s:Site) (sz bytes:Nat) (zero:List AV) (x n:Opd)
 |un (op:UnOp) (x:Opd)
 |conv (k:IntKind) (x:Opd)
 |convS (x:Opd)
 |convB (x:Opd)
 |ext (k f:Nat) (args:List Opd)
 |mkfn (f:Nat) (first captured:List Opd)
 |mkmap (s:Site)
 |mkslice (s:Site) (sz bytes:Nat) (zero:List AV) (l c:Opd)
 |slice (sz:Option Nat) (x:Opd) (l h m:Option Opd)
 |sliceK (sz:Nat) (x:Opd) (l h:Option Opd)
 |faddr (off:Nat) (x:Opd)
 |field (n:Option Nat) (off:Nat) (x:Opd)
 |iaddr (arr:Option Nat) (sz:Nat) (x i:Opd)
 |index (arr:Option (Nat×Nat×Bool)) (x i:Opd)
 |lookup (row:Bool) (ks:List LK) (zero:AV) (ok:Bool) (x k:Opd)
 |mupd (row:Bool) (ks:List LK) (x k v:Opd)
 |extract (i:Nat) (x:Opd)
 |len (k:Nat) (x:Opd)
 |append (s:Site) (sz bytes:Nat) (x y:Opd)
 |copy (sz:Nat) (x y:Opd)
 |maxmin (mn:Bool) (xs:List Opd)
 |call (m:CallM) (x:Opd) (args:List Opd)
 |bad
structure SOper where
 dst:Option Nat
 op:SOp
 after:List Nat
 guard:Option (Nat×Bool)
inductive SCode where
 |skip
 |region (ops:List SOper) (pairs:List (Nat×Nat)) (dead:List Nat)
 |seq (a b:SCode)
 |cond (x:Opd) (a b:SCode)
 |block (id:Nat) (b:SCode)
 |loop (b:SCode)
 |exit (id:Nat)
 |ret
 |rfunc (g:Opd) (ps:List Nat) (N:Nat) (asg body:SCode)
 |mloop (pre:List SOper) (x:Opd) (it nx ok en b1 b2:Nat) (rest:List SOper) (body:SCode)
 |bad
structure FOp where
 nw:Bool
 o:SOper
inductive FCode where
 |skip
 |region (ops:List FOp) (pairs:List (Nat×Nat)) (dead:Nat)
 |seq (a b:FCode)
 |cond (x:Opd) (a b:FCode)
 |block (id:Nat) (b:FCode)
 |loop (b:FCode)
 |exit (id:Nat)
 |ret
 |rfunc (g:Opd) (ps:List Nat) (N:Nat) (asg body:FCode)
 |mloop (pre:List FOp) (x:Opd) (it nx ok en b1 b2:Nat) (rest:List FOp) (body:FCode)
 |bad
def FCode.slim:FCode->SCode
 | .skip=> .skip
 | .region ops pairs _=> .region (ops.map FOp.o) pairs []
 | .seq a b=> .seq a.slim b.slim
 | .cond x a b=> .cond x a.slim b.slim
 | .block i b=> .block i b.slim
 | .loop b=> .loop b.slim
 | .exit i=> .exit i
 | .ret=> .ret
 | .mloop pre x it nx ok en b1 b2 rest body=> .mloop (pre.map FOp.o) x it nx ok en b1 b2 (rest.map FOp.o) body.slim
 | .rfunc g ps N asg body=> .rfunc g ps N asg.slim body.slim
 | .bad=> .bad
inductive LCode where
 |s (c:SCode)
 |f (c:FCode)
def LCode.slim:LCode->SCode
 | .s c=>c
 | .f c=>c.slim
inductive SX where
 |normal
 |exit (id:Nat)
 |ret
def SX.toExit:SX->Exit
 | .normal=> .normal
 | .exit i=> .exit i
 | .ret=> .ret
def SX.toCode:SX->Code
 | .normal=> .skip
 | .exit i=> .exit i
 | .ret=> .ret
inductive LSt where
 |ready
 |busy
 |done (e:SX)
def LSt.state:LSt->LoopState
 | .ready=> .ready
 | .busy=> .busy
 | .done _=> .done
def LSt.pend:LSt->Option Code
 | .ready| .busy=>none
 | .done e=>some e.toCode
abbrev Okc:=Nat->Code->SCode->Prop
inductive Place where
 |nil
 |loc (cb base:Nat)
structure Ctx (ok:Okc) where
 ρ:Nat->Nat->Option Place
 F:Nat->Prop
 O:Nat->Prop
 base:Nat
variable {ok:Okc}
def TyAt (w:World) (t n:Nat) (v:Value):Prop:=
 (∃ (cb : Nat) (C : Array Value) (fr : Nat × Nat), (v = .pointer (some ⟨cb, 0, none⟩) \/ n = 0 /\ ∃ l k, v = .slice (some ⟨cb, 0, none⟩) l k) /\ w.heap[cb]? = some (.cells C t fr) /\ (n = 0 \/ C.size = n)) \/
  (1<n/\∃a l k,v= .slice a l k/\n<=k+1)
theorem TyAt.old {w:World} {t n:Nat} {v:Value} (h:TyAt w t n v) (hn:n=0\/∃a,v= .pointer a):
  ∃(cb:Nat) (C:Array Value) (fr:Nat×Nat),(v= .pointer (some ⟨cb,0,none⟩)\/n=0/\∃l k,v= .slice (some ⟨cb,0,none⟩) l k)/\w.heap[cb]?=some (.cells C t fr)/\(n=0\/C.size=n):=by
 refine h.resolve_right ?_
 rintro⟨h1,a,l,k,rfl,h2⟩
 rcases hn with rfl|⟨a,h⟩
 ·omega
 ·cases h
theorem TyAt.room {w:World} {t n:Nat} {a:Option Addr} {l k:Nat} (h:TyAt w t (n+1) (.slice a l k)):n<=k:=by
 rcases h with⟨_,_,_,h|⟨h,_⟩,_⟩|⟨_,a,l,k,h,h2⟩
 ·cases h
 ·omega
 ·cases h;omega
def MStamp:List MapEntry->Nat->Prop
 |[],_=>True
 |e::es,clock=>e.born<clock/\e.born+(es.length+1)=clock/\MStamp es clock
mutual
def VRel (c : Ctx ok) (w : World) : AV -> Value -> Prop
 | .any,_=>True
 | .bool b,v=>v= .bool b
 | .int k n,v=>v= .int k n
 | .str s,v=>v= .string ⟨s.toArray⟩
 | .agg cs,v=>∃vs,v= .agg vs/\VRels c w cs vs.toList
 | .tup cs,v=>∃vs,v= .tuple vs/\VRels c w cs vs.toList
 | .nilptr,v=>v= .pointer none
 | .ptr b g off,v=>∃cb base,c.ρ b g=some (.loc cb base)/\v= .pointer (some ⟨cb,base+off,none⟩)
 | .fptr cs,v=>∃cb off C e fr,v= .pointer (some ⟨cb,off,none⟩)/\c.F cb/\w.heap[cb]?=some (.cells C e fr)/\VPre c w cs (C.toList.drop off)
 | .nilsl,v=>v= .slice none 0 0
 | .sl b g off len sz, v =>
   (c.ρ b g=some .nil/\len=0/\off=0/\v= .slice none 0 0)\/
   ∃cb base o cap C e fr,c.ρ b g=some (.loc cb base)/\v= .slice (some ⟨cb,o,none⟩) len cap/\len<=cap/\
    w.heap[cb]?=some (.cells C e fr)/\(cap=0\/(o=base+off/\o+cap*sz<=C.size))
 | .fsl cs len sz, v =>
   ((∃a,v= .slice a 0 0)/\cs=[]/\len=0)\/
   ∃cb off cap C e fr,v= .slice (some ⟨cb,off,none⟩) len cap/\len<=cap/\cs.length=len*sz/\c.F cb/\
    w.heap[cb]?=some (.cells C e fr)/\VPre c w cs (C.toList.drop off)
 | .esl,v=>∃a,v= .slice a 0 0
 | .nsl,v=>∃a k,v= .slice (some a) 0 k
 | .nilmap,v=>v= .map none
 | .map b g,v=>∃cb,c.ρ b g=some (.loc cb 0)/\v= .map (some cb)
 | .fmap ks vs,v=>∃mb es clock,v= .map (some mb)/\c.F mb/\w.heap[mb]?=some (.map es clock)/\clock=es.size/\MStamp es.toList clock/\VRels c w ks (es.toList.map (·.key))/\VRels c w vs (es.toList.map (·.val))
 | .nilfn,v=>v= .nilFunc
 | .fn f x y,v=>∃x' y',v= .func (.func f) x' y'/\VRels c w x x'.toList/\VRels c w y y'.toList
 | .yld b g,v=>∃cb,c.ρ b g=some (.loc cb 0)/\v= .func (.yield cb) #[] #[]
 | .nilif,v=>v= .nilIface
 | .ifc t x,v=>∃x',v= .iface t x'/\VRel c w x x'
 | .typed t n x,v=>TyAt w t n v/\VRel c w x v
termination_by structural x=>x
def VRels (c:Ctx ok) (w:World):List AV->List Value->Prop
 |[],vs=>vs=[]
 |x::xs,vs=>∃v vs',vs=v::vs'/\VRel c w x v/\VRels c w xs vs'
termination_by structural x=>x
def VPre (c:Ctx ok) (w:World):List AV->List Value->Prop
 |[],_=>True
 |x::xs,vs=>∃v vs',vs=v::vs'/\VRel c w x v/\VPre c w xs vs'
termination_by structural x=>x
end
inductive Tr (α:Type) where
 |e
 |n (l:Tr α) (v:Option α) (r:Tr α)
 deriving Inhabited
def Tr.get {α:Type}:Tr α->Nat->Option α
 | .e,_=>none
 | .n l v r,k=>bif Nat.beq k 0 then v else bif Nat.beq (k % 2) 1 then l.get (k/2)else r.get (k/2-1)
def Tr.setF {α:Type}:Nat->Tr α->Nat->α->Tr α
 |0,t,_,_=>t
 |f+1,.e,k,x=>bif Nat.beq k 0 then .n .e (some x) .e else bif Nat.beq (k % 2) 1 then .n (Tr.setF f .e (k/2) x) none .e else .n .e none (Tr.setF f .e (k/2-1) x)
 |f+1,.n l v r,k,x=>bif Nat.beq k 0 then .n l (some x) r else bif Nat.beq (k % 2) 1 then .n (Tr.setF f l (k/2) x) v r else .n l v (Tr.setF f r (k/2-1) x)
theorem Tr.get_n {α:Type} (l r:Tr α) (v:Option α) (k:Nat):
  (Tr.n l v r).get k=if k=0 then v else if k % 2=1 then l.get (k/2)else r.get (k/2-1):=by
 simp only[Tr.get]
 by_cases h:k=0
 ·subst h;rfl
 simp_all
theorem Tr.Qrh {α:Type} (f:Nat) (l r:Tr α) (v:Option α) (k:Nat) (x:α):
  Tr.setF (f+1) (.n l v r) k x=if k=0 then .n l (some x) r else if k % 2=1 then .n (Tr.setF f l (k/2) x) v r else .n l v (Tr.setF f r (k/2-1) x):=by
 simp only[Tr.setF]
 by_cases h:k=0
 ·subst h;rfl
 simp_all
theorem Tr.Qri {α:Type} (f:Nat) (k:Nat) (x:α):Tr.setF (f+1) .e k x=Tr.setF (f+1) (.n .e none .e) k x:=by
 simp only[Tr.setF]
theorem Tr.Qpv {α:Type} (f:Nat):∀(t:Tr α) (k j:Nat) (x:α),k+1<2^f->(Tr.setF f t k x).get j=if j=k then some x else t.get j:=by
 induction f with
 |zero=>intro t k j x hk;simp at hk
 | succ f ih =>
  have main:∀(l r:Tr α) (v:Option α) (k j:Nat) (x:α),k+1<2^(f+1)->
    (Tr.setF (f+1) (.n l v r) k x).get j=if j=k then some x else(Tr.n l v r).get j:=by
   intro l r v k j x hk
   rw[Nat.pow_succ]at hk
   rw[Tr.Qrh]
   by_cases h0:k=0
   ·subst h0
    rw[if_pos rfl,Tr.get_n,Tr.get_n]
    simp_all
   ·rw [if_neg h0]
    by_cases h1:k % 2=1
    ·rw [if_pos h1, Tr.get_n, Tr.get_n]
     grind
    ·rw [if_neg h1, Tr.get_n, Tr.get_n]
     grind
  intro t k j x hk
  cases t with
  |e=>
   rw[Tr.Qri,main _ _ _ _ _ _ hk]
   by_cases e:j=k
   ·simp[e]
   ·simp_all [Tr.get]
  |n l v r=>exact main l r v k j x hk
def lim:Nat:=1099511627775
def Tr.set {α:Type} (t:Tr α) (k:Nat) (x:α):Tr α:=Tr.setF 40 t k x
theorem Tr.Qa2 {α:Type} (t:Tr α) {k:Nat} (h:k<lim) (j:Nat) (x:α):(t.set k x).get j=if j=k then some x else t.get j:=
 Tr.Qpv 40 t k j x (by grind [lim])
inductive Blk where
 |cells (g:Nat) (cs:List AV)
 |map (g:Nat) (es:List (AV×AV))
 |loop (g N:Nat) (T:Tmps) (ps:List Nat) (asg body:LCode) (st:LSt)
 |dead (g:Nat)
 deriving Inhabited
def Blk.gen:Blk->Nat
 | .cells g _=>g
 | .map g _=>g
 | .loop g _ _ _ _ _ _=>g
 | .dead g=>g
abbrev Heap:=Tr Blk
def Live (h:Heap) (b g:Nat):Prop:=∃x,h.get b=some x/\x.gen=g/\∀k,x≠ .dead k
def Unfrozen (fr:Nat×Nat) (n:Nat):Prop:=∀i,i<n->¬(fr.1<=i/\i<fr.2)
def MRel (c:Ctx ok) (w:World):List (AV×AV)->List MapEntry->Nat->Prop
 |[],es,_=>es=[]
 |(k,x)::r,es,clock=>∃e es',es=e::es'/\VRel c w k e.key/\VRel c w x e.val/\e.born<clock/\e.born+(r.length+1)=clock/\MRel c w r es' clock
def MRelT (c:Ctx ok) (w:World) (xs:List (AV×AV)) (es:List MapEntry) (clock:Nat):Prop:=MRel c w xs es clock/\clock=xs.length
structure LRel (c:Ctx ok) (w:World) (N:Nat) (T:Tmps) (ps:List Nat) (asg body:LCode) (st:LSt) (r:Loop):Prop where
 params:r.params.toList=ps
 size:r.tmps.size=N
 tmps:∀i,VRel c w (lk T i) (r.tmps.getD i (.tuple #[]))
 okA:ok N r.assign asg.slim
 okB:ok N r.body body.slim
 state:r.state=st.state
 pend:r.pending=st.pend
def BRel (c:Ctx ok) (w:World) (b:Nat):Blk->Prop
 | .cells g cs=>(c.ρ b g=some .nil/\cs=[])\/
  ∃cb base C e fr,c.ρ b g=some (.loc cb base)/\c.O cb/\w.heap[cb]?=some (.cells C e fr)/\Unfrozen fr C.size/\base<=C.size/\VPre c w cs (C.toList.drop base)
 | .map g es=>∃cb es' clock,c.ρ b g=some (.loc cb 0)/\c.O cb/\w.heap[cb]?=some (.map es' clock)/\MRelT c w es es'.toList clock
 | .loop g N T ps asg body st=>∃cb r,c.ρ b g=some (.loc cb 0)/\c.O cb/\w.heap[cb]?=some (.loop r)/\LRel c w N T ps asg body st r
 | .dead _=>True
structure HRel (c:Ctx ok) (h:Heap) (w:World):Prop where
 fresh:∀b,h.get b=none->∀g,c.ρ b g=none
 later:∀b x,h.get b=some x->∀g,x.gen<g->c.ρ b g=none
 blk:∀b x,h.get b=some x->BRel c w b x
 inj:∀b g b' g' cb base base',Live h b g->Live h b' g'->c.ρ b g=some (.loc cb base)->c.ρ b' g'=some (.loc cb base')->b=b'
 disj:∀cb,c.F cb->¬c.O cb
 inF:∀cb,c.F cb->cb<w.heap.size
 inO:∀cb,c.O cb->cb<w.heap.size
structure Evo (c:Ctx ok) (w:World) (c':Ctx ok) (w':World):Prop where
 os:w'.os=w.os
 tape:w'.tape=w.tape
 output:w'.output=w.output
 size:w.heap.size<=w'.heap.size
 shape:∀(cb:Nat) (C:Array Value) (e:TypeId) (fr:Nat×Nat),w.heap[cb]?=some (.cells C e fr)->∃(C':Array Value) (fr':Nat×Nat),w'.heap[cb]?=some (.cells C' e fr')/\C'.size=C.size
 keep:∀cb,cb<w.heap.size->¬c.O cb->w'.heap[cb]?=w.heap[cb]?
 rho:∀b g p,c.ρ b g=some p->c'.ρ b g=some p
 frz:∀cb,c.F cb->c'.F cb
 frzNew:∀cb,c'.F cb->c.F cb\/c.O cb\/w.heap.size<=cb
 own:∀cb,c'.O cb->c.O cb\/w.heap.size<=cb
 base:c'.base=c.base
theorem Evo.refl (c:Ctx ok) (w:World):Evo c w c w:=
 ⟨rfl,rfl,rfl,Nat.le_refl _,fun _ C _ fr h=>⟨C,fr,h,rfl⟩,fun _ _ _=>rfl,fun _ _ _ h=>h,fun _ h=>h,fun _ h=> .inl h,fun _ h=> .inl h,rfl⟩
theorem Evo.trans {c1 c2 c3:Ctx ok} {w1 w2 w3:World} (a:Evo c1 w1 c2 w2) (b:Evo c2 w2 c3 w3):Evo c1 w1 c3 w3 where
 os:=b.os.trans a.os
 tape:=b.tape.trans a.tape
 output:=b.output.trans a.output
 size:=Nat.le_trans a.size b.size
 shape:=fun cb C e fr h=>by
  obtain⟨C',fr',h',e'⟩:=a.shape cb C e fr h
  obtain⟨C'',fr'',h'',e''⟩:=b.shape cb C' e fr' h'
  simp_all
 keep:=fun cb hlt hO=>by
  rw[b.keep cb (Nat.lt_of_lt_of_le hlt a.size) (fun h=>(a.own cb h).elim hO (by omega)),a.keep cb hlt hO]
 rho:=fun b' g p h=>b.rho _ _ _ (a.rho _ _ _ h)
 frz:=fun cb h=>b.frz _ (a.frz _ h)
 frzNew:=fun cb h=>by
  rcases b.frzNew cb h with h|h|h
  ·exact a.frzNew cb h
  ·rcases a.own cb h with h | h
   ·simp_all
   omega
  ·exact .inr (.inr (Nat.le_trans a.size h))
 own:=fun cb h=>by
  rcases b.own cb h with h|h
  ·exact a.own cb h
  ·exact .inr (Nat.le_trans a.size h)
 base:=b.base.trans a.base
theorem Qbd {w:World} {cb:Nat} {o:Obj} (h:w.heap[cb]?=some o):cb<w.heap.size:=by
 grind
theorem Evo.heapF {c c':Ctx ok} {w w':World} (E:Evo c w c' w') (hd:∀cb,c.F cb->¬c.O cb) {cb:Nat} {o:Obj} (hF:c.F cb) (h:w.heap[cb]?=some o):w'.heap[cb]?=some o:=by
 rw[E.keep cb (Qbd h) (hd cb hF),h]
structure Ext (c:Ctx ok) (w:World) (c':Ctx ok) (w':World):Prop where
 rho:∀b g p,c.ρ b g=some p->c'.ρ b g=some p
 frz:∀cb,c.F cb->c'.F cb
 heap:∀(cb:Nat) (o:Obj),c.F cb->w.heap[cb]?=some o->w'.heap[cb]?=some o
 shape:∀(cb:Nat) (C:Array Value) (e:TypeId) (fr:Nat×Nat),w.heap[cb]?=some (.cells C e fr)->∃(C':Array Value) (fr':Nat×Nat),w'.heap[cb]?=some (.cells C' e fr')/\C'.size=C.size
theorem Evo.ext {c c':Ctx ok} {w w':World} (E:Evo c w c' w') (hd:∀cb,c.F cb->¬c.O cb):Ext c w c' w':=
 ⟨E.rho,E.frz,fun _ _ hF h=>E.heapF hd hF h,E.shape⟩
theorem TyAt.mono {c c':Ctx ok} {w w':World} (E:Ext c w c' w') {t n:Nat} {v:Value} (h:TyAt w t n v):TyAt w' t n v:=by
 rcases h with⟨cb,C,fr,h1,h2,h3⟩|h
 ·obtain ⟨C', fr', h4, h5⟩ := E.shape _ _ _ _ h2
  exact .inl ⟨cb,C',fr',h1,h4,by omega⟩
 ·exact .inr h
mutual
theorem VRel.mono {c c':Ctx ok} {w w':World} (E:Ext c w c' w'):∀(x:AV) (v:Value),VRel c w x v->VRel c' w' x v
 | .any,_,_=>by simp[VRel]
 | .bool b,_,h=>by simpa[VRel]using h
 | .int k n,_,h=>by simpa[VRel]using h
 | .str s,_,h=>by simpa[VRel]using h
 | .agg cs,v,h=>by
  simp only[VRel]at h⊢
  obtain⟨vs,rfl,h⟩:=h
  exact⟨vs,rfl,VRels.mono E cs _ h⟩
 | .tup cs,v,h=>by
  simp only[VRel]at h⊢
  obtain⟨vs,rfl,h⟩:=h
  exact⟨vs,rfl,VRels.mono E cs _ h⟩
 | .nilptr,_,h=>by simpa[VRel]using h
 | .ptr b g off,v,h=>by
  simp only[VRel]at h⊢
  obtain⟨cb,base,h1,h2⟩:=h
  exact⟨cb,base,E.rho _ _ _ h1,h2⟩
 | .fptr cs,v,h=>by
  simp only[VRel]at h⊢
  obtain⟨cb,off,C,e,fr,h1,h2,h3,h4⟩:=h
  exact⟨cb,off,C,e,fr,h1,E.frz _ h2,E.heap _ _ h2 h3,VPre.mono E cs _ h4⟩
 | .nilsl,_,h=>by simpa[VRel]using h
 | .sl b g off len sz, v, h => by
  simp only[VRel]at h⊢
  rcases h with⟨h1,h2⟩|⟨cb,base,o,cap,C,e,fr,h1,h2,h3,h4,h5⟩
  ·exact .inl ⟨E.rho _ _ _ h1,h2⟩
  ·obtain ⟨C', fr', h6, h7⟩ := E.shape _ _ _ _ h4
   exact .inr ⟨cb,base,o,cap,C',e,fr',E.rho _ _ _ h1,h2,h3,h6,by rw[h7];exact h5⟩
 | .fsl cs len sz,v,h=>by
  simp only[VRel]at h⊢
  rcases h with h|⟨cb,off,cap,C,e,fr,h1,h2,h3,h4,h5,h6⟩
  ·exact .inl h
  ·exact .inr ⟨cb,off,cap,C,e,fr,h1,h2,h3,E.frz _ h4,E.heap _ _ h4 h5,VPre.mono E cs _ h6⟩
 | .esl,_,h=>by simpa[VRel]using h
 | .nsl,_,h=>by simpa[VRel]using h
 | .nilmap,_,h=>by simpa[VRel]using h
 | .map b g,v,h=>by
  simp only[VRel]at h⊢
  obtain⟨cb,h1,h2⟩:=h
  exact⟨cb,E.rho _ _ _ h1,h2⟩
 | .fmap ks vs,v,h=>by
  simp only[VRel]at h⊢
  obtain⟨mb,es,clock,h1,h2,h3,h4,h5,h6,h7⟩:=h
  exact⟨mb,es,clock,h1,E.frz _ h2,E.heap _ _ h2 h3,h4,h5,VRels.mono E ks _ h6,VRels.mono E vs _ h7⟩
 | .nilfn,_,h=>by simpa[VRel]using h
 | .fn f x y,v,h=>by
  simp only[VRel]at h⊢
  obtain⟨x',y',h1,h2,h3⟩:=h
  exact⟨x',y',h1,VRels.mono E x _ h2,VRels.mono E y _ h3⟩
 | .yld b g,v,h=>by
  simp only[VRel]at h⊢
  obtain⟨cb,h1,h2⟩:=h
  exact⟨cb,E.rho _ _ _ h1,h2⟩
 | .nilif,_,h=>by simpa[VRel]using h
 | .ifc t x,v,h=>by
  simp only[VRel]at h⊢
  obtain⟨x',h1,h2⟩:=h
  exact⟨x',h1,VRel.mono E x _ h2⟩
 | .typed t n x,v,h=>by
  simp only[VRel]at h⊢
  exact⟨h.1.mono E,VRel.mono E x _ h.2⟩
theorem VRels.mono {c c':Ctx ok} {w w':World} (E:Ext c w c' w'):∀(x:List AV) (v:List Value),VRels c w x v->VRels c' w' x v
 |[],_,h=>by simpa[VRels]using h
 |x::xs,v,h=>by
  simp only[VRels]at h⊢
  obtain⟨u,us,h1,h2,h3⟩:=h
  exact⟨u,us,h1,VRel.mono E x _ h2,VRels.mono E xs _ h3⟩
theorem VPre.mono {c c':Ctx ok} {w w':World} (E:Ext c w c' w'):∀(x:List AV) (v:List Value),VPre c w x v->VPre c' w' x v
 |[],_,_=>by simp[VPre]
 |x::xs,v,h=>by
  simp only[VPre]at h⊢
  obtain⟨u,us,h1,h2,h3⟩:=h
  exact⟨u,us,h1,VRel.mono E x _ h2,VPre.mono E xs _ h3⟩
end
theorem MRel.mono {c c':Ctx ok} {w w':World} (E:Ext c w c' w'):∀(x:List (AV×AV)) (es:List MapEntry) (clock:Nat),MRel c w x es clock->MRel c' w' x es clock
 |[],_,_,h=>by simpa[MRel]using h
 |(k,x)::r,es,clock,h=>by
  simp only[MRel]at h⊢
  obtain⟨e,es',h1,h2,h3,h4,h5,h6⟩:=h
  exact⟨e,es',h1,VRel.mono E k _ h2,VRel.mono E x _ h3,h4,h5,MRel.mono E r _ _ h6⟩
theorem LRel.mono {c c':Ctx ok} {w w':World} (E:Ext c w c' w') {N:Nat} {T:Tmps} {ps:List Nat} {asg body:LCode} {st:LSt} {r:Loop} (h:LRel c w N T ps asg body st r):LRel c' w' N T ps asg body st r:=
 ⟨h.params,h.size,fun i=>VRel.mono E _ _ (h.tmps i),h.okA,h.okB,h.state,h.pend⟩
theorem BRel.mono {c c':Ctx ok} {w w':World} (E:Ext c w c' w') {b:Nat} {x:Blk}
    (hO:∀cb base,(∀k,x≠ .dead k)->c.ρ b x.gen=some (.loc cb base)->c'.O cb/\w'.heap[cb]?=w.heap[cb]?) (h:BRel c w b x):BRel c' w' b x:=by
  cases x with
  |dead g=>trivial
  | cells g cs =>
    rcases h with⟨h1,h2⟩|⟨cb,base,C,e,fr,h1,h2,h3,h4,h5,h6⟩
    · exact .inl ⟨E.rho _ _ _ h1,h2⟩
    · obtain ⟨k1, k2⟩ := hO cb base (fun k => by simp) h1
      exact .inr ⟨cb,base,C,e,fr,E.rho _ _ _ h1,k1,by simp_all,h4,h5,VPre.mono E _ _ h6⟩
  | map g es =>
    obtain⟨cb,es',clock,h1,h2,h3,h4⟩:=h
    obtain⟨k1,k2⟩:=hO cb 0 (fun k=>by simp) h1
    exact⟨cb,es',clock,E.rho _ _ _ h1,k1,by simp_all,MRel.mono E _ _ _ h4.1,h4.2⟩
  | loop g N T ps asg body st =>
    obtain⟨cb,r,h1,h2,h3,h4⟩:=h
    obtain⟨k1,k2⟩:=hO cb 0 (fun k=>by simp) h1
    exact⟨cb,r,E.rho _ _ _ h1,k1,by simp_all,h4.mono E⟩
theorem HRel.owned {c:Ctx ok} {h:Heap} {w:World} (H:HRel c h w) {b g cb base:Nat} (hl:Live h b g) (hp:c.ρ b g=some (.loc cb base)):c.O cb:=by
 obtain⟨x,hx,hg,hd⟩:=hl
 have hb:=H.blk b x hx
 subst hg
 cases x with
 |dead g=>exact absurd rfl (hd g)
 |cells g cs=>
  rcases hb with⟨h1,_⟩|⟨cb',base',C,e,fr,h1,h2,_⟩
  ·rw[show c.ρ b g=some (.loc cb base) from hp]at h1;cases h1
  ·rw[show c.ρ b g=some (.loc cb base) from hp]at h1;simp_all
 |map g es=>
  obtain⟨cb',es',clock,h1,h2,_⟩:=hb
  rw[show c.ρ b g=some (.loc cb base) from hp]at h1;cases h1;exact h2
 |loop g N T ps asg body st=>
  obtain⟨cb',r,h1,h2,_⟩:=hb
  rw[show c.ρ b g=some (.loc cb base) from hp]at h1;cases h1;exact h2
def Ctx.with (c:Ctx ok) (b g:Nat) (p:Place) (cb:Option Nat):Ctx ok:=
 {c with ρ:=fun x y=>if x=b/\y=g then some p else c.ρ x y,O:=fun k=>c.O k\/some k=cb}
theorem HRel.put {c:Ctx ok} {h:Heap} {w w':World} (H:HRel c h w) {b cb base:Nat} {x:Blk} (hb:b<lim)
  (hlater:∀y,x.gen<y->c.ρ b y=none)
  (hat:c.ρ b x.gen=none\/c.ρ b x.gen=some (.loc cb base))
  (hcb:cb=w.heap.size\/∃g0 base0,Live h b g0/\c.ρ b g0=some (.loc cb base0))
  (os:w'.os=w.os) (tape:w'.tape=w.tape) (output:w'.output=w.output)
  (size:w.heap.size<=w'.heap.size) (hcb':cb<w'.heap.size)
  (other:∀k,k<w.heap.size->k≠cb->w'.heap[k]?=w.heap[k]?)
  (shape:∀(C:Array Value) (e:TypeId) (fr:Nat×Nat),w.heap[cb]?=some (.cells C e fr)->∃(C':Array Value) (fr':Nat×Nat),w'.heap[cb]?=some (.cells C' e fr')/\C'.size=C.size)
  (hx:Evo c w (c.with b x.gen (.loc cb base) (some cb)) w'->BRel (c.with b x.gen (.loc cb base) (some cb)) w' b x):
  Evo c w (c.with b x.gen (.loc cb base) (some cb)) w'/\HRel (c.with b x.gen (.loc cb base) (some cb)) (h.set b x) w':=by
 have hcbO:cb<w.heap.size->c.O cb:=by
  intro hlt
  rcases hcb with e|⟨g0,base0,hl,hp⟩
  ·omega
  ·exact H.owned hl hp
 have E:Evo c w (c.with b x.gen (.loc cb base) (some cb)) w':=by
  refine⟨os,tape,output,size,?_,?_,?_,fun _ h=>h,fun _ h=> .inl h,?_,rfl⟩
  ·grind
  ·grind
  ·intro x1 y p hp
   show(if x1=b/\y=x.gen then some (Place.loc cb base)else c.ρ x1 y)=some p
   grind
  ·intro k hk
   rcases hk with hk|hk
   ·exact .inl hk
   grind
 refine⟨E,?_⟩
 have hother:∀b2 x2,b2≠b->h.get b2=some x2->(∀k,x2≠ .dead k)->∀cb2 base2,c.ρ b2 x2.gen=some (.loc cb2 base2)->c.O cb2/\cb2≠cb:=by
  intro b2 x2 hne hg hd2 cb2 base2 hp
  have hl2:Live h b2 x2.gen:=⟨x2,hg,rfl,hd2⟩
  have hO:=H.owned hl2 hp
  refine⟨hO,fun e1=>?_⟩
  subst e1
  rcases hcb with e1|⟨g0,base0,hl,hp0⟩
  ·have:=H.inO _ hO;omega
  ·exact hne (H.inj _ _ _ _ _ _ _ hl2 hl hp hp0)
 refine⟨?_,?_,?_,?_,?_,?_,?_⟩
 ·intro b2 hg y
  rw[Tr.Qa2 h hb]at hg
  split at hg
  ·cases hg
  ·rename_i hne
   show(if b2=b/\y=x.gen then some (Place.loc cb base)else c.ρ b2 y)=none
   rw[if_neg (fun e=>hne e.1)]
   exact H.fresh b2 hg y
 ·intro b2 x2 hg y hy
  rw[Tr.Qa2 h hb]at hg
  show(if b2=b/\y=x.gen then some (Place.loc cb base)else c.ρ b2 y)=none
  split at hg
  ·grind
  ·rename_i hne
   rw[if_neg (fun e=>hne e.1)]
   exact H.later b2 x2 hg y hy
 ·intro b2 x2 hg
  rw[Tr.Qa2 h hb]at hg
  split at hg
  ·simp_all
  ·rename_i hne
   refine BRel.mono (E.ext H.disj) ?_ (H.blk b2 x2 hg)
   intro cb2 base2 hd2 hp
   obtain⟨k1,k2⟩:=hother b2 x2 hne hg hd2 cb2 base2 hp
   exact⟨.inl k1,other cb2 (H.inO _ k1) k2⟩
 ·intro b1 g1 b2 g2 cb2 base1 base2 l1 l2 p1 p2
  obtain⟨x1,hg1,rfl,hd1⟩:=l1
  obtain⟨x2,hg2,rfl,hd2⟩:=l2
  rw[Tr.Qa2 h hb]at hg1 hg2
  simp only[Ctx.with]at p1 p2
  by_cases e1:b1=b
  ·grind
  ·rw [if_neg e1] at hg1
   rw[if_neg (fun e=>e1 e.1)]at p1
   by_cases e2:b2=b
   ·grind
   ·rw [if_neg e2] at hg2
    rw[if_neg (fun e=>e2 e.1)]at p2
    exact H.inj _ _ _ _ _ _ _ ⟨x1,hg1,rfl,hd1⟩ ⟨x2,hg2,rfl,hd2⟩ p1 p2
 ·intro k hF hO
  rcases hO with hO|hO
  ·exact H.disj k hF hO
  ·cases hO
   exact H.disj _ hF (hcbO (H.inF _ hF))
 ·intro k hF;exact Nat.lt_of_lt_of_le (H.inF k hF) size
 ·intro k hO
  rcases hO with hO|hO
  ·exact Nat.lt_of_lt_of_le (H.inO k hO) size
  simp_all
theorem HRel.grow {c:Ctx ok} {h:Heap} {w w':World} (H:HRel c h w)
  (os:w'.os=w.os) (tape:w'.tape=w.tape) (output:w'.output=w.output)
  (size:w.heap.size<=w'.heap.size) (other:∀k,k<w.heap.size->w'.heap[k]?=w.heap[k]?):Evo c w c w'/\HRel c h w':=by
 have E:Evo c w c w':=
  ⟨os,tape,output,size,fun k C e fr hk=>⟨C,fr,by grind,rfl⟩,fun k hk _=>other k hk,fun _ _ _ h=>h,fun _ h=>h,fun _ h=> .inl h,fun _ h=> .inl h,rfl⟩
 refine⟨E,H.fresh,H.later,fun b x hg=>?_,H.inj,H.disj,fun k hk=>Nat.lt_of_lt_of_le (H.inF k hk) size,fun k hk=>Nat.lt_of_lt_of_le (H.inO k hk) size⟩
 refine BRel.mono (E.ext H.disj) (fun cb base hd hp=>?_) (H.blk b x hg)
 have hO:=H.owned ⟨x,hg,rfl,hd⟩ hp
 exact⟨hO,other cb (H.inO _ hO)⟩
theorem HRel.frozen {c:Ctx ok} {h:Heap} {w:World} (H:HRel c h w) (F':Nat->Prop) (h1:∀k,c.F k->F' k) (h2:∀k,F' k->¬c.O k/\k<w.heap.size):
  HRel ({c with F:=F'}:Ctx ok) h w:=by
 refine⟨H.fresh,H.later,fun b x hg=>?_,H.inj,fun k hk=>(h2 k hk).1,fun k hk=>(h2 k hk).2,H.inO⟩
 refine BRel.mono (c:=c) (c':={c with F:=F'}) (w:=w) (w':=w) ⟨fun _ _ _ h=>h,h1,fun _ _ _ h=>h,fun _ C _ fr h=>⟨C,fr,h,rfl⟩⟩ (fun cb base hd hp=>?_) (H.blk b x hg)
 exact⟨H.owned ⟨x,hg,rfl,hd⟩ hp,rfl⟩
end Go.AM
namespace Go.AM
inductive HM (α:Type) where
 |ret (a:α)
 |fail
 |look (b:Nat) (k:Option Blk->HM α)
 |put (b:Nat) (x:Blk) (k:HM α)
def HM.run {α:Type}:HM α->Heap->Option (α×Heap)
 | .ret a,h=>some (a,h)
 | .fail,_=>none
 | .look b k,h=>(k (h.get b)).run h
 | .put b x k,h=>bif Nat.blt b lim then k.run (h.set b x)else none
def HM.bind {α β:Type}:HM α->(α->HM β)->HM β
 | .ret a,f=>f a
 | .fail,_=> .fail
 | .look b k,f=> .look b fun x=>(k x).bind f
 | .put b x k,f=> .put b x (k.bind f)
def HM.opt {α:Type}:Option α->HM α
 |some a=> .ret a
 |none=> .fail
def HM.cells {α:Type} (b g:Nat) (k:List AV->HM α):HM α:=
 .look b fun x=>match x with
  |some (.cells g' cs)=>bif Nat.beq g' g then k cs else .fail
  |_=> .fail
def HM.new {α:Type} (s:Site) (i:Nat) (x:Nat->Blk) (k:Nat->Nat->HM α):HM α:=
 match s with
 | .dyn=> .look i fun y=>match y with
  |none=> .put i (x 0) (k i 0)
  |some _=> .fail
 | .st b=> .look b fun y=>match y with
  |none=> .put b (x 0) (k b 0)
  |some z=> .put b (x (z.gen+1)) (k b (z.gen+1))
def AV.one:AV->Bool
 | .any| .agg _| .tup _=>false
 |_=>true
def AV.boxable:AV->Bool
 | .any| .tup _=>false
 |_=>true
def AV.cells:AV->List AV
 | .agg cs=>cs
 |v=>[v]
def putR (cs:List AV) (off:Nat) (vs:List AV):List AV:=
 match vs with
 |[v]=>cs.set off v
 |_=>cs.take off++vs++cs.drop (off+vs.length)
def lo:IntKind->Int
 | .i8=> -128| .i16=> -32768| .i32=> -2147483648| .i64=> -9223372036854775808
 | .u8| .u16| .u32| .u64=>0
def hi:IntKind->Int
 | .i8=>127| .i16=>32767| .i32=>2147483647| .i64=>9223372036854775807
 | .u8=>255| .u16=>65535| .u32=>4294967295| .u64=>18446744073709551615
def wr (k:IntKind) (n:Int):Int:=if lo k<=n/\n<=hi k then n else k.wrap n
theorem wr_of {k:IntKind} {n:Int} (h1:lo k<=n) (h2:n<=hi k):wr k n=n:=if_pos ⟨h1,h2⟩
theorem wr_eq (k:IntKind) (n:Int):wr k n=k.wrap n:=by
 unfold wr
 split
 ·rename_i h
  obtain⟨h1,h2⟩:=h
  cases k<;>simp only[lo,hi]at h1 h2<;>simp only[IntKind.wrap,IntKind.bits,IntKind.signed,Bool.true_and,Bool.false_and]<;>(repeat' split)<;>simp_all<;>omega
 ·rfl
def up:Tmps->Nat->AV->Tmps
 |[],i,v=>[(i,v)]
 |(j,u)::r,i,v=>bif Nat.beq j i then(j,v)::r else(j,u)::up r i v
def rm:Tmps->List Nat->Tmps
 |[],_=>[]
 |(j,u)::r,l=>bif l.any (Nat.beq j)then rm r l else(j,u)::rm r l
def ev (T:Tmps):Opd->AV
 | .t i=>lk T i
 | .c v=>v
 | .f n=> .fn n [] []
 | .g _=> .any
def aBin (op : BinOp) (x y : AV) : Option AV :=
 match x,y with
 | .int k a, .int k' b =>
  match op with
  | .shl=>if b<0 then none else some (.int k (wr k (a*2^(min b.toNat k.bits))))
  | .shr=>if b<0 then none else some (.int k (a.fdiv (2^(min b.toNat k.bits))))
  | _ =>
   if k=k' then
    match op with
    | .add=>some (.int k (wr k (a+b)))
    | .sub=>some (.int k (wr k (a-b)))
    | .mul=>some (.int k (wr k (a*b)))
    | .quo=>if b=0 then none else some (.int k (wr k (a.tdiv b)))
    | .rem=>if b=0 then none else some (.int k (a.tmod b))
    | .and=>some (.int k (wr k (BitVec.ofInt k.bits a&&&BitVec.ofInt k.bits b).toNat))
    | .or=>some (.int k (wr k (BitVec.ofInt k.bits a|||BitVec.ofInt k.bits b).toNat))
    | .xor=>some (.int k (wr k (BitVec.ofInt k.bits a^^^BitVec.ofInt k.bits b).toNat))
    | .andNot=>some (.int k (wr k (BitVec.ofInt k.bits a&&& ~~~BitVec.ofInt k.bits b).toNat))
    | .eql=>some (.bool (decide (a=b)))
    | .neq=>some (.bool (!decide (a=b)))
    | .lss=>some (.bool (decide (a<b)))
    | .leq=>some (.bool (decide (a<=b)))
    | .gtr=>some (.bool (decide (b<a)))
    | .geq=>some (.bool (decide (b<=a)))
    |_=>none
   else none
 | .str a,.str b=>
  match op with
  | .add=>if a.length+b.length<=140737488355328 then some (.str (a++b))else none
  | .eql=>some (.bool (decide (a=b)))
  | .neq=>some (.bool (!decide (a=b)))
  | .lss=>some (.bool (Op.bytesLess a b))
  | .leq=>some (.bool (Op.bytesLess a b||decide (a=b)))
  | .gtr=>some (.bool (!(Op.bytesLess a b||decide (a=b))))
  | .geq=>some (.bool (!Op.bytesLess a b))
  |_=>none
 |_,_=>none
def aUn (op:UnOp) (x:AV):Option AV:=
 match op,x with
 | .neg,.int k n=>some (.int k (wr k (0-n)))
 | .xor,.int k n=>some (.int k (wr k (BitVec.ofInt k.bits (if k.signed then-1 else hi k)^^^BitVec.ofInt k.bits n).toNat))
 | .not,.bool b=>some (.bool (!b))
 |_,_=>none
def eqCell:LK->AV->AV->Option Bool
 | .i,.int k a,.int k' b=>if k=k' then some (decide (a=b))else none
 | .b,.bool a,.bool b=>some (decide (a=b))
 | .s,.str a,.str b=>some (decide (a=b))
 |_,_,_=>none
def eqCells:List LK->List AV->List AV->Option Bool
 |[],[],[]=>some true
 |k::ks,x::xs,y::ys=>match eqCell k x y,eqCells ks xs ys with
  |some a,some b=>some (a&&b)
  |_,_=>none
 |_,_,_=>none
def isNil:AV->Option (Bool×Nat)
 | .nilptr=>some (true,1)
 | .ptr .. | .fptr _=>some (false,1)
 | .nilsl=>some (true,2)
 | .fsl cs _ _=>match cs with|[]=>none|_::_=>some (false,2)
 | .sl _ _ _ len _=>match len with|0=>none|_+1=>some (false,2)
 | .nsl=>some (false,2)
 | .nilmap=>some (true,3)
 | .map .. =>some (false,3)
 | .fmap .. =>some (false,3)
 | .nilfn=>some (true,4)
 | .fn .. =>some (false,4)
 | .yld .. =>some (false,4)
 | .nilif=>some (true,5)
 | .ifc .. =>some (false,5)
 | .typed _ _ (.ptr ..)=>some (false,1)
 | .typed _ _ (.sl ..)=>some (false,2)
 |_=>none
def aEq (k:EqK) (neg:Bool) (x y:AV):Option AV:=
 match k with
 | .flat row ks => match row, x, y with
  |true,.agg xs,.agg ys=>match eqCells ks xs ys with
   |some b=>some (.bool (b !=neg))
   |none=>none
  |false,.bool a,.bool b=>some (.bool (decide (a=b) !=neg))
  |_,_,_=>none
 | .nil kind=>match isNil x,isNil y with
  |some (b,k1),some (true,k2)=>if k1=kind/\k2=kind then some (.bool (b !=neg))else none
  |_,_=>none
def aLoad (n:Option Nat) (x:AV):HM AV:=
 match x with
 | .ptr b g off=> .cells b g fun cs=>match n with
  |none=> .opt cs[off]?
  |some n=>if off+n<=cs.length then .ret (.agg ((cs.drop off).take n))else .fail
 | .fptr cs=>match n with
  |none=> .opt cs.head?
  |some n=>if n<=cs.length then .ret (.agg (cs.take n))else .fail
 |_=> .fail
def aStore (n:Nat) (x v:AV):HM AV:=
 match x with
 | .ptr b g off=> .cells b g fun cs=>
  if v.cells.length=n/\off+n<=cs.length/\v.cells.all AV.one=true then .put b (.cells g (putR cs off v.cells)) (.ret .any)else .fail
 |_=> .fail
def fillA (cs:List AV):List (Nat×Nat×AV)->Option (List AV)
 |[]=>some cs
 |(off,size,v)::r=>if v.cells.length=size/\off+size<=cs.length/\v.boxable=true then fillA (putR cs off v.cells) r else none
def aBox (s:Site) (i:Nat) (x:AV):HM AV:=
 if x.boxable then .new s i (fun g=> .cells g x.cells) fun b g=> .ret (.ptr b g 0)else .fail
def aBuild (zero:List AV) (parts:List (Nat×Nat×AV)):Option AV:=
 match fillA zero parts with
 |some cs=>some (.agg cs)
 |none=>none
def aBuildSlice (frozen:Bool) (s:Site) (i:Nat) (sz len:Nat) (zero:List AV) (parts:List (Nat×Nat×AV)):HM AV:=
 match fillA zero parts with
 | some cs => if cs.length = len * sz then
   (if frozen then(if cs.all AV.one=true then .ret (.fsl cs len sz)else .fail)else .new s i (fun g=> .cells g cs) fun b g=> .ret (.sl b g 0 len sz))
  else .fail
 |none=> .fail
def bnd (d:Int):Option AV->Option Int
 |none=>some d
 |some (.int _ n)=>some n
 |some _=>none
def aSlice (x : AV) (l h m : Option AV) : Option AV :=
 match bnd 0 l with
 |none=>none
 | some lw =>
  match m with
  | some (.int _ mx) =>
   match h with
   | some (.int _ hh) => if lw = 0 /\ hh = 0 /\ mx = 0 then (match x with | .sl .. | .fsl .. | .nilsl | .esl => some .esl | _ => none)
    else(match x with
     | .sl b g off len sz=>if 0<=lw/\lw<=hh/\hh<=mx/\mx<=len then some (.sl b g (off+lw.toNat*sz) (hh.toNat-lw.toNat) sz)else none
     | .fsl cs len sz=>if 0<=lw/\lw<=hh/\hh<=mx/\mx<=len then some (.fsl ((cs.drop (lw.toNat*sz)).take ((hh.toNat-lw.toNat)*sz)) (hh.toNat-lw.toNat) sz)else none
     |_=>none)
   |_=>none
  |some _=>none
  | none =>
   match x with
   | .sl b g off len sz=>
    match bnd len h with
    |none=>none
    |some hh=>if 0<=lw/\lw<=hh/\hh<=len/\(0<len\/0<off+1)then some (.sl b g (off+lw.toNat*sz) (hh.toNat-lw.toNat) sz)else none
   | .fsl cs len sz=>
    match bnd len h with
    |none=>none
    |some hh=>if 0<=lw/\lw<=hh/\hh<=len then some (.fsl ((cs.drop (lw.toNat*sz)).take ((hh.toNat-lw.toNat)*sz)) (hh.toNat-lw.toNat) sz)else none
   | .nilsl=>
    match bnd 0 h with
    |none=>none
    |some hh=>if lw=0/\hh=0 then some .nilsl else none
   | .esl=>
    match bnd 0 h with
    |none=>none
    |some hh=>if lw=0/\hh=0 then some .esl else none
   | .str s=>
    match bnd s.length h with
    |none=>none
    |some hh=>if 0<=lw/\lw<=hh/\hh<=s.length then some (.str ((s.drop lw.toNat).take (hh.toNat-lw.toNat)))else none
   |_=>none
def aField (n:Option Nat) (off:Nat) (x:AV):Option AV:=
 match x with
 | .agg cs=>match n with
  |none=>cs[off]?
  |some n=>if off+n<=cs.length then some (.agg ((cs.drop off).take n))else none
 |_=>none
def aFAddr (off:Nat) (x:AV):Option AV:=
 match x with
 | .ptr b g o=>some (.ptr b g (o+off))
 | .fptr cs=>some (.fptr (cs.drop off))
 | .typed _ _ (.ptr b g o)=>some (.ptr b g (o+off))
 |_=>none
def aIAddr (arr:Option Nat) (sz:Nat) (x i:AV):Option AV:=
 match i with
 | .int _ i=>
  match arr,x with
  |none,.sl b g off len s=>if 0<=i/\i<len/\s=sz then some (.ptr b g (off+i.toNat*sz))else none
  |none,.fsl cs len s=>if 0<=i/\i<len/\s=sz then some (.fptr (cs.drop (i.toNat*sz)))else none
  |some n,.ptr b g o=>if 0<=i/\i<n then some (.ptr b g (o+i.toNat*sz))else none
  |some n,.fptr cs=>if 0<=i/\i<n then some (.fptr (cs.drop (i.toNat*sz)))else none
  |_,_=>none
 |_=>none
def aIndex (arr : Option (Nat × Nat × Bool)) (x i : AV) : Option AV :=
 match i with
 | .int _ i=>
  match arr,x with
  | some (n, sz, row), .agg cs => if 0 <= i /\ i < n then
    (if row then(if i.toNat*sz+sz<=cs.length then some (.agg ((cs.drop (i.toNat*sz)).take sz))else none)else cs[i.toNat*sz]?)else none
  |none,.str s=>if 0<=i then(match s[i.toNat]? with|some b=>some (.int .u8 b.toNat)|none=>none)else none
  |_,_=>none
 |_=>none
def aLen (x:AV):HM AV:=
 match x with
 | .str s=> .ret (.int .i64 s.length)
 | .sl _ _ _ len _=> .ret (.int .i64 len)
 | .fsl _ len _=> .ret (.int .i64 len)
 | .typed _ _ (.sl _ _ _ len _)=> .ret (.int .i64 len)
 | .nilsl| .esl| .nsl| .nilmap=> .ret (.int .i64 0)
 | .fmap ks _=> .ret (.int .i64 ks.length)
 | .map b g=> .look b fun y=>match y with
  |some (.map g' es)=>bif Nat.beq g' g then .ret (.int .i64 es.length)else .fail
  |_=> .fail
 |_=> .fail
def aSrc (sz:Nat) (x:AV) (k:List AV->Nat->HM AV):HM AV:=
 match x with
 | .sl b g off len s=>if s=sz then .cells b g fun cs=>if off+len*sz<=cs.length then k ((cs.drop off).take (len*sz)) len else .fail else .fail
 | .fsl cs len s=>if s=sz then k cs len else .fail
 | .nilsl| .esl| .nsl=>k [] 0
 | .str s=>if sz=1 then k (s.map fun b=> .int .u8 b.toNat) s.length else .fail
 |_=> .fail
def slLen:AV->Nat
 | .sl _ _ _ len _=>len
 |_=>0
def aAppend (s : Site) (i : Nat) (sz bytes : Nat) (x y : AV) : HM AV :=
 aSrc sz y fun ys n =>
  if (slLen x + n) * bytes <= 140737488355328 /\ slLen x + n <= 140737488355328 /\ ys.all AV.one = true then
   match x with
   | .nilsl=>match n with
    |0=> .ret .nilsl
    |n+1=> .new s i (fun g=> .cells g ys) fun b g=> .ret (.sl b g 0 (n+1) sz)
   | .esl=>match n with
    |0=> .ret .esl
    |n+1=> .new s i (fun g=> .cells g ys) fun b g=> .ret (.sl b g 0 (n+1) sz)
   | .fsl cs len s'=>match n with
    |0=> .ret (.fsl cs len s')
    |_+1=> .fail
   | .sl b g off len s' =>
    if s'=sz then
     .cells b g fun cs=>if off+len*sz<=cs.length then
      .put b (.cells (g+1) ((cs.drop off).take (len*sz)++ys)) (.ret (.sl b (g+1) 0 (len+n) sz))
     else .fail
    else .fail
   | .typed t (m + 1) (.sl b g off len s') =>
    if s'=sz/\0<m/\len+n<=m then
     .cells b g fun cs=>if off+(len+n)*sz<=cs.length then
      .put b (.cells g (putR cs (off+len*sz) ys)) (.ret (.typed t (m+1) (.sl b g off (len+n) sz)))
     else .fail
    else .fail
   |_=> .fail
  else .fail
def aSliceK (sz:Nat) (x:AV) (l h:Option AV):Option AV:=
 match x with
 | .sl b g off len s=>match bnd 0 l,bnd len h with
  |some lw,some hh=>if s=sz/\0<=lw/\lw<=hh/\hh<=len/\lw<len then some (.typed 0 (len-lw.toNat+1) (.sl b g (off+lw.toNat*sz) (hh.toNat-lw.toNat) sz))else none
  |_,_=>none
 | .typed _ (m+1) (.sl b g off len s)=>match bnd 0 l,bnd len h with
  |some lw,some hh=>if s=sz/\0<=lw/\lw<=hh/\hh<=m/\lw<m then some (.typed 0 (m-lw.toNat+1) (.sl b g (off+lw.toNat*sz) (hh.toNat-lw.toNat) sz))else none
  |_,_=>none
 |_=>none
def aMakeSlice (s:Site) (i:Nat) (sz bytes:Nat) (zero:List AV) (l c:AV):HM AV:=
 match l,c with
 | .int _ l, .int _ c => if 0 <= l /\ l <= c /\ bytes * c <= 140737488355328 /\ c <= 140737488355328 then
   .new s i (fun g=> .cells g (List.replicate c.toNat zero).flatten) fun b g=> .ret (.sl b g 0 l.toNat sz)
  else .fail
 |_,_=> .fail
def aExtract (i:Nat) (x:AV):Option AV:=
 match x with
 | .tup vs=>vs[i]?
 |_=>none
end Go.AM
